/- Several texts as one; printed by merge.py. -/
import Derived.Test.YthnoaapghcadgaaDoorPack9
import Derived.KernelRfl
/- Plain: where known pods go. -/
namespace Go.Proofs.YthnoaapghcadgaaDoor
open Go.JW Go.RowKit
def nmB1 (b : UInt8) : ByteArray := ⟨#[b]⟩
def nmSsd : ByteArray := ⟨#[115, 115, 100]⟩
def nmWest : ByteArray := ⟨#[119, 101, 115, 116]⟩
def kA : NodeD := ⟨nmB1 97, 4, 4, [nmSsd], [], false⟩
def kB : NodeD := ⟨nmB1 98, 8, 8, [], [], false⟩
def kC : NodeD := ⟨nmB1 99, 2, 2, [], [nmWest], false⟩
def kD : NodeD := ⟨nmB1 100, 9, 9, [], [], true⟩
def kS1 : LedD := ⟨[(nmB1 97, kA)], []⟩
def kS2 : LedD := ⟨[(nmB1 97, kA), (nmB1 98, kB)], []⟩
def kS3 : LedD := ⟨[(nmB1 97, kA), (nmB1 98, kB), (nmB1 99, kC)], []⟩
def kS4 : LedD := ⟨[(nmB1 97, kA), (nmB1 98, kB), (nmB1 99, kC), (nmB1 100, kD)], []⟩
def kPods : List PodD := [⟨nmB1 112, 1, 2, 2, [], [], false⟩, ⟨nmB1 113, 1, 2, 2, [], [], false⟩, ⟨nmB1 114, 1, 0, 0, [nmSsd], [], false⟩, ⟨nmB1 115, 1, 2, 2, [], [nmWest], false⟩]
def kPl (a b c d : UInt8) : List PlaceD := [⟨nmB1 112, nmB1 a, 2, 2, false⟩, ⟨nmB1 113, nmB1 b, 2, 2, false⟩, ⟨nmB1 114, nmB1 c, 0, 0, false⟩, ⟨nmB1 115, nmB1 d, 2, 2, false⟩]
theorem kputE1 : putE ⟨[], []⟩ kA = 0 := by decide +kernel
theorem kputE2 : putE kS1 kB = 0 := by decide +kernel
theorem kputE3 : putE kS2 kC = 0 := by decide +kernel
theorem kputE4 : putE kS3 kD = 0 := by decide +kernel
theorem kall0 : allP kS4 0 kPods [] = some (kPl 98 97 97 98) := by kernel_rfl
theorem kall1 : allP kS4 1 kPods [] = some (kPl 97 97 97 99) := by kernel_rfl
theorem kall2 : allP kS4 2 kPods [] = some (kPl 97 98 97 99) := by kernel_rfl
end Go.Proofs.YthnoaapghcadgaaDoor
/- Walk: PackKnown. -/
namespace Go.JW
section
variable {P : Program} {f : FuncId} {R : Ending → World → Prop} {k : List Item} {n : Nat} {fr : Nat → Value} {w0 : World} {M : Nat → Prop} {σ : PH} {K K' : List HP} {ops : Array Oper}
/-- A literal's block that reads as a row, not written any more. -/
theorem LS.frozenL {α : Type} [Rep α] {L : List Oper} (l : List α) (b : Nat) {e : Nat} {cs : List Value} {put : HP → List HP} (hc : CellsL σ cs l) (h : ∀ σ', PH.le σ σ' → RepL σ' (.slice (some ⟨b, 0, none⟩) l.length l.length) l → LS P false ops f R k L n fr w0 M σ' K')
    (hf : FindB b K (.cells (List.toArray cs) e (0, 0)) put K' := by infer_instance) (hl : l.length ≤ 140737488355328 := by first | decide | (simp; done) | (simp; omega)) : LS P false ops f R k L n fr w0 M σ K := by
  have h1 : LS P false ops f R k L n fr w0 M σ (rowD 0 e (.slice (some ⟨b, 0, none⟩) l.length l.length) l :: K') := LS.freeze0 (l := l) _ h (hl := hl) (hf := FindD.head)
  refine ⟨fun w hw => h1.out w (hw.weak fun F hF => ?_)⟩
  obtain ⟨F1, ⟨g1, g2⟩, g3, g4⟩ := hf.get hF
  exact ⟨F1, ⟨cs, by rw [fromN_zero]; exact hc, by rw [hc.len], hc.one, _, _, rfl, Nat.le_refl _, by omega, .inr ⟨b, cs, rfl, g1, g2, by rw [hc.len]; exact Nat.le_refl _, by rw [← hc.len]; simp⟩⟩, g3, g4⟩
end
end Go.JW
namespace Go.Proofs.YthnoaapghcadgaaDoor
open Go.JW Go.RowKit
def kL : Nat → List PlaceD
  | 0 => kPl 98 97 97 98
  | 1 => kPl 97 97 97 99
  | _ => kPl 97 98 97 99
def kWant : Nat → ByteArray
  | 0 => ⟨#[98, 97, 97, 98]⟩
  | 1 => ⟨#[97, 97, 97, 99]⟩
  | _ => ⟨#[97, 98, 97, 99]⟩
def kCat (j : Nat) : Nat → ByteArray
  | 0 => ⟨#[]⟩
  | i + 1 => kCat j i ++ ((kL j).getD i ⟨⟨#[]⟩, ⟨#[]⟩, 0, 0, false⟩).node
theorem kCat_want : ∀ j : Fin 3, kCat j.val 4 = kWant j.val := by decide +kernel
theorem kCat_size : ∀ j : Fin 3, ∀ i : Fin 5, (kCat j.val i.val).size ≤ 16 := by decide +kernel
theorem kL_size : ∀ j : Fin 3, ∀ i : Fin 4, ((kL j.val).getD i.val ⟨⟨#[]⟩, ⟨#[]⟩, 0, 0, false⟩).node.size ≤ 16 := by decide +kernel
theorem kpack (j : Nat) (hj : j < 3) : packE kS4 1 kPods (j : Int) = 0 ∧ packL kS4 1 kPods (j : Int) = kL j ∧ (kL j).length = 4 := by
  have hz : ¬ 0 < (tk kS4.taken 1).length := by simp [tk, kS4, asg]
  have h : allP kS4 (j : Int) kPods [] = some (kL j) := by
    rcases (show j = 0 ∨ j = 1 ∨ j = 2 by omega) with rfl | rfl | rfl
    · exact kall0
    · exact kall1
    · exact kall2
  refine ⟨by rw [packE, if_neg hz, if_neg (by simp [kPods]), h], by rw [packL, if_neg hz, if_neg (by simp [kPods]), h]; rfl, ?_⟩
  rcases (show j = 0 ∨ j = 1 ∨ j = 2 by omega) with rfl | rfl | rfl <;> rfl
theorem strL (σ : PH) {s : ByteArray} (h : s.size ≤ 140737488355328) : CellsL σ [Value.string s] [s] := CellsL.one_ ⟨rfl, h⟩
theorem rep_node (σ : PH) (n : NodeD) {a1 a2 : Option Addr} {c1 c2 : Nat} (h1 : n.name.size ≤ 140737488355328) (h2 : I64 n.cpu) (h3 : I64 n.mem) (h4 : RepL σ (.slice a1 n.marks.length c1) n.marks) (h5 : RepL σ (.slice a2 n.taints.length c2) n.taints) :
    Rep.rep σ (nodeC n (.slice a1 n.marks.length c1) (.slice a2 n.taints.length c2)) n := ⟨_, _, rfl, h1, h2, h3, h4, h5⟩
theorem rep_pod (σ : PH) (p : PodD) {v1 v2 : Value} (h1 : p.name.size ≤ 140737488355328) (h0 : I64 p.shard) (h2 : I64 p.cpu) (h3 : I64 p.mem) (h4 : RepL σ v1 p.picks) (h5 : RepL σ v2 p.bears) :
    Rep.rep σ (podC p v1 v2) p := ⟨_, _, rfl, h1, h0, h2, h3, h4, h5⟩
theorem knownW_c (mode : Int) (hm : I64 mode) (w : World) (hT : TopsAt (hp w)) : Calls Tryd.prog 6 #[.int .i64 mode] w fun e w' => e = .returned (.bool true) ∧ Below w.heap.size w w' := by
  obtain ⟨q1, q2⟩ := wmod mode 3 (by omega)
  obtain ⟨j, hj⟩ : ∃ j : Nat, (j : Int) = mode % 3 := ⟨(mode % 3).toNat, by omega⟩
  have hj3 : j < 3 := by omega
  obtain ⟨hE, hL, hLl⟩ := kpack j hj3
  have i0 : LedInv ⟨[], []⟩ 0 := LedInv.empty 0
  have i1 : LedInv kS1 0 := i0.put' kA (by rw [putN, if_pos kputE1]; rfl)
  have i2 : LedInv kS2 0 := i1.put' kB (by rw [putN, if_pos kputE2]; rfl)
  have i3 : LedInv kS3 0 := i2.put' kC (by rw [putN, if_pos kputE3]; rfl)
  have i4 : LedInv kS4 0 := i3.put' kD (by rw [putN, if_pos kputE4]; rfl)
  refine RS.enter Tryd.func6 Tryd.ntmps6 rfl rfl ?_
  (repeat (first | refine RS.seq ?_ | refine RS.region ?_ | refine RS.regionQ ?_ (by kernel_rfl) (by kernel_rfl) | refine RS.skip ?_ | refine RS.inBlock ?_ | refine RS.block ?_ | refine RS.exit ?_)); refine asB ?_; refine LS.done ?_
  (repeat (first | refine RS.seq ?_ | refine RS.region ?_ | refine RS.regionQ ?_ (by kernel_rfl) (by kernel_rfl) | refine RS.skip ?_ | refine RS.inBlock ?_ | refine RS.block ?_ | refine RS.exit ?_)); skip
  refine callP ?_ (hc := fun w' hw => known8_c w' (hT.mono hw.imm))
  refine not_ ?_; refine LS.done ?_
  (repeat (first | refine RS.seq ?_ | refine RS.region ?_ | refine RS.regionQ ?_ (by kernel_rfl) (by kernel_rfl) | refine RS.skip ?_ | refine RS.inBlock ?_ | refine RS.block ?_ | refine RS.exit ?_)); refine RS.condF ?_
  (repeat (first | refine RS.seq ?_ | refine RS.region ?_ | refine RS.regionQ ?_ (by kernel_rfl) (by kernel_rfl) | refine RS.skip ?_ | refine RS.inBlock ?_ | refine RS.block ?_ | refine RS.exit ?_)); skip
  refine newL (fun bl => ?_)
  refine asP ?_; refine LS.done ?_
  (repeat (first | refine RS.seq ?_ | refine RS.region ?_ | refine RS.regionQ ?_ (by kernel_rfl) (by kernel_rfl) | refine RS.skip ?_ | refine RS.inBlock ?_ | refine RS.block ?_ | refine RS.exit ?_)); refine mvP ?_; refine bin_eql_P ?_; refine LS.done ?_
  (repeat (first | refine RS.seq ?_ | refine RS.region ?_ | refine RS.regionQ ?_ (by kernel_rfl) (by kernel_rfl) | refine RS.skip ?_ | refine RS.inBlock ?_ | refine RS.block ?_ | refine RS.exit ?_)); refine RS.condF ?_
  (repeat (first | refine RS.seq ?_ | refine RS.region ?_ | refine RS.regionQ ?_ (by kernel_rfl) (by kernel_rfl) | refine RS.skip ?_ | refine RS.inBlock ?_ | refine RS.block ?_ | refine RS.exit ?_)); refine mvP ?_; refine bld (vals := [(0, .int _ _), (1, .int _ _)]) [_, _] ?_; refine bldS [.string nmSsd] [.string nmSsd] (fun b18 => ?_); refine LS.frozenL [nmSsd] b18 (strL _ (by decide)) (fun σ1 hle1 hr1 => ?_); refine bld (vals := [(0, .string (nmB1 97)), (1, .agg (List.toArray [.int .i64 4, .int .i64 4])), (2, .slice (some ⟨b18, 0, none⟩) 1 1)]) (nodeC kA (.slice (some ⟨b18, 0, none⟩) 1 1) (.slice none 0 0)) ?_
  refine putL' kA 0 kS1 _ _ _ _ i0 (by omega) kputE1 (by rw [putN, if_pos kputE1]; rfl) (ArgAt.of (rep_node _ kA (by decide) (by decide) (by decide) hr1 (RepL.nil _ _ _))) (fun σ2 hle2 => ?_)
  refine LS.done ?_
  (repeat (first | refine RS.seq ?_ | refine RS.region ?_ | refine RS.regionQ ?_ (by kernel_rfl) (by kernel_rfl) | refine RS.skip ?_ | refine RS.inBlock ?_ | refine RS.block ?_ | refine RS.exit ?_)); refine mvP ?_; refine bld (vals := [(0, .int _ _), (1, .int _ _)]) [_, _] ?_; refine bld (vals := [(0, .string (nmB1 98)), (1, .agg (List.toArray [.int .i64 8, .int .i64 8]))]) (nodeC kB (.slice none 0 0) (.slice none 0 0)) ?_
  refine putL' kB 0 kS2 _ _ _ _ i1 (by omega) kputE2 (by rw [putN, if_pos kputE2]; rfl) (ArgAt.of (rep_node _ kB (by decide) (by decide) (by decide) (RepL.nil _ _ _) (RepL.nil _ _ _))) (fun σ3 hle3 => ?_)
  refine LS.done ?_
  (repeat (first | refine RS.seq ?_ | refine RS.region ?_ | refine RS.regionQ ?_ (by kernel_rfl) (by kernel_rfl) | refine RS.skip ?_ | refine RS.inBlock ?_ | refine RS.block ?_ | refine RS.exit ?_)); refine mvP ?_; refine bld (vals := [(0, .int _ _), (1, .int _ _)]) [_, _] ?_; refine bldS [.string nmWest] [.string nmWest] (fun b27 => ?_); refine LS.frozenL [nmWest] b27 (strL _ (by decide)) (fun σ4 hle4 hr4 => ?_); refine bld (vals := [(0, .string (nmB1 99)), (1, .agg (List.toArray [.int .i64 2, .int .i64 2])), (3, .slice (some ⟨b27, 0, none⟩) 1 1)]) (nodeC kC (.slice none 0 0) (.slice (some ⟨b27, 0, none⟩) 1 1)) ?_
  refine putL' kC 0 kS3 _ _ _ _ i2 (by omega) kputE3 (by rw [putN, if_pos kputE3]; rfl) (ArgAt.of (rep_node _ kC (by decide) (by decide) (by decide) (RepL.nil _ _ _) hr4)) (fun σ5 hle5 => ?_)
  refine LS.done ?_
  (repeat (first | refine RS.seq ?_ | refine RS.region ?_ | refine RS.regionQ ?_ (by kernel_rfl) (by kernel_rfl) | refine RS.skip ?_ | refine RS.inBlock ?_ | refine RS.block ?_ | refine RS.exit ?_)); refine mvP ?_; refine bld (vals := [(0, .int _ _), (1, .int _ _)]) [_, _] ?_; refine bld (vals := [(0, .string (nmB1 100)), (1, .agg (List.toArray [.int .i64 9, .int .i64 9])), (4, .bool true)]) (nodeC kD (.slice none 0 0) (.slice none 0 0)) ?_
  refine putL' kD 0 kS4 _ _ _ _ i3 (by omega) kputE4 (by rw [putN, if_pos kputE4]; rfl) (ArgAt.of (rep_node _ kD (by decide) (by decide) (by decide) (RepL.nil _ _ _) (RepL.nil _ _ _))) (fun σ6 hle6 => ?_)
  refine LS.done ?_
  (repeat (first | refine RS.seq ?_ | refine RS.region ?_ | refine RS.regionQ ?_ (by kernel_rfl) (by kernel_rfl) | refine RS.skip ?_ | refine RS.inBlock ?_ | refine RS.block ?_ | refine RS.exit ?_)); refine bld (vals := [(0, .int _ _), (1, .int _ _)]) [_, _] ?_; refine bld (vals := [(0, .string _), (1, .int _ _), (2, .agg (List.toArray [_, _]))]) [_, _, _, _, _, _, _] ?_; refine bld (vals := [(0, .int _ _), (1, .int _ _)]) [_, _] ?_; refine bld (vals := [(0, .string _), (1, .int _ _), (2, .agg (List.toArray [_, _]))]) [_, _, _, _, _, _, _] ?_; refine bldS [.string nmSsd] [.string nmSsd] (fun b38 => ?_); refine LS.frozenL [nmSsd] b38 (strL _ (by decide)) (fun σ7 hle7 hr7 => ?_); refine bld (vals := [(0, .string _), (1, .int _ _), (3, .slice _ _ _)]) [_, _, _, _, _, _, _] ?_; refine bld (vals := [(0, .int _ _), (1, .int _ _)]) [_, _] ?_; refine bldS [.string nmWest] [.string nmWest] (fun b41 => ?_); refine LS.frozenL [nmWest] b41 (strL _ (by decide)) (fun σ8 hle8 hr8 => ?_); refine bld (vals := [(0, .string _), (1, .int _ _), (2, .agg (List.toArray [_, _])), (4, .slice _ _ _)]) [_, _, _, _, _, _, _] ?_; refine bldS [.agg _, .agg _, .agg _, .agg _] (podC ⟨nmB1 112, 1, 2, 2, [], [], false⟩ (.slice none 0 0) (.slice none 0 0) ++ (podC ⟨nmB1 113, 1, 2, 2, [], [], false⟩ (.slice none 0 0) (.slice none 0 0) ++ (podC ⟨nmB1 114, 1, 0, 0, [nmSsd], [], false⟩ (.slice (some ⟨b38, 0, none⟩) 1 1) (.slice none 0 0) ++ (podC ⟨nmB1 115, 1, 2, 2, [], [nmWest], false⟩ (.slice none 0 0) (.slice (some ⟨b41, 0, none⟩) 1 1) ++ [])))) (fun b43 => ?_); refine LS.frozenL kPods b43 ⟨_, _, rfl, rep_pod _ ⟨nmB1 112, 1, 2, 2, [], [], false⟩ (by decide) (by decide) (by decide) (by decide) (RepL.nil _ _ _) (RepL.nil _ _ _), _, _, rfl, rep_pod _ ⟨nmB1 113, 1, 2, 2, [], [], false⟩ (by decide) (by decide) (by decide) (by decide) (RepL.nil _ _ _) (RepL.nil _ _ _), _, _, rfl, rep_pod _ ⟨nmB1 114, 1, 0, 0, [nmSsd], [], false⟩ (by decide) (by decide) (by decide) (by decide) (hr7.mono hle8) (RepL.nil _ _ _), _, _, rfl, rep_pod _ ⟨nmB1 115, 1, 2, 2, [], [nmWest], false⟩ (by decide) (by decide) (by decide) (by decide) (RepL.nil _ _ _) hr8, rfl⟩ (fun σ9 hle9 hr9 => ?_); refine asL ?_; refine LS.done ?_
  have hle09 := PH.le_trans hle1 (PH.le_trans hle2 (PH.le_trans hle3 (PH.le_trans hle4 (PH.le_trans hle5 (PH.le_trans hle6 (PH.le_trans hle7 (PH.le_trans hle8 hle9)))))))
  (repeat (first | refine RS.seq ?_ | refine RS.region ?_ | refine RS.regionQ ?_ (by kernel_rfl) (by kernel_rfl) | refine RS.skip ?_ | refine RS.inBlock ?_ | refine RS.block ?_ | refine RS.exit ?_)); refine mvI ?_
  refine callP ?_ (hc := fun w _ => w8_c _ _ (by omega) (by omega) w)
  rw [← hj]
  refine asI ?_; refine LS.done ?_
  have hnth : nth [Value.string (⟨#[98, 97, 97, 98]⟩ : ByteArray), .string ⟨#[97, 97, 97, 99]⟩, .string ⟨#[97, 98, 97, 99]⟩] (0 + j * 1) = some (.string (kWant j)) := by
    rcases (show j = 0 ∨ j = 1 ∨ j = 2 by omega) with rfl | rfl | rfl <;> rfl
  (repeat (first | refine RS.seq ?_ | refine RS.region ?_ | refine RS.regionQ ?_ (by kernel_rfl) (by kernel_rfl) | refine RS.skip ?_ | refine RS.inBlock ?_ | refine RS.block ?_ | refine RS.exit ?_)); refine bldS [.string _, .string _, .string _] [.string _, .string _, .string _] (fun b46 => ?_); refine mvI ?_; refine idx (i := j) ?_; refine ld1 (v := .string (kWant j)) ?_ (hv := hnth); refine asS ?_; refine LS.done ?_
  (repeat (first | refine RS.seq ?_ | refine RS.region ?_ | refine RS.regionQ ?_ (by kernel_rfl) (by kernel_rfl) | refine RS.skip ?_ | refine RS.inBlock ?_ | refine RS.block ?_ | refine RS.exit ?_)); refine mvP ?_; refine mvL ?_; refine mvI ?_
  refine packLL' 1 kPods _ (j : Int) 0 (kL j) _ i4 (by omega) (by decide) (hT.mono hle09) hr9 hE hL rfl (fun v54 σ10 hle10 hr54 => ?_)
  obtain ⟨a54, c54, rfl⟩ := hr54.form
  refine mvT ?_; refine extr (v := .slice _ _ _) ?_; refine extr (v := .int _ _) ?_; refine asL ?_; refine asI ?_; refine LS.done ?_
  (repeat (first | refine RS.seq ?_ | refine RS.region ?_ | refine RS.regionQ ?_ (by kernel_rfl) (by kernel_rfl) | refine RS.skip ?_ | refine RS.inBlock ?_ | refine RS.block ?_ | refine RS.exit ?_)); refine mvI ?_; refine neI ?_; refine mvB ?_; refine LS.on ?_; refine mvL ?_; refine LS.on ?_; refine lenL ?_; refine LS.on ?_; refine neI ?_; rw [decide_eq_true (show (((kL j).length : Nat) : Int) = 4 by omega)]; refine pk (v := .bool _) ?_; refine LS.done ?_
  (repeat (first | refine RS.seq ?_ | refine RS.region ?_ | refine RS.regionQ ?_ (by kernel_rfl) (by kernel_rfl) | refine RS.skip ?_ | refine RS.inBlock ?_ | refine RS.block ?_ | refine RS.exit ?_)); refine RS.condF ?_
  obtain ⟨b54, o54, rfl, hrow⟩ := hr54.addr (List.ne_nil_of_length_pos (by omega))
  (repeat (first | refine RS.seq ?_ | refine RS.region ?_ | refine RS.regionQ ?_ (by kernel_rfl) (by kernel_rfl) | refine RS.skip ?_ | refine RS.inBlock ?_ | refine RS.block ?_ | refine RS.exit ?_)); refine asS ?_; refine LS.done ?_
  (repeat (first | refine RS.seq ?_ | refine RS.region ?_ | refine RS.regionQ ?_ (by kernel_rfl) (by kernel_rfl) | refine RS.skip ?_ | refine RS.inBlock ?_ | refine RS.block ?_ | refine RS.exit ?_)); refine asI ?_; refine LS.done ?_
  (repeat (first | refine RS.seq ?_ | refine RS.region ?_ | refine RS.regionQ ?_ (by kernel_rfl) (by kernel_rfl) | refine RS.skip ?_ | refine RS.inBlock ?_ | refine RS.block ?_ | refine RS.exit ?_))
  refine RS.loopF (X := Nat) 9 75 (fun x => x ≤ 4) (fun x => [(9, .string (kCat j x)), (10, .int .i64 x)]) (fun _ => σ10) (fun _ => []) (fun x => 4 - x) 0 (by omega) ⟨rfl, rfl, trivial⟩ rfl inferInstance ?_
  rintro i g hi ih
  (repeat (first | refine RS.seq ?_ | refine RS.region ?_ | refine RS.regionQ ?_ (by kernel_rfl) (by kernel_rfl) | refine RS.skip ?_ | refine RS.inBlock ?_ | refine RS.block ?_ | refine RS.exit ?_)); refine mvI ?_; refine ltI ?_; refine LS.done ?_
  (repeat (first | refine RS.seq ?_ | refine RS.region ?_ | refine RS.regionQ ?_ (by kernel_rfl) (by kernel_rfl) | refine RS.skip ?_ | refine RS.inBlock ?_ | refine RS.block ?_ | refine RS.exit ?_))
  by_cases hlt : i < 4
  · refine RS.condT ?_ (h := by simp; omega)
    obtain ⟨hc, _⟩ := RowAt.place hrow i (by omega)
    have hgd : (kL j)[i] = (kL j).getD i ⟨⟨#[]⟩, ⟨#[]⟩, 0, 0, false⟩ := by simp [List.getD_eq_getElem?_getD, show i < (kL j).length by omega]
    have hcn : σ10.cell b54 (o54 + i * 5 + 1) = some (.string ((kL j).getD i ⟨⟨#[]⟩, ⟨#[]⟩, 0, 0, false⟩).node) := by rw [← hgd]; exact hc 1 (by decide)
    have s1 := kCat_size ⟨j, hj3⟩ ⟨i, by omega⟩
    have s2 := kL_size ⟨j, hj3⟩ ⟨i, hlt⟩
    simp only at s1 s2
    (repeat (first | refine RS.seq ?_ | refine RS.region ?_ | refine RS.regionQ ?_ (by kernel_rfl) (by kernel_rfl) | refine RS.skip ?_ | refine RS.inBlock ?_ | refine RS.block ?_ | refine RS.exit ?_)); refine mvS ?_; refine mvL ?_; refine mvI ?_; refine idx (i := i) ?_; refine fld ?_; refine ldS hcn ?_; refine addS ?_; refine asS ?_; refine LS.done ?_
    (repeat (first | refine RS.seq ?_ | refine RS.region ?_ | refine RS.regionQ ?_ (by kernel_rfl) (by kernel_rfl) | refine RS.skip ?_ | refine RS.inBlock ?_ | refine RS.block ?_ | refine RS.exit ?_)); refine mvI ?_; (first | refine addN ?_ | refine addI ?_); refine asI ?_; refine LS.done ?_; (repeat (first | refine RS.seq ?_ | refine RS.region ?_ | refine RS.regionQ ?_ (by kernel_rfl) (by kernel_rfl) | refine RS.skip ?_ | refine RS.inBlock ?_ | refine RS.block ?_ | refine RS.exit ?_))
    exact ih (i + 1) hlt (by (try dsimp only); omega) ⟨rfl, rfl, trivial⟩ (by repeat (first | with_reducible exact Out.refl _ _ _ | exact Out.hv | refine Out.upd ?_ | refine Out.hvIn ?_)) inferInstance rfl
  · refine RS.condF ?_ (h := by simp; omega)
    obtain rfl : i = 4 := by omega
    have hcw := kCat_want ⟨j, hj3⟩
    simp only at hcw
    rw [hcw]
    (repeat (first | refine RS.seq ?_ | refine RS.region ?_ | refine RS.regionQ ?_ (by kernel_rfl) (by kernel_rfl) | refine RS.skip ?_ | refine RS.inBlock ?_ | refine RS.block ?_ | refine RS.exit ?_)); refine mvS ?_; refine mvS ?_; refine eqS ?_; rw [decide_eq_true (show kWant j = kWant j from rfl)]; refine asB ?_; refine LS.done ?_
    (repeat (first | refine RS.seq ?_ | refine RS.region ?_ | refine RS.regionQ ?_ (by kernel_rfl) (by kernel_rfl) | refine RS.skip ?_ | refine RS.inBlock ?_ | refine RS.block ?_ | refine RS.exit ?_)); refine RS.ret1 (v := .bool _) Tryd.func6 fun w hw => ?_
    exact ⟨rfl, hw.below⟩
end Go.Proofs.YthnoaapghcadgaaDoor
/- Walk: PackGrows. -/
namespace Go.Proofs.YthnoaapghcadgaaDoor
open Go.JW Go.RowKit
theorem packE_one {S : LedD} {g : Int} {p : PodD} {mode : Int} (hz : tk S.taken g = []) : packE S g [p] mode = (match spotP S [] mode p with | none => 6 | some _ => 0) ∧ packL S g [p] mode = (match spotP S [] mode p with | none => [] | some x => [x]) := by
  have h0 : ¬ 0 < (tk S.taken g).length := by rw [hz]; simp
  unfold packE packL
  rw [if_neg h0, if_neg h0, if_neg (by simp), if_neg (by simp)]
  simp only [allP]
  rcases opt_cases (spotP S [] mode p) with e | ⟨x, e⟩ <;> rw [e] <;> exact ⟨rfl, rfl⟩
theorem uC_nil (S : LedD) (nm : ByteArray) : uC S [] nm = usedC S.taken nm ∧ uM S [] nm = usedM S.taken nm ∧ uN S [] nm = usedN S.taken nm := by
  refine ⟨?_, ?_, ?_⟩ <;> simp [uC, uM, uN, needC, needM, needN, needF]
theorem whyP_plain {p : PodD} {n : NodeD} {c m : Int} (hn : n.closed = false) (ht : n.taints = []) (hp : p.picks = []) (ha : p.alone = false) : whyP p n c m [] = if fitP p n c m = false then 4 else 0 := by
  unfold whyP
  rw [if_neg (by simp [hn]), if_neg (by simp [hp, allIn]), if_neg (by simp [ht, allIn])]
  split
  · rfl
  · rw [if_neg (by simp [ha]), if_neg (by simp)]
theorem nodes_one {nm : ByteArray} {n : NodeD} {t : List (Int × List PlaceD)} : nodesOf ⟨[(nm, n)], t⟩ = [n] := by simp [nodesOf, sortK_lone]
def gPod (k : Int) : PodD := ⟨nmP, 1, k, 0, [], [], false⟩
def gPl (k : Int) : PlaceD := ⟨nmP, nmN, k, 0, false⟩
/-- On one node a pod goes there, as long as there is room. -/
theorem spot_grow {S : LedD} {kk : Nat} (hi : LedInv S kk) (hk : kk ≤ 1000000) {c k u : Int} (hS : S.nodes = [(nmN, nodeN nmN c 0)]) (hc : 0 ≤ c ∧ c ≤ 1099511627776) (hk0 : 0 ≤ k) (hu : usedC S.taken nmN = u) (hm : usedM S.taken nmN = 0) (mode : Int) :
    spotP S [] mode (gPod k) = if u + k ≤ c then some (gPl k) else none := by
  have hN : nodesOf S = [nodeN nmN c 0] := by unfold nodesOf; rw [hS]; simp [sortK_lone]
  obtain ⟨e1, e2, _⟩ := uC_nil S nmN
  have hin := uC_in hi hk (OwnOk.nil hi) nmN
  have hmay : mayP S [] (gPod k) (nodeN nmN c 0) = decide (u + k ≤ c) := by
    unfold mayP
    show decide (whyP (gPod k) (nodeN nmN c 0) (uC S [] nmN) (uM S [] nmN) [] = 0) = _
    rw [whyP_plain rfl rfl rfl rfl]
    have hf := fitP_iff (p := gPod k) (n := nodeN nmN c 0) hin.1 hin.2 ⟨hc.1, hc.2, by show (0 : Int) ≤ 0; omega, by show (0 : Int) ≤ 1099511627776; omega⟩
    rw [e1, e2, hu, hm] at hf ⊢
    by_cases h : u + k ≤ c
    · have : fitP (gPod k) (nodeN nmN c 0) u 0 = true := hf.2 ⟨⟨hk0, Int.le_refl _⟩, h, by show (0 : Int) + 0 ≤ 0; omega⟩
      rw [this, decide_eq_true h]; simp
    · have : fitP (gPod k) (nodeN nmN c 0) u 0 = false := by
        rw [Bool.eq_false_iff]; intro h2; exact h (hf.1 h2).2.1
      rw [this, decide_eq_false h]; simp
  unfold spotP candN
  rw [hN]
  by_cases h : u + k ≤ c
  · rw [decide_eq_true h] at hmay
    rw [if_pos h]
    simp only [List.filter_cons, hmay, if_true, List.filter_nil, List.map_cons, List.map_nil, List.length_cons, List.length_nil, bestTo]
    rfl
  · rw [decide_eq_false h] at hmay
    rw [if_neg h]
    simp only [List.filter_cons, hmay, List.filter_nil]
    rfl
theorem grow_used {t : List (Int × List PlaceD)} {g k : Int} (ht : asg t g = none) (hk : 0 ≤ k) : usedC (aset t g [gPl k]) nmN = usedC t nmN + k ∧ usedM (aset t g [gPl k]) nmN = usedM t nmN ∧ usedN (aset t g [gPl k]) nmN = usedN t nmN + 1 := by
  have h : ∀ f, usedF f (aset t g [gPl k]) nmN = usedF f t nmN + needF f nmN [gPl k] := fun f => sumA_aset ht
  refine ⟨?_, ?_, ?_⟩
  · rw [usedC_eq, usedC_eq, h, needF_one, if_pos (show (gPl k).node = nmN from rfl)]; rfl
  · rw [usedM_eq, usedM_eq, h, needF_one, if_pos (show (gPl k).node = nmN from rfl)]; show _ + (0 : Int) = _; omega
  · rw [usedN_eq, usedN_eq, h, needF_one, if_pos (show (gPl k).node = nmN from rfl)]
theorem keys_asg {t : List (Int × List PlaceD)} {k g : Int} (h : ∀ p ∈ t, p.1 < k) (hg : k ≤ g) : asg t g = none := asg_none.2 fun hm => by
  obtain ⟨p, hp, e⟩ := List.mem_map.1 hm
  have := h p hp; omega
theorem keys_aset {t : List (Int × List PlaceD)} {k g : Int} {x : List PlaceD} (h : ∀ p ∈ t, p.1 < k) (hg : g < k + 1) : ∀ p ∈ aset t g x, p.1 < k + 1 := fun p hp => by
  rcases mem_aset hp with hp | rfl
  · have := h p hp; omega
  · exact hg
theorem grows8_c (cpu : Int) (hc : I64 cpu) (need : Int) (hn : I64 need) (mode : Int) (hm : I64 mode) (w : World) (hT : TopsAt (hp w)) : Calls Tryd.prog 7 #[.int .i64 cpu, .int .i64 need, .int .i64 mode] w fun e w' => e = .returned (.bool true) ∧ Below w.heap.size w w' := by
  obtain ⟨q1, q2⟩ := wmod mode 3 (by omega)
  obtain ⟨c1, c2⟩ := wmod cpu 40 (by omega)
  obtain ⟨k1, k2⟩ := wmod need 9 (by omega)
  refine RS.enter Tryd.func7 Tryd.ntmps7 rfl rfl ?_
  (repeat (first | refine RS.seq ?_ | refine RS.region ?_ | refine RS.regionQ ?_ (by kernel_rfl) (by kernel_rfl) | refine RS.skip ?_ | refine RS.inBlock ?_ | refine RS.block ?_ | refine RS.exit ?_)); refine asB ?_; refine LS.done ?_
  (repeat (first | refine RS.seq ?_ | refine RS.region ?_ | refine RS.regionQ ?_ (by kernel_rfl) (by kernel_rfl) | refine RS.skip ?_ | refine RS.inBlock ?_ | refine RS.block ?_ | refine RS.exit ?_)); skip
  refine callP ?_ (hc := fun w' hw => known8_c w' (hT.mono hw.imm))
  refine not_ ?_; refine LS.done ?_
  (repeat (first | refine RS.seq ?_ | refine RS.region ?_ | refine RS.regionQ ?_ (by kernel_rfl) (by kernel_rfl) | refine RS.skip ?_ | refine RS.inBlock ?_ | refine RS.block ?_ | refine RS.exit ?_)); refine RS.condF ?_
  (repeat (first | refine RS.seq ?_ | refine RS.region ?_ | refine RS.regionQ ?_ (by kernel_rfl) (by kernel_rfl) | refine RS.skip ?_ | refine RS.inBlock ?_ | refine RS.block ?_ | refine RS.exit ?_)); skip
  refine newL (fun bl => ?_)
  refine asP ?_; refine LS.done ?_
  (repeat (first | refine RS.seq ?_ | refine RS.region ?_ | refine RS.regionQ ?_ (by kernel_rfl) (by kernel_rfl) | refine RS.skip ?_ | refine RS.inBlock ?_ | refine RS.block ?_ | refine RS.exit ?_)); refine mvP ?_; refine bin_eql_P ?_; refine LS.done ?_
  (repeat (first | refine RS.seq ?_ | refine RS.region ?_ | refine RS.regionQ ?_ (by kernel_rfl) (by kernel_rfl) | refine RS.skip ?_ | refine RS.inBlock ?_ | refine RS.block ?_ | refine RS.exit ?_)); refine RS.condF ?_
  (repeat (first | refine RS.seq ?_ | refine RS.region ?_ | refine RS.regionQ ?_ (by kernel_rfl) (by kernel_rfl) | refine RS.skip ?_ | refine RS.inBlock ?_ | refine RS.block ?_ | refine RS.exit ?_)); refine mvI ?_
  refine callP ?_ (hc := fun w _ => w8_c _ _ (by omega) (by omega) w)
  refine mvI ?_
  refine callP ?_ (hc := fun w _ => w8_c _ _ (by omega) (by omega) w)
  (first | refine addN ?_ | refine addI ?_); refine asI ?_; refine asI ?_; refine LS.done ?_
  obtain ⟨c, hcd⟩ : ∃ c, c = cpu % 40 := ⟨_, rfl⟩
  obtain ⟨k, hkd⟩ : ∃ k, k = 1 + need % 9 := ⟨_, rfl⟩
  rw [← hcd] at c1 c2 ⊢
  rw [← hkd]
  have hk1 : 1 ≤ k ∧ k ≤ 9 := by omega
  clear hkd hcd k1 k2
  have he := putE_first isName_n (c := c) (m := 0) (by omega) (by omega)
  have i1 : LedInv ⟨[(nmN, nodeN nmN c 0)], []⟩ 0 := (LedInv.empty 0).put' (nodeN nmN c 0) (by rw [putN, if_pos he]; rfl)
  (repeat (first | refine RS.seq ?_ | refine RS.region ?_ | refine RS.regionQ ?_ (by kernel_rfl) (by kernel_rfl) | refine RS.skip ?_ | refine RS.inBlock ?_ | refine RS.block ?_ | refine RS.exit ?_)); refine mvP ?_; refine mvI ?_; refine bld (vals := [(0, .int _ _)]) [_, _] ?_; refine bld (vals := [(0, .string nmN), (1, .agg (List.toArray [.int .i64 c, .int .i64 0]))]) (nodeC (nodeN nmN c 0) (.slice none 0 0) (.slice none 0 0)) ?_
  refine putL' (nodeN nmN c 0) 0 ⟨[(nmN, nodeN nmN c 0)], []⟩ _ _ _ _ (LedInv.empty 0) (by omega) he (by rw [putN, if_pos he]; rfl) (ArgAt.of (rep_nodeN _ _ (by decide) (by show I64 c; omega) (by decide))) (fun σ1 hle1 => ?_)
  refine LS.done ?_
  (repeat (first | refine RS.seq ?_ | refine RS.region ?_ | refine RS.regionQ ?_ (by kernel_rfl) (by kernel_rfl) | refine RS.skip ?_ | refine RS.inBlock ?_ | refine RS.block ?_ | refine RS.exit ?_)); refine asI ?_; refine LS.done ?_
  (repeat (first | refine RS.seq ?_ | refine RS.region ?_ | refine RS.regionQ ?_ (by kernel_rfl) (by kernel_rfl) | refine RS.skip ?_ | refine RS.inBlock ?_ | refine RS.block ?_ | refine RS.exit ?_)); refine asI ?_; refine LS.done ?_
  (repeat (first | refine RS.seq ?_ | refine RS.region ?_ | refine RS.regionQ ?_ (by kernel_rfl) (by kernel_rfl) | refine RS.skip ?_ | refine RS.inBlock ?_ | refine RS.block ?_ | refine RS.exit ?_))
  refine RS.loopF (X := Nat × Nat × List (Int × List PlaceD) × PH) 10 65 (fun x => x.1 ≤ 45 ∧ LedInv ⟨[(nmN, nodeN nmN c 0)], x.2.2.1⟩ x.1 ∧ usedC x.2.2.1 nmN = x.2.1 * k ∧ usedM x.2.2.1 nmN = 0 ∧ usedN x.2.2.1 nmN = x.2.1 ∧ (x.2.1 : Int) * k ≤ c ∧ x.2.1 ≤ x.1 ∧ (x.2.1 = x.1 ∨ c < x.2.1 * k + k) ∧ (∀ p ∈ x.2.2.1, p.1 < 1 + (x.1 : Int)) ∧ PH.le σ1 x.2.2.2) (fun x => [(10, .int .i64 x.2.1), (11, .int .i64 (1 + (x.1 : Int)))]) (fun x => x.2.2.2) (fun x => [ledHP bl ⟨[(nmN, nodeN nmN c 0)], x.2.2.1⟩]) (fun x => 45 - x.1) (0, 0, [], σ1) ⟨by omega, i1, by simp [usedC], by simp [usedM], by simp [usedN], by simp; omega, Nat.le_refl 0, .inl rfl, by simp, PH.le_refl _⟩ ⟨rfl, rfl, trivial⟩ rfl ⟨fun h => h⟩ ?_
  rintro ⟨r, n, t, σ2⟩ g ⟨hr45, hi, hu, hum, hun, hnc, hnr, hor, hks, hle2⟩ ih
  simp only at hr45 hi hu hum hun hnc hnr hor hks hle2 ih ⊢
  have hnk : (0 : Int) ≤ (n : Int) * k := Int.mul_nonneg (by omega) (by omega)
  (repeat (first | refine RS.seq ?_ | refine RS.region ?_ | refine RS.regionQ ?_ (by kernel_rfl) (by kernel_rfl) | refine RS.skip ?_ | refine RS.inBlock ?_ | refine RS.block ?_ | refine RS.exit ?_)); refine mvI ?_; refine leI ?_; refine LS.done ?_
  (repeat (first | refine RS.seq ?_ | refine RS.region ?_ | refine RS.regionQ ?_ (by kernel_rfl) (by kernel_rfl) | refine RS.skip ?_ | refine RS.inBlock ?_ | refine RS.block ?_ | refine RS.exit ?_))
  by_cases hlt : r < 45
  · refine RS.condT ?_ (h := by simp; omega)
    have hasg := keys_asg hks (Int.le_refl (1 + (r : Int)))
    have htk : tk t (1 + (r : Int)) = [] := by unfold tk; rw [hasg]; rfl
    have hsp := spot_grow hi (by omega) (c := c) (k := k) (u := n * k) rfl (by omega) (by omega) hu hum (mode % 3)
    have hone := packE_one (S := ⟨[(nmN, nodeN nmN c 0)], t⟩) (g := 1 + (r : Int)) (p := gPod k) (mode := mode % 3) htk
    have hi' := hi.pack (by omega) (1 + (r : Int)) [gPod k] (mode % 3) 1 (by simp) (by simp)
    obtain ⟨m, hmm⟩ : ∃ m, m = mode % 3 := ⟨_, rfl⟩
    (repeat (first | refine RS.seq ?_ | refine RS.region ?_ | refine RS.regionQ ?_ (by kernel_rfl) (by kernel_rfl) | refine RS.skip ?_ | refine RS.inBlock ?_ | refine RS.block ?_ | refine RS.exit ?_)); refine mvP ?_; refine mvI ?_; refine mvI ?_; refine bld (vals := [(0, .int _ _)]) [_, _] ?_; refine bld (vals := [(0, .string _), (1, .int _ _), (2, .agg (List.toArray [_, _]))]) [_, _, _, _, _, _, _] ?_; refine bldS [.agg (List.toArray (podC (gPod k) (.slice none 0 0) (.slice none 0 0)))] (podC (gPod k) (.slice none 0 0) (.slice none 0 0)) (fun b41 => ?_); refine LS.frozenL [gPod k] b41 (CellsL.one_ (rep_pod _ (gPod k) (by show nmP.size ≤ _; decide) (by show I64 1; decide) (by show I64 k; omega) (by show I64 0; decide) (RepL.nil _ _ _) (RepL.nil _ _ _))) (fun σ3 hle3 hr3 => ?_); refine mvI ?_
    refine callP ?_ (hc := fun w _ => w8_c _ _ (by omega) (by omega) w)
    rw [← hmm]
    rw [← hmm] at hsp hone hi'
    skip
    by_cases hfit : (n : Int) * k + k ≤ c
    · rw [hsp, if_pos hfit] at hone
      have hmul : ((n : Int) + 1) * k = n * k + k := by rw [Int.add_mul, Int.one_mul]
      have hS' : packS ⟨[(nmN, nodeN nmN c 0)], t⟩ (1 + (r : Int)) [gPod k] m = ⟨[(nmN, nodeN nmN c 0)], aset t (1 + (r : Int)) [gPl k]⟩ := by rw [packS, if_pos hone.1, hone.2]
      obtain ⟨u1, u2, u3⟩ := grow_used hasg (k := k) (by omega)
      rw [hS'] at hi'
      refine packLL' (1 + (r : Int)) [gPod k] _ m 0 [gPl k] _ hi (by omega) (by simp) (hT.mono (PH.le_trans hle1 (PH.le_trans hle2 hle3))) hr3 hone.1 hone.2 hS' (fun v44 σ4 hle4 hr44 => ?_)
      obtain ⟨a44, c44, rfl⟩ := hr44.form
      refine mvT ?_; refine extr (v := .slice _ _ _) ?_; refine extr (v := .int _ _) ?_; refine asL ?_; refine asI ?_; refine LS.done ?_
      (repeat (first | refine RS.seq ?_ | refine RS.region ?_ | refine RS.regionQ ?_ (by kernel_rfl) (by kernel_rfl) | refine RS.skip ?_ | refine RS.inBlock ?_ | refine RS.block ?_ | refine RS.exit ?_)); refine mvI ?_; refine eqI ?_; refine mvL ?_; refine lenL ?_; refine eqI ?_; rw [decide_eq_true (show ((([gPl k] : List PlaceD).length : Nat) : Int) = 1 from rfl)]; refine bin_neq_B (a := true) (b := true) ?_; refine mvB ?_; refine LS.on ?_; refine mvI ?_; refine LS.on ?_; refine neI ?_; refine LS.on ?_; refine mvB ?_; refine LS.off ?_; refine LS.off ?_; refine LS.on ?_; refine pk (v := .bool _) ?_; refine pk (v := .bool _) ?_; refine LS.done ?_
      (repeat (first | refine RS.seq ?_ | refine RS.region ?_ | refine RS.regionQ ?_ (by kernel_rfl) (by kernel_rfl) | refine RS.skip ?_ | refine RS.inBlock ?_ | refine RS.block ?_ | refine RS.exit ?_)); refine RS.condF ?_
      (repeat (first | refine RS.seq ?_ | refine RS.region ?_ | refine RS.regionQ ?_ (by kernel_rfl) (by kernel_rfl) | refine RS.skip ?_ | refine RS.inBlock ?_ | refine RS.block ?_ | refine RS.exit ?_)); refine mvI ?_; refine eqI ?_; refine LS.done ?_
      (repeat (first | refine RS.seq ?_ | refine RS.region ?_ | refine RS.regionQ ?_ (by kernel_rfl) (by kernel_rfl) | refine RS.skip ?_ | refine RS.inBlock ?_ | refine RS.block ?_ | refine RS.exit ?_)); refine RS.condT ?_
      (repeat (first | refine RS.seq ?_ | refine RS.region ?_ | refine RS.regionQ ?_ (by kernel_rfl) (by kernel_rfl) | refine RS.skip ?_ | refine RS.inBlock ?_ | refine RS.block ?_ | refine RS.exit ?_)); refine mvI ?_; (first | refine addN ?_ | refine addI ?_); refine asI ?_; refine LS.done ?_
      (repeat (first | refine RS.seq ?_ | refine RS.region ?_ | refine RS.regionQ ?_ (by kernel_rfl) (by kernel_rfl) | refine RS.skip ?_ | refine RS.inBlock ?_ | refine RS.block ?_ | refine RS.exit ?_)); refine mvI ?_; (first | refine addN ?_ | refine addI ?_); refine asI ?_; refine LS.done ?_; (repeat (first | refine RS.seq ?_ | refine RS.region ?_ | refine RS.regionQ ?_ (by kernel_rfl) (by kernel_rfl) | refine RS.skip ?_ | refine RS.inBlock ?_ | refine RS.block ?_ | refine RS.exit ?_))
      refine ih (r + 1, n + 1, aset t (1 + (r : Int)) [gPl k], σ4) ⟨by (try dsimp only); omega, hi', ?_, ?_, ?_, ?_, ?_, ?_, ?_, PH.le_trans hle2 (PH.le_trans hle3 hle4)⟩ (by (try dsimp only); omega) ⟨rfl, intV (by (try dsimp only); omega), trivial⟩ (by repeat (first | with_reducible exact Out.refl _ _ _ | exact Out.hv | refine Out.upd ?_ | refine Out.hvIn ?_)) ⟨fun h => h⟩ rfl
      · show usedC (aset t (1 + (r : Int)) [gPl k]) nmN = ((n + 1 : Nat) : Int) * k
        rw [u1, hu, Int.natCast_add, Int.natCast_one, hmul]
      · show usedM _ nmN = 0; rw [u2, hum]
      · show usedN _ nmN = ((n + 1 : Nat) : Int); rw [u3, hun]; omega
      · show ((n + 1 : Nat) : Int) * k ≤ c; rw [Int.natCast_add, Int.natCast_one, hmul]; omega
      · dsimp only; omega
      · dsimp only
        rcases hor with h | h
        · exact .inl (by omega)
        · omega
      · show ∀ p ∈ aset t (1 + (r : Int)) [gPl k], p.1 < 1 + ((r + 1 : Nat) : Int)
        intro p hp
        have := keys_aset hks (show (1 + (r : Int)) < 1 + (r : Int) + 1 by omega) p hp
        omega
    · rw [hsp, if_neg hfit] at hone
      have hS' : packS ⟨[(nmN, nodeN nmN c 0)], t⟩ (1 + (r : Int)) [gPod k] m = ⟨[(nmN, nodeN nmN c 0)], t⟩ := by rw [packS, if_neg (by rw [hone.1]; decide)]
      refine packLL' (1 + (r : Int)) [gPod k] _ m 6 [] _ hi (by omega) (by simp) (hT.mono (PH.le_trans hle1 (PH.le_trans hle2 hle3))) hr3 hone.1 hone.2 hS' (fun v44 σ4 hle4 hr44 => ?_)
      obtain ⟨a44, c44, rfl⟩ := hr44.form
      refine mvT ?_; refine extr (v := .slice _ _ _) ?_; refine extr (v := .int _ _) ?_; refine asL ?_; refine asI ?_; refine LS.done ?_
      (repeat (first | refine RS.seq ?_ | refine RS.region ?_ | refine RS.regionQ ?_ (by kernel_rfl) (by kernel_rfl) | refine RS.skip ?_ | refine RS.inBlock ?_ | refine RS.block ?_ | refine RS.exit ?_)); refine mvI ?_; refine eqI ?_; refine mvL ?_; refine lenL ?_; refine eqI ?_; rw [decide_eq_false (show ¬ ((([] : List PlaceD).length : Nat) : Int) = 1 by decide)]; refine bin_neq_B (a := false) (b := false) ?_; refine mvB ?_; refine LS.on ?_; refine mvI ?_; refine LS.on ?_; refine neI ?_; refine LS.on ?_; refine mvB ?_; refine LS.on ?_; refine mvI ?_; refine LS.on ?_; refine neI ?_; refine LS.on ?_; refine pk (v := .bool _) ?_; refine pk (v := .bool _) ?_; refine LS.done ?_
      (repeat (first | refine RS.seq ?_ | refine RS.region ?_ | refine RS.regionQ ?_ (by kernel_rfl) (by kernel_rfl) | refine RS.skip ?_ | refine RS.inBlock ?_ | refine RS.block ?_ | refine RS.exit ?_)); refine RS.condF ?_
      (repeat (first | refine RS.seq ?_ | refine RS.region ?_ | refine RS.regionQ ?_ (by kernel_rfl) (by kernel_rfl) | refine RS.skip ?_ | refine RS.inBlock ?_ | refine RS.block ?_ | refine RS.exit ?_)); refine mvI ?_; refine eqI ?_; refine LS.done ?_
      (repeat (first | refine RS.seq ?_ | refine RS.region ?_ | refine RS.regionQ ?_ (by kernel_rfl) (by kernel_rfl) | refine RS.skip ?_ | refine RS.inBlock ?_ | refine RS.block ?_ | refine RS.exit ?_)); refine RS.condF ?_
      refine RS.skip ?_
      (repeat (first | refine RS.seq ?_ | refine RS.region ?_ | refine RS.regionQ ?_ (by kernel_rfl) (by kernel_rfl) | refine RS.skip ?_ | refine RS.inBlock ?_ | refine RS.block ?_ | refine RS.exit ?_)); refine mvI ?_; (first | refine addN ?_ | refine addI ?_); refine asI ?_; refine LS.done ?_; (repeat (first | refine RS.seq ?_ | refine RS.region ?_ | refine RS.regionQ ?_ (by kernel_rfl) (by kernel_rfl) | refine RS.skip ?_ | refine RS.inBlock ?_ | refine RS.block ?_ | refine RS.exit ?_))
      exact ih (r + 1, n, t, σ4) ⟨by (try dsimp only); omega, hi.up (by (try dsimp only); omega), hu, hum, hun, hnc, by (try dsimp only); omega, .inr (by (try dsimp only); omega), fun p hp => by have := hks p hp; dsimp only; omega, PH.le_trans hle2 (PH.le_trans hle3 hle4)⟩ (by (try dsimp only); omega) ⟨rfl, intV (by (try dsimp only); omega), trivial⟩ (by repeat (first | with_reducible exact Out.refl _ _ _ | exact Out.hv | refine Out.upd ?_ | refine Out.hvIn ?_)) ⟨fun h => h⟩ rfl
  · refine RS.condF ?_ (h := by simp; omega)
    have hn : (n : Int) = c.tdiv k := by
      have hlt2 : c < n * k + k := by
        rcases hor with h | h
        · have : (45 : Int) * 1 ≤ n * k := by
            have e : (n : Int) = 45 := by omega
            rw [e]; exact Int.mul_le_mul_of_nonneg_left hk1.1 (by omega)
          omega
        · exact h
      rw [Int.tdiv_eq_ediv_of_nonneg (by omega)]
      symm
      refine Int.le_antisymm ?_ ?_
      · have := Int.ediv_lt_of_lt_mul (a := c) (b := (n : Int) + 1) (c := k) (by omega) (by rw [Int.add_mul, Int.one_mul]; exact hlt2)
        omega
      · exact Int.le_ediv_of_mul_le (by omega) hnc
    (repeat (first | refine RS.seq ?_ | refine RS.region ?_ | refine RS.regionQ ?_ (by kernel_rfl) (by kernel_rfl) | refine RS.skip ?_ | refine RS.inBlock ?_ | refine RS.block ?_ | refine RS.exit ?_)); refine mvP ?_
    refine usedL nmN hi (by omega) (fun σ3 hle3 => ?_)
    rw [hu, hum, hun]
    refine mvT ?_; refine extr (v := _) ?_; refine extr (v := .int _ _) ?_; refine alloc_ (fun b14 => ?_); refine st (.agg _) _ ?_; refine asI ?_; refine LS.done ?_
    (repeat (first | refine RS.seq ?_ | refine RS.region ?_ | refine RS.regionQ ?_ (by kernel_rfl) (by kernel_rfl) | refine RS.skip ?_ | refine RS.inBlock ?_ | refine RS.block ?_ | refine RS.exit ?_)); refine mvI ?_; refine mvI ?_; refine mvI ?_; refine quoN ?_ (ha := by show I64 _; omega) (hb := by omega); refine eqI ?_; rw [decide_eq_true hn]; refine mvB ?_; refine LS.on ?_; refine mvI ?_; refine LS.on ?_; refine mvI ?_; refine LS.on ?_; refine eqI ?_; rw [decide_eq_true (show (n : Int) = n from rfl)]; refine pk (v := .bool _) ?_; refine mvB ?_; refine LS.on ?_; refine fld ?_; refine LS.on ?_; refine ld1 (v := .int _ _) ?_; refine LS.on ?_; refine mvI ?_; refine LS.on ?_; refine mvI ?_; refine LS.on ?_; refine mulI ?_; rw [wrapEq (x := (n : Int) * k) (by omega) (by omega)]; refine LS.on ?_; refine eqI ?_; rw [decide_eq_true (show (n : Int) * k = n * k from rfl)]; refine pk (v := .bool _) ?_; refine asB ?_; refine LS.done ?_
    (repeat (first | refine RS.seq ?_ | refine RS.region ?_ | refine RS.regionQ ?_ (by kernel_rfl) (by kernel_rfl) | refine RS.skip ?_ | refine RS.inBlock ?_ | refine RS.block ?_ | refine RS.exit ?_)); refine RS.ret1 (v := .bool _) Tryd.func7 fun w hw => ?_
    exact ⟨rfl, hw.below⟩
end Go.Proofs.YthnoaapghcadgaaDoor
/- Walk: PackOne. -/
namespace Go.JW
section
variable {P : Program} {q : Bool} {ops : Array Oper} {f : FuncId} {R : Ending → World → Prop} {k : List Item} {n : Nat} {fr : Nat → Value} {w0 : World} {M : Nat → Prop} {σ : PH} {K : List HP}
variable {rest : List Oper} {d : Nat} {ty : TypeId} {pos : String} {aft : Array Edge} {x : Operand} {t : TypeId}
/-- A slice of a slice, both ends told. -/
theorem slcLH (l hh : Nat) {a : Option Addr} {len cap s : Nat} {e : TypeId} {lo hi : Operand} {kk kk' : IntKind} {j j' : Int} [ht : TSlice P t e] [hs : TSz P e s]
    (h : LS P q ops f R k rest n (upd fr d (.slice (if cap = l then a else a.map (·.add (l * s))) (hh - l) (cap - l))) w0 M σ K) (hx : ev n fr x = .slice a len cap := by rfl) (hlo : ev n fr lo = .int kk j := by rfl) (hhi : ev n fr hi = .int kk' j' := by rfl)
    (hj : j = (l : Int) := by omega) (hj' : j' = (hh : Int) := by omega) (h1 : l ≤ hh := by omega) (h2 : hh ≤ cap := by omega) :
    LS P q ops f R k (⟨some d, .slice t x (some lo) (some hi) none, ty, pos, aft, none⟩ :: rest) n fr w0 M σ K :=
  slc l hh cap h hx (fun w => by subst hj; subst hj'; simp [Instr.sliceBounds, hlo, hhi, run_sliceBound, h1, h2])
end
end Go.JW
namespace Go.Proofs.YthnoaapghcadgaaDoor
open Go.JW Go.RowKit
theorem why_near {p : PodD} {n : NodeD} {c m : Int} {near : List PlaceD} (ha : p.alone = false) (hn : near.any (·.alone) = false) : whyP p n c m near = whyP p n c m [] := by
  unfold whyP
  simp [ha, hn]
theorem spot_same {S S' : LedD} {own : List PlaceD} {mode : Int} {p : PodD} (hN : S'.nodes = S.nodes) (hC : ∀ nm, uC S own nm = uC S' [] nm) (hM : ∀ nm, uM S own nm = uM S' [] nm) (hU : ∀ nm, uN S own nm = uN S' [] nm) (ha : p.alone = false) (ho : ∀ q ∈ own, q.alone = false) : spotP S own mode p = spotP S' [] mode p := by
  have h1 : mayP S own p = mayP S' [] p := funext fun n => by
    unfold mayP
    rw [hC, hM, why_near ha (by rw [List.any_eq_false]; intro q hq; rw [ho q (near_mem hq).1]; simp)]
    rfl
  have h2 : goodP S own mode p = goodP S' [] mode p := funext fun n => by unfold goodP; rw [hC, hM, hU]
  have h3 : nodesOf S' = nodesOf S := by unfold nodesOf; rw [hN]
  unfold spotP candN
  rw [h1, h2, h3]
/-- The one ledger, so far, beside the other one. -/
structure OneInv (S : LedD) (T : List (Int × List PlaceD)) (own : List PlaceD) (i : Nat) : Prop where
  inv : LedInv ⟨S.nodes, T⟩ (9 + i)
  used : ∀ f nm, usedF f T nm = usedF f S.taken nm + needF f nm own
  keys : ∀ p ∈ T, p.1 < 10 + (i : Int)
  plain : ∀ q ∈ own, q.alone = false
  len : own.length = i
theorem OneInv.spot {S : LedD} {T : List (Int × List PlaceD)} {own : List PlaceD} {i : Nat} (h : OneInv S T own i) {p : PodD} (ha : p.alone = false) (mode : Int) : spotP ⟨S.nodes, T⟩ [] mode p = spotP S own mode p := by
  refine (spot_same (S := S) (S' := ⟨S.nodes, T⟩) rfl (fun nm => ?_) (fun nm => ?_) (fun nm => ?_) ha h.plain).symm
  · rw [(uC_nil ⟨S.nodes, T⟩ nm).1, usedC_eq, h.used]; rfl
  · rw [(uC_nil ⟨S.nodes, T⟩ nm).2.1, usedM_eq, h.used]; rfl
  · rw [(uC_nil ⟨S.nodes, T⟩ nm).2.2, usedN_eq, h.used]; rfl
theorem OneInv.tk {S : LedD} {T : List (Int × List PlaceD)} {own : List PlaceD} {i : Nat} (h : OneInv S T own i) : Go.Proofs.YthnoaapghcadgaaDoor.tk T (10 + (i : Int)) = [] := by
  unfold Go.Proofs.YthnoaapghcadgaaDoor.tk; rw [keys_asg h.keys (Int.le_refl _)]; rfl
theorem OneInv.next {S : LedD} {T : List (Int × List PlaceD)} {own : List PlaceD} {i : Nat} (h : OneInv S T own i) (hi9 : i ≤ 100) {p : PodD} (ha : p.alone = false) {mode : Int} {x : PlaceD} (hx : spotP S own mode p = some x) :
    packS ⟨S.nodes, T⟩ (10 + (i : Int)) [p] mode = ⟨S.nodes, aset T (10 + (i : Int)) [x]⟩ ∧ OneInv S (aset T (10 + (i : Int)) [x]) (own ++ [x]) (i + 1) := by
  obtain ⟨e1, e2⟩ := packE_one (S := ⟨S.nodes, T⟩) (p := p) (mode := mode) h.tk
  rw [h.spot ha, hx] at e1 e2
  have hS : packS ⟨S.nodes, T⟩ (10 + (i : Int)) [p] mode = ⟨S.nodes, aset T (10 + (i : Int)) [x]⟩ := by rw [packS, if_pos e1, e2]
  have hi' := h.inv.pack (by omega) (10 + (i : Int)) [p] mode 1 (by simp) (by simp)
  rw [hS] at hi'
  obtain ⟨n, _, _, hxe⟩ := spot_some hx
  refine ⟨hS, hi', fun f nm => ?_, fun q hq => ?_, fun q hq => ?_, by simp [h.len]⟩
  · rw [show usedF f (aset T (10 + (i : Int)) [x]) nm = usedF f T nm + needF f nm [x] from sumA_aset (keys_asg h.keys (Int.le_refl _)), h.used, needF_app, Int.add_assoc]
  · have := keys_aset h.keys (show 10 + (i : Int) < 10 + (i : Int) + 1 by omega) q hq; omega
  · rcases List.mem_append.1 hq with hq | hq
    · exact h.plain q hq
    · rw [List.mem_singleton.1 hq, hxe]; exact ha
theorem rowWritePod {σ : PH} {c0 : List Value} {l : List PodD} (h : CellsL σ (c0.take (l.length * 7)) l) (hl : l.length * 7 ≤ c0.length) (i : Nat) (hi : i < l.length) (f : Nat) (vs : List Value) (hf : f + vs.length ≤ 7) (x' : PodD) (hx : ∀ c, Rep.rep σ c l[i] → Rep.rep σ (setAt c f vs) x') :
    CellsL σ ((setAt c0 (0 + i * 7 + f) vs).take (l.length * 7)) (l.set i x') := by
  have hmul : i * 7 + 7 ≤ l.length * 7 := by omega
  rw [take_setAt _ _ _ _ (by omega) hl, Nat.zero_add]
  exact h.write i hi f vs hf x' hx
theorem one8_c (ns ps : List Int) (mode : Int) (hm : I64 mode) (vn vp : Value) (w : World) (hT : TopsAt (hp w)) (hr : RepL (hp w) vn ns) (hrp : RepL (hp w) vp ps) : Calls Tryd.prog 5 #[vn, vp, .int .i64 mode] w fun e w' => e = .returned (.bool true) ∧ Below w.heap.size w w' := by
  obtain ⟨an, cn, rfl⟩ := hr.form
  obtain ⟨ap, cp, rfl⟩ := hrp.form
  have hpl : (podsOf ps).length ≤ 8 := podsOf_len ps
  have hi := bothOf_inv ns []
  have hl3 := bothOf_len ns []
  have ht := bothOf_nil ns
  obtain ⟨q1, q2⟩ := wmod mode 3 (by omega)
  refine RS.enter Tryd.func5 Tryd.ntmps5 rfl rfl ?_
  (repeat (first | refine RS.seq ?_ | refine RS.region ?_ | refine RS.regionQ ?_ (by kernel_rfl) (by kernel_rfl) | refine RS.skip ?_ | refine RS.inBlock ?_ | refine RS.block ?_ | refine RS.exit ?_)); refine asB ?_; refine LS.done ?_
  (repeat (first | refine RS.seq ?_ | refine RS.region ?_ | refine RS.regionQ ?_ (by kernel_rfl) (by kernel_rfl) | refine RS.skip ?_ | refine RS.inBlock ?_ | refine RS.block ?_ | refine RS.exit ?_)); skip
  refine callP ?_ (hc := fun w' hw => known8_c w' (hT.mono hw.imm))
  refine not_ ?_; refine LS.done ?_
  (repeat (first | refine RS.seq ?_ | refine RS.region ?_ | refine RS.regionQ ?_ (by kernel_rfl) (by kernel_rfl) | refine RS.skip ?_ | refine RS.inBlock ?_ | refine RS.block ?_ | refine RS.exit ?_)); refine RS.condF ?_
  (repeat (first | refine RS.seq ?_ | refine RS.region ?_ | refine RS.regionQ ?_ (by kernel_rfl) (by kernel_rfl) | refine RS.skip ?_ | refine RS.inBlock ?_ | refine RS.block ?_ | refine RS.exit ?_)); refine mvL ?_
  refine bothLL ns [] _ _ hr (RepL.nil _ _ _) (fun bl br σ1 hle1 => ?_)
  refine mvT ?_; refine extr (v := .pointer _) ?_; refine extr (v := .pointer _) ?_; refine asP ?_; refine asP ?_; refine LS.done ?_
  (repeat (first | refine RS.seq ?_ | refine RS.region ?_ | refine RS.regionQ ?_ (by kernel_rfl) (by kernel_rfl) | refine RS.skip ?_ | refine RS.inBlock ?_ | refine RS.block ?_ | refine RS.exit ?_)); refine mvL ?_
  refine bothLL ns [] _ _ (hr.mono hle1) (RepL.nil _ _ _) (fun bo br2 σ2 hle2 => ?_)
  refine mvT ?_; refine extr (v := .pointer _) ?_; refine extr (v := .pointer _) ?_; refine asP ?_; refine asP ?_; refine LS.done ?_
  (repeat (first | refine RS.seq ?_ | refine RS.region ?_ | refine RS.regionQ ?_ (by kernel_rfl) (by kernel_rfl) | refine RS.skip ?_ | refine RS.inBlock ?_ | refine RS.block ?_ | refine RS.exit ?_)); refine mvP ?_; refine bin_eql_P ?_; refine mvB ?_; refine LS.on ?_; refine mvP ?_; refine LS.on ?_; refine bin_eql_P ?_; refine pk (v := .bool _) ?_; refine LS.done ?_
  (repeat (first | refine RS.seq ?_ | refine RS.region ?_ | refine RS.regionQ ?_ (by kernel_rfl) (by kernel_rfl) | refine RS.skip ?_ | refine RS.inBlock ?_ | refine RS.block ?_ | refine RS.exit ?_)); refine RS.condF ?_
  obtain ⟨S, hS⟩ : ∃ S, S = bothOf ns [] := ⟨_, rfl⟩
  rw [← hS] at hi hl3 ht
  rw [← hS]
  have hle02 := PH.le_trans hle1 hle2
  (repeat (first | refine RS.seq ?_ | refine RS.region ?_ | refine RS.regionQ ?_ (by kernel_rfl) (by kernel_rfl) | refine RS.skip ?_ | refine RS.inBlock ?_ | refine RS.block ?_ | refine RS.exit ?_)); refine mvL ?_
  refine callO (X := Value) (fun x => x) (fun x => [rowD 0 36 x (podsOf ps)]) (fun _ _ => True) (fun v τ1 σ3 _ hN1 hle3 hτ1 => ?_) (fun w' hw => (pods8O_c ps _ w' (hrp.mono (PH.le_trans hle02 hw.imm))).mono fun _ _ ⟨v, τ, he, hp'⟩ => ⟨v, τ, he, hp'.rowN (Nat.zero_le _), trivial⟩)
  refine LS.to (K' := [rowD 0 36 v (podsOf ps), ledHP bo S, refHP br2 S, ledHP bl S, refHP br S]) ?_ ⟨fun h => h⟩
  have hle03 := PH.le_trans hle02 hle3
  refine LS.formD (l := podsOf ps) v (fun a1 c1 e1 _ => ?_); subst e1
  refine asL ?_; refine LS.done ?_
  (repeat (first | refine RS.seq ?_ | refine RS.region ?_ | refine RS.regionQ ?_ (by kernel_rfl) (by kernel_rfl) | refine RS.skip ?_ | refine RS.inBlock ?_ | refine RS.block ?_ | refine RS.exit ?_)); refine asI ?_; refine LS.done ?_
  obtain ⟨L0, hL0⟩ : ∃ L0, L0 = (podsOf ps).length := ⟨_, rfl⟩
  rw [← hL0] at hpl ⊢
  (repeat (first | refine RS.seq ?_ | refine RS.region ?_ | refine RS.regionQ ?_ (by kernel_rfl) (by kernel_rfl) | refine RS.skip ?_ | refine RS.inBlock ?_ | refine RS.block ?_ | refine RS.exit ?_))
  refine RS.loopF (X := Nat × List PodD) 12 49 (fun x => x.1 ≤ L0 ∧ x.2.length = L0 ∧ ∀ j (_ : j < x.1) (h2 : j < x.2.length), (x.2[j]'h2).alone = false) (fun x => [(12, .int .i64 x.1)]) (fun _ => σ3) (fun x => [rowD 0 36 (.slice a1 L0 c1) x.2, ledHP bo S, refHP br2 S, ledHP bl S, refHP br S]) (fun x => L0 - x.1) (0, podsOf ps) ⟨Nat.zero_le _, hL0.symm, fun j hj => by omega⟩ ⟨rfl, trivial⟩ rfl ⟨fun h => h⟩ ?_
  rintro ⟨i, pods⟩ g1 ⟨(hi1 : i ≤ L0), (hlen : pods.length = L0), hplain⟩ ih
  dsimp only at hplain ⊢
  (repeat (first | refine RS.seq ?_ | refine RS.region ?_ | refine RS.regionQ ?_ (by kernel_rfl) (by kernel_rfl) | refine RS.skip ?_ | refine RS.inBlock ?_ | refine RS.block ?_ | refine RS.exit ?_)); refine mvI ?_; refine mvL ?_; refine lenL ?_; refine ltI ?_; refine LS.done ?_
  (repeat (first | refine RS.seq ?_ | refine RS.region ?_ | refine RS.regionQ ?_ (by kernel_rfl) (by kernel_rfl) | refine RS.skip ?_ | refine RS.inBlock ?_ | refine RS.block ?_ | refine RS.exit ?_))
  by_cases hlt : i < L0
  · refine RS.condT ?_ (h := by simp; omega)
    refine RS.openRowD (l := pods) (.slice a1 L0 c1) (fun bR c0 cap eR hcR hcM hlR htR => ?_) (hn := by omega)
    injection eR with eR1 _ eR2
    subst eR1; subst eR2
    have hlR : c1 * 7 ≤ c0.length := hlR
    have hle : pods.length * 7 ≤ c0.length := by omega
    have hil : i < pods.length := by omega
    obtain ⟨p0, hp00⟩ : ∃ p0, p0 = pods[i] := ⟨_, rfl⟩
    (repeat (first | refine RS.seq ?_ | refine RS.region ?_ | refine RS.regionQ ?_ (by kernel_rfl) (by kernel_rfl) | refine RS.skip ?_ | refine RS.inBlock ?_ | refine RS.block ?_ | refine RS.exit ?_)); refine mvL ?_; refine mvI ?_; refine idx (i := i) ?_; refine fld ?_; refine st (.bool false) (setAt c0 (0 + i * 7 + 6) [.bool false]) ?_ (hr := Nat.ble_eq_true_of_le (by omega)); refine LS.done ?_
    have hcw : CellsL (fromN 0 σ3) ((setAt c0 (0 + i * 7 + 6) [.bool false]).take (pods.length * 7)) (pods.set i { p0 with alone := false }) := rowWritePod htR hle i hil 6 _ (by simp) _ (fun c hc => ?_)
    rotate_left
    · obtain ⟨u1, u2, rfl, g1, g2, g3, g4, g5, g6⟩ := hc
      rw [← hp00] at g1 g2 g3 g4 g5 g6
      rw [← hp00]
      exact ⟨u1, u2, rfl, g1, g2, g3, g4, g5, g6⟩
    rw [hlen] at hcw
    refine RS.closeRowD 0 (pods.set i { p0 with alone := false }) (b := bR) (c0 := setAt c0 (0 + i * 7 + 6) [.bool false]) (m := L0) (s := 7) (by omega) hcM (by rw [setAt_len]; exact hlR) hcw ?_ (hml := by rw [List.length_set]; exact hlen.symm)
    (repeat (first | refine RS.seq ?_ | refine RS.region ?_ | refine RS.regionQ ?_ (by kernel_rfl) (by kernel_rfl) | refine RS.skip ?_ | refine RS.inBlock ?_ | refine RS.block ?_ | refine RS.exit ?_)); refine mvI ?_; (first | refine addN ?_ | refine addI ?_); refine asI ?_; refine LS.done ?_; (repeat (first | refine RS.seq ?_ | refine RS.region ?_ | refine RS.regionQ ?_ (by kernel_rfl) (by kernel_rfl) | refine RS.skip ?_ | refine RS.inBlock ?_ | refine RS.block ?_ | refine RS.exit ?_))
    refine ih (i + 1, pods.set i { p0 with alone := false }) ⟨by (try dsimp only); omega, by rw [List.length_set]; exact hlen, fun j hj h2 => ?_⟩ (by (try dsimp only); omega) ⟨rfl, trivial⟩ (by repeat (first | with_reducible exact Out.refl _ _ _ | exact Out.hv | refine Out.upd ?_ | refine Out.hvIn ?_)) ⟨fun h => h⟩ rfl
    dsimp only at hj h2 ⊢
    rw [List.getElem_set]
    split
    · rfl
    · exact hplain j (by omega) (by rw [List.length_set] at h2; exact h2)
  · refine RS.condF ?_ (h := by simp; omega)
    clear ih
    obtain rfl : i = L0 := by omega
    have hal : ∀ p ∈ pods, p.alone = false := fun p hp' => by
      obtain ⟨j, hj, rfl⟩ := List.mem_iff_getElem.1 hp'
      exact hplain j (by omega) hj
    clear hplain hlt hi1
    subst hlen
    have htk : ∀ g, tk S.taken g = [] := fun g => by rw [ht]; rfl
    have hz : ¬ 0 < (tk S.taken 1).length := by rw [htk]; simp
    refine RS.exit ?_
    refine RS.freeze0 (l := pods) (.slice a1 pods.length c1) (fun σ4 hle4 hr4 => ?_) (hl := by omega) (hf := FindD.head)
    have hle04 := PH.le_trans hle03 hle4
    (repeat (first | refine RS.seq ?_ | refine RS.region ?_ | refine RS.regionQ ?_ (by kernel_rfl) (by kernel_rfl) | refine RS.skip ?_ | refine RS.inBlock ?_ | refine RS.block ?_ | refine RS.exit ?_)); refine mvI ?_
    refine callP ?_ (hc := fun w _ => w8_c _ _ (by omega) (by omega) w)
    obtain ⟨m, hmm⟩ : ∃ m, m = mode % 3 := ⟨_, rfl⟩
    rw [← hmm]
    refine asI ?_; refine LS.done ?_
    obtain ⟨E, hE⟩ : ∃ E, packE S 1 pods m = E := ⟨_, rfl⟩
    obtain ⟨L, hL⟩ : ∃ L, packL S 1 pods m = L := ⟨_, rfl⟩
    (repeat (first | refine RS.seq ?_ | refine RS.region ?_ | refine RS.regionQ ?_ (by kernel_rfl) (by kernel_rfl) | refine RS.skip ?_ | refine RS.inBlock ?_ | refine RS.block ?_ | refine RS.exit ?_)); refine mvP ?_; refine mvL ?_; refine mvI ?_
    refine packLL' 1 pods _ m E L _ hi (by omega) (by omega) (hT.mono hle04) hr4 hE hL rfl (fun v55 σ5 hle5 hr55 => ?_)
    obtain ⟨a55, c55, rfl⟩ := hr55.form
    refine mvT ?_; refine extr (v := .slice _ _ _) ?_; refine extr (v := .int _ _) ?_; refine asL ?_; refine asI ?_; refine LS.done ?_
    (repeat (first | refine RS.seq ?_ | refine RS.region ?_ | refine RS.regionQ ?_ (by kernel_rfl) (by kernel_rfl) | refine RS.skip ?_ | refine RS.inBlock ?_ | refine RS.block ?_ | refine RS.exit ?_)); refine asI ?_; refine LS.done ?_
    obtain ⟨Sl, hSl⟩ : ∃ Sl, packS S 1 pods m = Sl := ⟨_, rfl⟩
    rw [hSl]
    (repeat (first | refine RS.seq ?_ | refine RS.region ?_ | refine RS.regionQ ?_ (by kernel_rfl) (by kernel_rfl) | refine RS.skip ?_ | refine RS.inBlock ?_ | refine RS.block ?_ | refine RS.exit ?_))
    refine RS.loopF (X := Nat × List (Int × List PlaceD) × List PlaceD × PH) 16 104 (fun x => x.1 ≤ pods.length ∧ OneInv S x.2.1 x.2.2.1 x.1 ∧ allP S m pods [] = allP S m (pods.drop x.1) x.2.2.1 ∧ PH.le σ5 x.2.2.2) (fun x => [(16, .int .i64 x.1)]) (fun x => x.2.2.2) (fun x => [ledHP bo ⟨S.nodes, x.2.1⟩, refHP br2 S, ledHP bl Sl, refHP br S]) (fun x => pods.length - x.1) (0, S.taken, [], σ5) ⟨Nat.zero_le _, ⟨hi, fun f nm => by simp [needF], fun p hp' => (by rw [ht] at hp'; cases hp'), fun q hq => (by cases hq), rfl⟩, rfl, PH.le_refl _⟩ ⟨rfl, trivial⟩ rfl ⟨fun h => h⟩ ?_
    rintro ⟨i, T, own, σ6⟩ g6 ⟨(hi1 : i ≤ pods.length), (ho : OneInv S T own i), hall, (hle6 : PH.le σ5 σ6)⟩ ih
    dsimp only at hall ⊢
    have hle06 := PH.le_trans hle04 (PH.le_trans hle5 hle6)
    (repeat (first | refine RS.seq ?_ | refine RS.region ?_ | refine RS.regionQ ?_ (by kernel_rfl) (by kernel_rfl) | refine RS.skip ?_ | refine RS.inBlock ?_ | refine RS.block ?_ | refine RS.exit ?_)); refine mvI ?_; refine mvL ?_; refine lenL ?_; refine ltI ?_; refine LS.done ?_
    (repeat (first | refine RS.seq ?_ | refine RS.region ?_ | refine RS.regionQ ?_ (by kernel_rfl) (by kernel_rfl) | refine RS.skip ?_ | refine RS.inBlock ?_ | refine RS.block ?_ | refine RS.exit ?_))
    by_cases hlt : i < pods.length
    · refine RS.condT ?_ (h := by simp; omega)
      have hne : ¬ pods.length = 0 := by omega
      have hdr : pods.drop i = pods[i] :: pods.drop (i + 1) := List.drop_eq_getElem_cons hlt
      have hap := hal pods[i] (List.getElem_mem _)
      have hr41 : RepL σ4 (.slice (if c1 = i then a1 else a1.map (·.add (i * 7))) (i + 1 - i) (c1 - i)) [pods[i]] := by
        have h1 := (hr4.drop i (by omega)).take 1 (by rw [List.length_drop]; omega)
        rw [hdr] at h1
        rw [show i + 1 - i = 1 by omega]
        exact h1
      have hcap : pods.length ≤ c1 := hr4.cap
      obtain ⟨p, hpd⟩ : ∃ p, p = pods[i] := ⟨_, rfl⟩
      rw [← hpd] at hdr hap hr41
      rw [hdr] at hall
      simp only [allP] at hall
      have hone := packE_one (S := ⟨S.nodes, T⟩) (p := p) (mode := m) ho.tk
      rw [ho.spot hap] at hone
      (repeat (first | refine RS.seq ?_ | refine RS.region ?_ | refine RS.regionQ ?_ (by kernel_rfl) (by kernel_rfl) | refine RS.skip ?_ | refine RS.inBlock ?_ | refine RS.block ?_ | refine RS.exit ?_)); refine mvP ?_; refine mvI ?_; (first | refine addN ?_ | refine addI ?_); refine mvL ?_; refine mvI ?_; refine mvI ?_; (first | refine addN ?_ | refine addI ?_); refine slcLH i (i + 1) ?_; refine mvI ?_
      rcases opt_cases (spotP S own m p) with e | ⟨x, e⟩
      · rw [e] at hone hall
        have hE6 : E = 6 := by rw [← hE, packE, if_neg hz, if_neg hne, hall]
        refine packLL' (10 + (i : Int)) [p] _ m 6 [] ⟨S.nodes, T⟩ ho.inv (by omega) (by simp) (hT.mono hle06) (hr41.mono (PH.le_trans hle5 hle6)) hone.1 hone.2 (by rw [packS, if_neg (by rw [hone.1]; decide)]) (fun v74 σ7 hle7 hr74 => ?_)
        obtain ⟨a74, c74, rfl⟩ := hr74.form
        refine mvT ?_; refine extr (v := .slice _ _ _) ?_; refine extr (v := .int _ _) ?_; refine asL ?_; refine asI ?_; refine LS.done ?_
        (repeat (first | refine RS.seq ?_ | refine RS.region ?_ | refine RS.regionQ ?_ (by kernel_rfl) (by kernel_rfl) | refine RS.skip ?_ | refine RS.inBlock ?_ | refine RS.block ?_ | refine RS.exit ?_)); refine mvI ?_; refine neI ?_; refine LS.done ?_
        (repeat (first | refine RS.seq ?_ | refine RS.region ?_ | refine RS.regionQ ?_ (by kernel_rfl) (by kernel_rfl) | refine RS.skip ?_ | refine RS.inBlock ?_ | refine RS.block ?_ | refine RS.exit ?_)); refine RS.condT ?_
        (repeat (first | refine RS.seq ?_ | refine RS.region ?_ | refine RS.regionQ ?_ (by kernel_rfl) (by kernel_rfl) | refine RS.skip ?_ | refine RS.inBlock ?_ | refine RS.block ?_ | refine RS.exit ?_)); refine mvI ?_; refine eqI ?_; rw [decide_eq_true hE6]; refine asB ?_; refine LS.done ?_
        (repeat (first | refine RS.seq ?_ | refine RS.region ?_ | refine RS.regionQ ?_ (by kernel_rfl) (by kernel_rfl) | refine RS.skip ?_ | refine RS.inBlock ?_ | refine RS.block ?_ | refine RS.exit ?_)); refine RS.ret1 (v := .bool _) Tryd.func5 fun w hw => ?_
        exact ⟨rfl, hw.below⟩
      · obtain ⟨hSx, hox⟩ := ho.next (by omega) hap e
        rw [e] at hone hall
        refine packLL' (10 + (i : Int)) [p] _ m 0 [x] _ ho.inv (by omega) (by simp) (hT.mono hle06) (hr41.mono (PH.le_trans hle5 hle6)) hone.1 hone.2 hSx (fun v74 σ7 hle7 hr74 => ?_)
        obtain ⟨a74, c74, rfl⟩ := hr74.form
        refine mvT ?_; refine extr (v := .slice _ _ _) ?_; refine extr (v := .int _ _) ?_; refine asL ?_; refine asI ?_; refine LS.done ?_
        (repeat (first | refine RS.seq ?_ | refine RS.region ?_ | refine RS.regionQ ?_ (by kernel_rfl) (by kernel_rfl) | refine RS.skip ?_ | refine RS.inBlock ?_ | refine RS.block ?_ | refine RS.exit ?_)); refine mvI ?_; refine neI ?_; refine LS.done ?_
        (repeat (first | refine RS.seq ?_ | refine RS.region ?_ | refine RS.regionQ ?_ (by kernel_rfl) (by kernel_rfl) | refine RS.skip ?_ | refine RS.inBlock ?_ | refine RS.block ?_ | refine RS.exit ?_)); refine RS.condF ?_
        refine RS.skip ?_
        repeat refine RS.seq ?_
        refine RS.cut (X := PH) 81 104 (fun x => PH.le σ7 x) (fun _ => [(103, .bool false)]) (fun x => x) (fun _ => [ledHP bo ⟨S.nodes, aset T (10 + (i : Int)) [x]⟩, refHP br2 S, ledHP bl Sl, refHP br S]) ?_ (fun J => ?_)
        rotate_left
        · by_cases hE0 : E = 0
          · have haL : allP S m pods [] = some L := by
              rw [packE, if_neg hz, if_neg hne] at hE
              rw [packL, if_neg hz, if_neg hne] at hL
              rcases opt_cases (allP S m pods []) with e2 | ⟨y, e2⟩
              · rw [e2] at hE; rw [hE0] at hE; exact absurd hE (by decide)
              · rw [e2] at hL ⊢; exact congrArg some hL
            rw [hall] at haL
            obtain ⟨r, hr1, _⟩ := all_each haL
            have hLi : L[i]? = some x := by
              rw [hr1, List.append_assoc, List.getElem?_append_right (by rw [ho.len]; exact Nat.le_refl _), ho.len]; simp
            obtain ⟨hil, hLx⟩ := List.getElem?_eq_some_iff.1 hLi
            obtain ⟨b74, o74, rfl, hrow74⟩ := hr74.addr (by simp)
            obtain ⟨b55, o55, rfl, hrow55⟩ := hr55.addr (List.ne_nil_of_length_pos (by omega))
            obtain ⟨hc74, _⟩ := RowAt.place hrow74 0 (by simp)
            obtain ⟨hc55, _⟩ := RowAt.place (hrow55.mono (PH.le_trans hle6 hle7)) i hil
            rw [hLx] at hc55
            have hc74 : ∀ jj, jj < 5 → σ7.cell b74 (o74 + 0 * 5 + jj) = (placeC x)[jj]? := hc74
            have hc55 : ∀ jj, jj < 5 → σ7.cell b55 (o55 + i * 5 + jj) = (placeC x)[jj]? := hc55
            subst hE0
            (repeat (first | refine RS.seq ?_ | refine RS.region ?_ | refine RS.skip ?_ | refine RS.inBlock ?_ | refine RS.block ?_ | refine RS.exit ?_)); refine RS.drawG [(83, some true), (88, some false), (93, some false)] [.free, .free, .free, .free, .free, .free, .free, .free, .free, .free, .free, .free, .free, .free, .free, .ex, .free, .free, .free, .ex, .free, .free, .free] _ ?_ (by kernel_rfl) (by kernel_rfl) (by kernel_rfl) ⟨fun h => h⟩; simp only [ers, ersO, onOff, glook, nthO, List.map_cons, List.map_nil, Option.bind_some, Option.map_some, Nat.beq, cond_true, cond_false, BEq.beq]; refine D.mvI ?_; refine D.eqI ?_; refine D.mvB ?_; refine D.mvI ?_; refine D.mvL ?_; refine D.lenL ?_; refine D.geI ?_; rw [decide_eq_false (show ¬ (L.length : Int) ≤ i by omega)]; refine D.mvB ?_; refine D.mvL ?_; refine D.lenL ?_; refine D.neI ?_; rw [decide_eq_true (show ((([x] : List PlaceD).length : Nat) : Int) = 1 from rfl)]; refine D.pk (v := .bool _) ?_; refine D.mvB ?_; refine D.mvL ?_; refine D.idx (i := 0) ?_ (hi := by show 0 < 1; omega); refine D.ldSA (vs := placeC x) rfl hc74 ?_; refine D.mvL ?_; refine D.mvI ?_; refine D.idx (i := i) ?_; refine D.ldSA (vs := placeC x) rfl hc55 ?_; refine D.neqA (b := true) (us1 := placeC x) (us2 := placeC x) (fun w => eq_place x w) (by kernel_rfl) ?_; refine D.pk (v := .bool _) ?_; refine D.pk (v := .bool _) ?_; refine D.doneG [(83, some true), (88, some false), (93, some false)] ⟨⟨rfl, rfl⟩, ⟨rfl, rfl⟩, ⟨rfl, rfl⟩, trivial⟩ (fun us σ1 hle1 hfs => ?_)
            refine RS.ow ?_
            exact J _ (by assumption) ⟨rfl, trivial⟩ (by (repeat (first | with_reducible exact Out.refl _ _ _ | exact Out.hv | refine Out.upd ?_ | refine Out.hvIn ?_)); exact Out.refl _ _ _) ⟨fun h => h⟩ rfl
          · (repeat (first | refine RS.seq ?_ | refine RS.region ?_ | refine RS.skip ?_ | refine RS.inBlock ?_ | refine RS.block ?_ | refine RS.exit ?_)); refine RS.drawG [(83, some false), (88, none), (93, none)] [.free, .free, .free, .free, .free, .free, .free, .free, .free, .free, .free, .free, .free, .free, .free, .free, .free, .free, .free, .free, .free, .free, .free] _ ?_ (by kernel_rfl) (by kernel_rfl) (by kernel_rfl) ⟨fun h => h⟩; simp only [ers, ersO, onOff, glook, nthO, List.map_cons, List.map_nil, Option.bind_some, Option.map_some, Nat.beq, cond_true, cond_false, BEq.beq]; refine D.mvI ?_; refine D.eqI ?_; rw [decide_eq_false hE0]; refine D.mvB ?_; refine D.as_ (v := undef) ?_; refine D.as_ (v := undef) ?_; refine D.as_ (v := undef) ?_; refine D.as_ (v := undef) ?_; refine D.as_ (v := undef) ?_; refine D.as_ (v := undef) ?_; refine D.as_ (v := undef) ?_; refine D.as_ (v := undef) ?_; refine D.as_ (v := undef) ?_; refine D.as_ (v := undef) ?_; refine D.as_ (v := undef) ?_; refine D.as_ (v := undef) ?_; refine D.as_ (v := undef) ?_; refine D.as_ (v := undef) ?_; refine D.as_ (v := undef) ?_; refine D.as_ (v := undef) ?_; refine D.as_ (v := undef) ?_; refine D.as_ (v := undef) ?_; refine D.as_ (v := undef) ?_; refine D.pk (v := .bool _) ?_; refine D.doneG [(83, some false), (88, none), (93, none)] ⟨⟨rfl, rfl⟩, ⟨rfl, rfl⟩, ⟨rfl, rfl⟩, trivial⟩ (fun us σ1 hle1 hfs => ?_)
            refine RS.ow ?_
            exact J _ (by assumption) ⟨rfl, trivial⟩ (by (repeat (first | with_reducible exact Out.refl _ _ _ | exact Out.hv | refine Out.upd ?_ | refine Out.hvIn ?_)); exact Out.refl _ _ _) ⟨fun h => h⟩ rfl
        rintro σ8 g8 hle8
        (repeat (first | refine RS.seq ?_ | refine RS.region ?_ | refine RS.regionQ ?_ (by kernel_rfl) (by kernel_rfl) | refine RS.skip ?_ | refine RS.inBlock ?_ | refine RS.block ?_ | refine RS.exit ?_)); refine RS.condF ?_
        refine RS.skip ?_
        (repeat (first | refine RS.seq ?_ | refine RS.region ?_ | refine RS.regionQ ?_ (by kernel_rfl) (by kernel_rfl) | refine RS.skip ?_ | refine RS.inBlock ?_ | refine RS.block ?_ | refine RS.exit ?_)); refine mvI ?_; (first | refine addN ?_ | refine addI ?_); refine asI ?_; refine LS.done ?_; (repeat (first | refine RS.seq ?_ | refine RS.region ?_ | refine RS.regionQ ?_ (by kernel_rfl) (by kernel_rfl) | refine RS.skip ?_ | refine RS.inBlock ?_ | refine RS.block ?_ | refine RS.exit ?_))
        exact ih (i + 1, aset T (10 + (i : Int)) [x], own ++ [x], σ8) ⟨hlt, hox, hall, PH.le_trans hle6 (PH.le_trans hle7 hle8)⟩ (by (try dsimp only); omega) ⟨rfl, trivial⟩ (by repeat (first | with_reducible exact Out.refl _ _ _ | exact Out.hv | refine Out.upd ?_ | refine Out.hvIn ?_)) ⟨fun h => h⟩ rfl
    · refine RS.condF ?_ (h := by simp; omega)
      clear ih
      obtain rfl : i = pods.length := by omega
      rw [List.drop_length] at hall
      simp only [allP] at hall
      by_cases hne : pods.length = 0
      · have hE3 : E = 3 := by rw [← hE, packE, if_neg hz, if_pos hne]
        subst hE3
        (repeat (first | refine RS.seq ?_ | refine RS.region ?_ | refine RS.regionQ ?_ (by kernel_rfl) (by kernel_rfl) | refine RS.skip ?_ | refine RS.inBlock ?_ | refine RS.block ?_ | refine RS.exit ?_)); refine mvI ?_; refine eqI ?_; refine mvB ?_; refine LS.on ?_; refine mvL ?_; refine LS.on ?_; refine lenL ?_; refine LS.on ?_; refine eqI ?_; rw [decide_eq_true (show ((pods.length : Nat) : Int) = 0 by omega)]; refine LS.on ?_; refine mvB ?_; refine LS.on ?_; refine mvI ?_; refine LS.on ?_; refine eqI ?_; refine LS.on ?_; refine pk (v := .bool _) ?_; refine pk (v := .bool _) ?_; refine asB ?_; refine LS.done ?_
        (repeat (first | refine RS.seq ?_ | refine RS.region ?_ | refine RS.regionQ ?_ (by kernel_rfl) (by kernel_rfl) | refine RS.skip ?_ | refine RS.inBlock ?_ | refine RS.block ?_ | refine RS.exit ?_)); refine RS.ret1 (v := .bool _) Tryd.func5 fun w hw => ?_
        exact ⟨rfl, hw.below⟩
      · have hE0 : E = 0 := by rw [← hE, packE, if_neg hz, if_neg hne, hall]
        subst hE0
        (repeat (first | refine RS.seq ?_ | refine RS.region ?_ | refine RS.regionQ ?_ (by kernel_rfl) (by kernel_rfl) | refine RS.skip ?_ | refine RS.inBlock ?_ | refine RS.block ?_ | refine RS.exit ?_)); refine mvI ?_; refine eqI ?_; refine mvB ?_; refine LS.off ?_; refine LS.off ?_; refine LS.off ?_; refine LS.off ?_; refine LS.offU ?_; refine LS.offU ?_; refine LS.off ?_; refine pk (v := .bool _) ?_; refine asB ?_; refine LS.done ?_
        (repeat (first | refine RS.seq ?_ | refine RS.region ?_ | refine RS.regionQ ?_ (by kernel_rfl) (by kernel_rfl) | refine RS.skip ?_ | refine RS.inBlock ?_ | refine RS.block ?_ | refine RS.exit ?_)); refine RS.ret1 (v := .bool _) Tryd.func5 fun w hw => ?_
        exact ⟨rfl, hw.below⟩
end Go.Proofs.YthnoaapghcadgaaDoor
/- Walk: PackAlone. -/
namespace Go.Proofs.YthnoaapghcadgaaDoor
open Go.JW Go.RowKit
def alN (i : Nat) : NodeD := ⟨letter nmN (i : Int), (i : Int), 9, [], [], false⟩
def alS (n : Nat) : LedD := ⟨(List.range n).map fun (i : Nat) => (letter nmN (i : Int), alN i), []⟩
def alPod (i : Nat) : PodD := ⟨letter nmP (i : Int), 1, 0, 0, [], [], true⟩
def alPods (k : Nat) : List PodD := (List.range k).map alPod
theorem alPods_len (k : Nat) : (alPods k).length = k := by simp [alPods]
theorem alPods_succ (k : Nat) : alPods (k + 1) = alPods k ++ [alPod k] := by simp [alPods, List.range_succ]
def alNode (L : List PlaceD) (i : Nat) : ByteArray := (L.getD i zeroP).node
def alOk (n k m : Nat) : Bool := match allP (alS n) (m : Int) (alPods k) [] with
  | none => decide (n < k)
  | some L => decide (k ≤ n) && decide (L.length = k) && (List.range k).all fun i => (List.range i).all fun j => !decide (alNode L i = alNode L j)
theorem alOk_all : ∀ n : Fin 8, ∀ k : Fin 8, ∀ m : Fin 3, alOk (n.val + 1) (k.val + 1) m.val = true := by decide +kernel
theorem al_put : ∀ i : Fin 8, putE (alS i.val) (alN i.val) = 0 := by decide +kernel
theorem al_asg : ∀ i : Fin 8, (asg (alS i.val).nodes (alN i.val).name).isSome = false := by decide +kernel
theorem aset_new {α : Type} {l : List (ByteArray × α)} {k : ByteArray} {x : α} (h : asg l k = none) : aset l k x = l ++ [(k, x)] := by
  induction l with
  | nil => rfl
  | cons p l ih =>
    simp only [asg] at h
    cases e : KeyT.eqb k p.1 with
    | true => rw [e] at h; cases h
    | false => rw [e] at h; simp [aset, e, ih h]
theorem al_putN (i : Nat) (hi : i < 8) : (⟨putN (alS i) (alN i), []⟩ : LedD) = alS (i + 1) := by
  have h1 := al_put ⟨i, hi⟩
  have h2 := al_asg ⟨i, hi⟩
  simp only at h1 h2
  have h3 : asg (alS i).nodes (alN i).name = none := by
    cases e : asg (alS i).nodes (alN i).name with
    | none => rfl
    | some x => rw [e] at h2; cases h2
  rw [putN, if_pos h1, aset_new h3]
  simp [alS, List.range_succ, alN]
theorem al_inv : ∀ i, i ≤ 8 → LedInv (alS i) 0 := by
  intro i
  induction i with
  | zero => intro _; exact LedInv.empty 0
  | succ i ih => intro hi; rw [← al_putN i (by omega)]; exact (ih (by omega)).put (alN i)
/-- Each alone, or none at all. -/
theorem al_pack (n k m : Nat) (hn : n < 8) (hk : k < 8) (hm : m < 3) : (n < k ∧ packE (alS (n + 1)) 1 (alPods (k + 1)) (m : Int) = 6 ∧ packL (alS (n + 1)) 1 (alPods (k + 1)) (m : Int) = []) ∨
    (k ≤ n ∧ packE (alS (n + 1)) 1 (alPods (k + 1)) (m : Int) = 0 ∧ ∃ L, packL (alS (n + 1)) 1 (alPods (k + 1)) (m : Int) = L ∧ L.length = k + 1 ∧ ∀ i j, i < k + 1 → j < i → alNode L i ≠ alNode L j) := by
  have h := alOk_all ⟨n, hn⟩ ⟨k, hk⟩ ⟨m, hm⟩
  simp only [alOk] at h
  have hz : ¬ 0 < (tk (alS (n + 1)).taken 1).length := by simp [tk, alS, asg]
  have hl : ¬ (alPods (k + 1)).length = 0 := by rw [alPods_len]; omega
  unfold packE packL
  rw [if_neg hz, if_neg hz, if_neg hl, if_neg hl]
  rcases opt_cases (allP (alS (n + 1)) (m : Int) (alPods (k + 1)) []) with e | ⟨L, e⟩
  · rw [e] at h ⊢
    exact .inl ⟨by have := of_decide_eq_true h; omega, rfl, rfl⟩
  · rw [e] at h ⊢
    simp only [Bool.and_eq_true, decide_eq_true_eq, List.all_eq_true, List.mem_range, Bool.not_eq_true', decide_eq_false_iff_not] at h
    exact .inr ⟨by omega, rfl, L, rfl, h.1.2, fun i j hi hj => h.2 i hi j hj⟩
theorem letter_le (p : ByteArray) (hp : p.size ≤ 1000) (i : Int) : (letter p i).size ≤ 140737488355328 := by rw [letter_size]; omega
theorem alone8_c (nodes : Int) (hn : I64 nodes) (podn : Int) (hpd : I64 podn) (mode : Int) (hm : I64 mode) (w : World) (hT : TopsAt (hp w)) : Calls Tryd.prog 4 #[.int .i64 nodes, .int .i64 podn, .int .i64 mode] w fun e w' => e = .returned (.bool true) ∧ Below w.heap.size w w' := by
  obtain ⟨q1, q2⟩ := wmod mode 3 (by omega)
  obtain ⟨c1, c2⟩ := wmod nodes 8 (by omega)
  obtain ⟨k1, k2⟩ := wmod podn 8 (by omega)
  refine RS.enter Tryd.func4 Tryd.ntmps4 rfl rfl ?_
  (repeat (first | refine RS.seq ?_ | refine RS.region ?_ | refine RS.regionQ ?_ (by kernel_rfl) (by kernel_rfl) | refine RS.skip ?_ | refine RS.inBlock ?_ | refine RS.block ?_ | refine RS.exit ?_)); refine asB ?_; refine LS.done ?_
  (repeat (first | refine RS.seq ?_ | refine RS.region ?_ | refine RS.regionQ ?_ (by kernel_rfl) (by kernel_rfl) | refine RS.skip ?_ | refine RS.inBlock ?_ | refine RS.block ?_ | refine RS.exit ?_)); skip
  refine callP ?_ (hc := fun w' hw => known8_c w' (hT.mono hw.imm))
  refine not_ ?_; refine LS.done ?_
  (repeat (first | refine RS.seq ?_ | refine RS.region ?_ | refine RS.regionQ ?_ (by kernel_rfl) (by kernel_rfl) | refine RS.skip ?_ | refine RS.inBlock ?_ | refine RS.block ?_ | refine RS.exit ?_)); refine RS.condF ?_
  (repeat (first | refine RS.seq ?_ | refine RS.region ?_ | refine RS.regionQ ?_ (by kernel_rfl) (by kernel_rfl) | refine RS.skip ?_ | refine RS.inBlock ?_ | refine RS.block ?_ | refine RS.exit ?_)); skip
  refine newL (fun bl => ?_)
  refine asP ?_; refine LS.done ?_
  (repeat (first | refine RS.seq ?_ | refine RS.region ?_ | refine RS.regionQ ?_ (by kernel_rfl) (by kernel_rfl) | refine RS.skip ?_ | refine RS.inBlock ?_ | refine RS.block ?_ | refine RS.exit ?_)); refine mvP ?_; refine bin_eql_P ?_; refine LS.done ?_
  (repeat (first | refine RS.seq ?_ | refine RS.region ?_ | refine RS.regionQ ?_ (by kernel_rfl) (by kernel_rfl) | refine RS.skip ?_ | refine RS.inBlock ?_ | refine RS.block ?_ | refine RS.exit ?_)); refine RS.condF ?_
  (repeat (first | refine RS.seq ?_ | refine RS.region ?_ | refine RS.regionQ ?_ (by kernel_rfl) (by kernel_rfl) | refine RS.skip ?_ | refine RS.inBlock ?_ | refine RS.block ?_ | refine RS.exit ?_)); refine mvI ?_
  refine callP ?_ (hc := fun w _ => w8_c _ _ (by omega) (by omega) w)
  (first | refine addN ?_ | refine addI ?_); refine mvI ?_
  refine callP ?_ (hc := fun w _ => w8_c _ _ (by omega) (by omega) w)
  (first | refine addN ?_ | refine addI ?_); refine asI ?_; refine asI ?_; refine LS.done ?_
  obtain ⟨n, hnd⟩ : ∃ n : Nat, (n : Int) = nodes % 8 := ⟨(nodes % 8).toNat, by omega⟩
  obtain ⟨k, hkd⟩ : ∃ k : Nat, (k : Int) = podn % 8 := ⟨(podn % 8).toNat, by omega⟩
  obtain ⟨m, hmd⟩ : ∃ m : Nat, (m : Int) = mode % 3 := ⟨(mode % 3).toNat, by omega⟩
  have hn8 : n < 8 := by omega
  have hk8 : k < 8 := by omega
  have hm3 : m < 3 := by omega
  rw [← hnd, ← hkd]
  have hp1 : nmN.size = 1 := rfl
  have hp2 : nmP.size = 1 := rfl
  have hp3 : (⟨#[110]⟩ : ByteArray).size = 1 := rfl
  have hp4 : (⟨#[112]⟩ : ByteArray).size = 1 := rfl
  have hf1 : ∀ x : Int, (List.foldl (fun (r : ByteArray) (n : Int) => r.push (UInt8.ofNat n.toNat)) ByteArray.empty [IntKind.u8.wrap (97 + x)]).size = 1 := fun x => by simp only [List.foldl]; rw [ByteArray.size_push]; rfl
  (repeat (first | refine RS.seq ?_ | refine RS.region ?_ | refine RS.regionQ ?_ (by kernel_rfl) (by kernel_rfl) | refine RS.skip ?_ | refine RS.inBlock ?_ | refine RS.block ?_ | refine RS.exit ?_)); refine asI ?_; refine LS.done ?_
  (repeat (first | refine RS.seq ?_ | refine RS.region ?_ | refine RS.regionQ ?_ (by kernel_rfl) (by kernel_rfl) | refine RS.skip ?_ | refine RS.inBlock ?_ | refine RS.block ?_ | refine RS.exit ?_))
  refine RS.loopF (X := Nat × PH) 10 44 (fun x => x.1 ≤ n + 1 ∧ PH.le (hp w) x.2) (fun x => [(10, .int .i64 x.1)]) (fun x => x.2) (fun x => [ledHP bl (alS x.1)]) (fun x => n + 1 - x.1) (0, hp w) ⟨by omega, PH.le_refl _⟩ ⟨rfl, trivial⟩ rfl ⟨fun h => h⟩ ?_
  rintro ⟨i, σ1⟩ g1 ⟨(hin : i ≤ n + 1), (hle1 : PH.le (hp w) σ1)⟩ ih
  dsimp only
  (repeat (first | refine RS.seq ?_ | refine RS.region ?_ | refine RS.regionQ ?_ (by kernel_rfl) (by kernel_rfl) | refine RS.skip ?_ | refine RS.inBlock ?_ | refine RS.block ?_ | refine RS.exit ?_)); refine mvI ?_; refine mvI ?_; refine ltI ?_; refine LS.done ?_
  (repeat (first | refine RS.seq ?_ | refine RS.region ?_ | refine RS.regionQ ?_ (by kernel_rfl) (by kernel_rfl) | refine RS.skip ?_ | refine RS.inBlock ?_ | refine RS.block ?_ | refine RS.exit ?_))
  by_cases hlt : i < n + 1
  · refine RS.condT ?_ (h := by simp; omega)
    have hfi := hf1 (i : Int)
    (repeat (first | refine RS.seq ?_ | refine RS.region ?_ | refine RS.regionQ ?_ (by kernel_rfl) (by kernel_rfl) | refine RS.skip ?_ | refine RS.inBlock ?_ | refine RS.block ?_ | refine RS.exit ?_)); refine mvP ?_; refine mvI ?_; (first | refine addN ?_ | refine addI ?_); refine cvI ?_; refine bldS [.int _ _] [.int _ _] (fun b37 => ?_); refine b2sB [IntKind.u8.wrap (97 + (i : Int))] ?_; refine addS ?_; refine mvI ?_; refine bld (vals := [(0, .int _ _), (1, .int _ _)]) [_, _] ?_; refine bld (vals := [(0, .string (letter nmN (i : Int))), (1, .agg (List.toArray [.int .i64 (i : Int), .int .i64 9]))]) (nodeC (alN i) (.slice none 0 0) (.slice none 0 0)) ?_
    refine putL' (alN i) 0 (alS (i + 1)) _ _ _ _ (al_inv i (by omega)) (by omega) (al_put ⟨i, by omega⟩) (al_putN i (by omega)) (ArgAt.of (rep_node _ (alN i) (letter_le _ (by omega) _) (by show I64 (i : Int); omega) (by show I64 9; decide) (RepL.nil _ _ _) (RepL.nil _ _ _))) (fun σ2 hle2 => ?_)
    refine LS.done ?_
    (repeat (first | refine RS.seq ?_ | refine RS.region ?_ | refine RS.regionQ ?_ (by kernel_rfl) (by kernel_rfl) | refine RS.skip ?_ | refine RS.inBlock ?_ | refine RS.block ?_ | refine RS.exit ?_)); refine mvI ?_; (first | refine addN ?_ | refine addI ?_); refine asI ?_; refine LS.done ?_; (repeat (first | refine RS.seq ?_ | refine RS.region ?_ | refine RS.regionQ ?_ (by kernel_rfl) (by kernel_rfl) | refine RS.skip ?_ | refine RS.inBlock ?_ | refine RS.block ?_ | refine RS.exit ?_))
    exact ih (i + 1, σ2) ⟨by (try dsimp only); omega, PH.le_trans hle1 hle2⟩ (by (try dsimp only); omega) ⟨rfl, trivial⟩ (by repeat (first | with_reducible exact Out.refl _ _ _ | exact Out.hv | refine Out.upd ?_ | refine Out.hvIn ?_)) ⟨fun h => h.tail⟩ rfl
  · refine RS.condF ?_ (h := by simp; omega)
    clear ih
    obtain rfl : i = n + 1 := by omega
    clear hlt hin
    have hi := al_inv (n + 1) (by omega)
    (repeat (first | refine RS.seq ?_ | refine RS.region ?_ | refine RS.regionQ ?_ (by kernel_rfl) (by kernel_rfl) | refine RS.skip ?_ | refine RS.inBlock ?_ | refine RS.block ?_ | refine RS.exit ?_)); refine asL ?_; refine LS.done ?_
    refine RS.nilD 0 PodD 36 ?_
    (repeat (first | refine RS.seq ?_ | refine RS.region ?_ | refine RS.regionQ ?_ (by kernel_rfl) (by kernel_rfl) | refine RS.skip ?_ | refine RS.inBlock ?_ | refine RS.block ?_ | refine RS.exit ?_)); refine asI ?_; refine LS.done ?_
    (repeat (first | refine RS.seq ?_ | refine RS.region ?_ | refine RS.regionQ ?_ (by kernel_rfl) (by kernel_rfl) | refine RS.skip ?_ | refine RS.inBlock ?_ | refine RS.block ?_ | refine RS.exit ?_))
    refine RS.loopF (X := Nat × Value) 11 59 (fun x => x.1 ≤ k + 1) (fun x => [(11, x.2), (12, .int .i64 x.1)]) (fun _ => σ1) (fun x => [rowD 0 36 x.2 (alPods x.1), ledHP bl (alS (n + 1))]) (fun x => k + 1 - x.1) (0, .slice none 0 0) (by show 0 ≤ _; omega) ⟨rfl, rfl, trivial⟩ rfl ⟨fun h => h⟩ ?_
    rintro ⟨i, v⟩ g2 (hik : i ≤ k + 1) ih
    dsimp only
    have hpl := alPods_len i
    (repeat (first | refine RS.seq ?_ | refine RS.region ?_ | refine RS.regionQ ?_ (by kernel_rfl) (by kernel_rfl) | refine RS.skip ?_ | refine RS.inBlock ?_ | refine RS.block ?_ | refine RS.exit ?_)); refine mvI ?_; refine mvI ?_; refine ltI ?_; refine LS.done ?_
    (repeat (first | refine RS.seq ?_ | refine RS.region ?_ | refine RS.regionQ ?_ (by kernel_rfl) (by kernel_rfl) | refine RS.skip ?_ | refine RS.inBlock ?_ | refine RS.block ?_ | refine RS.exit ?_))
    by_cases hlt : i < k + 1
    · refine RS.condT ?_ (h := by simp; omega)
      have hfi := hf1 (i : Int)
      have hrp : ∀ σ, Rep.rep σ (podC (alPod i) (.slice none 0 0) (.slice none 0 0)) (alPod i) := fun σ => rep_pod _ (alPod i) (letter_le _ (by omega) _) (by show I64 1; decide) (by show I64 0; decide) (by show I64 0; decide) (RepL.nil _ _ _) (RepL.nil _ _ _)
      (repeat (first | refine RS.seq ?_ | refine RS.region ?_ | refine RS.regionQ ?_ (by kernel_rfl) (by kernel_rfl) | refine RS.skip ?_ | refine RS.inBlock ?_ | refine RS.block ?_ | refine RS.exit ?_)); refine mv (v := v) ?_; refine mvI ?_; (first | refine addN ?_ | refine addI ?_); refine cvI ?_; refine bldS [.int _ _] [.int _ _] (fun b53 => ?_); refine b2sB [IntKind.u8.wrap (97 + (i : Int))] ?_; refine addS ?_; refine bld (vals := [(0, .string (letter nmP (i : Int))), (1, .int .i64 1), (5, .bool true)]) (podC (alPod i) (.slice none 0 0) (.slice none 0 0)) ?_; refine bldS [.agg (List.toArray (podC (alPod i) (.slice none 0 0) (.slice none 0 0)))] (podC (alPod i) (.slice none 0 0) (.slice none 0 0)) (fun b57 => ?_); refine appD (v := v) (l' := [alPod i]) (vy := .slice (some ⟨b57, 0, none⟩) 1 1) (fun w' hw => ⟨_, srcB hw TSlice.eq, CellsL.one_ (hrp _)⟩) (fun v58 => ?_) (hb := by simp; omega) (hm := by simp; omega); refine as_ (v := v58) ?_; refine LS.done ?_
      (repeat (first | refine RS.seq ?_ | refine RS.region ?_ | refine RS.regionQ ?_ (by kernel_rfl) (by kernel_rfl) | refine RS.skip ?_ | refine RS.inBlock ?_ | refine RS.block ?_ | refine RS.exit ?_)); refine mvI ?_; (first | refine addN ?_ | refine addI ?_); refine asI ?_; refine LS.done ?_; (repeat (first | refine RS.seq ?_ | refine RS.region ?_ | refine RS.regionQ ?_ (by kernel_rfl) (by kernel_rfl) | refine RS.skip ?_ | refine RS.inBlock ?_ | refine RS.block ?_ | refine RS.exit ?_))
      exact ih (i + 1, v58) (by show i + 1 ≤ _; omega) (by (try dsimp only); omega) ⟨rfl, rfl, trivial⟩ (by repeat (first | with_reducible exact Out.refl _ _ _ | exact Out.hv | refine Out.upd ?_ | refine Out.hvIn ?_)) ⟨fun h => by dsimp only; rw [alPods_succ]; exact h.tail.tail⟩ rfl
    · refine RS.condF ?_ (h := by simp; omega)
      clear ih
      obtain rfl : i = k + 1 := by omega
      clear hlt hik
      refine RS.exit ?_
      refine RS.freeze0 (l := alPods (k + 1)) v (fun σ2 hle2 hr2 => ?_) (hl := by omega) (hf := FindD.head)
      obtain ⟨a2, c2', rfl⟩ := hr2.form
      (repeat (first | refine RS.seq ?_ | refine RS.region ?_ | refine RS.regionQ ?_ (by kernel_rfl) (by kernel_rfl) | refine RS.skip ?_ | refine RS.inBlock ?_ | refine RS.block ?_ | refine RS.exit ?_)); refine mvP ?_; refine mvL ?_; refine mvI ?_
      refine callP ?_ (hc := fun w _ => w8_c _ _ (by omega) (by omega) w)
      rw [← hmd]
      skip
      rcases al_pack n k m hn8 hk8 hm3 with ⟨hnk, hE, hL⟩ | ⟨hnk, hE, L, hL, hLl, hne⟩
      · refine packLL' 1 (alPods (k + 1)) _ (m : Int) 6 [] _ hi (by omega) (by omega) (hT.mono (PH.le_trans hle1 hle2)) hr2 hE hL rfl (fun v64 σ3 hle3 hr64 => ?_)
        obtain ⟨a64, c64, rfl⟩ := hr64.form
        refine mvT ?_; refine extr (v := .slice _ _ _) ?_; refine extr (v := .int _ _) ?_; refine asL ?_; refine asI ?_; refine LS.done ?_
        (repeat (first | refine RS.seq ?_ | refine RS.region ?_ | refine RS.regionQ ?_ (by kernel_rfl) (by kernel_rfl) | refine RS.skip ?_ | refine RS.inBlock ?_ | refine RS.block ?_ | refine RS.exit ?_)); refine mvI ?_; refine mvI ?_; refine gtI ?_; refine LS.done ?_
        (repeat (first | refine RS.seq ?_ | refine RS.region ?_ | refine RS.regionQ ?_ (by kernel_rfl) (by kernel_rfl) | refine RS.skip ?_ | refine RS.inBlock ?_ | refine RS.block ?_ | refine RS.exit ?_)); refine RS.condT ?_ (h := by simp; omega)
        (repeat (first | refine RS.seq ?_ | refine RS.region ?_ | refine RS.regionQ ?_ (by kernel_rfl) (by kernel_rfl) | refine RS.skip ?_ | refine RS.inBlock ?_ | refine RS.block ?_ | refine RS.exit ?_)); refine mvI ?_; refine eqI ?_; refine mvB ?_; refine LS.on ?_; refine mvL ?_; refine LS.on ?_; refine lenL ?_; refine LS.on ?_; refine eqI ?_; rw [decide_eq_true (show ((([] : List PlaceD).length : Nat) : Int) = 0 from rfl)]; refine pk (v := .bool _) ?_; refine asB ?_; refine LS.done ?_
        (repeat (first | refine RS.seq ?_ | refine RS.region ?_ | refine RS.regionQ ?_ (by kernel_rfl) (by kernel_rfl) | refine RS.skip ?_ | refine RS.inBlock ?_ | refine RS.block ?_ | refine RS.exit ?_)); refine RS.ret1 (v := .bool _) Tryd.func4 fun w hw => ?_
        exact ⟨rfl, hw.below⟩
      · refine packLL' 1 (alPods (k + 1)) _ (m : Int) 0 L _ hi (by omega) (by omega) (hT.mono (PH.le_trans hle1 hle2)) hr2 hE hL rfl (fun v64 σ3 hle3 hr64 => ?_)
        obtain ⟨a64, c64, rfl⟩ := hr64.form
        refine mvT ?_; refine extr (v := .slice _ _ _) ?_; refine extr (v := .int _ _) ?_; refine asL ?_; refine asI ?_; refine LS.done ?_
        (repeat (first | refine RS.seq ?_ | refine RS.region ?_ | refine RS.regionQ ?_ (by kernel_rfl) (by kernel_rfl) | refine RS.skip ?_ | refine RS.inBlock ?_ | refine RS.block ?_ | refine RS.exit ?_)); refine mvI ?_; refine mvI ?_; refine gtI ?_; refine LS.done ?_
        (repeat (first | refine RS.seq ?_ | refine RS.region ?_ | refine RS.regionQ ?_ (by kernel_rfl) (by kernel_rfl) | refine RS.skip ?_ | refine RS.inBlock ?_ | refine RS.block ?_ | refine RS.exit ?_)); refine RS.condF ?_ (h := by simp; omega)
        (repeat (first | refine RS.seq ?_ | refine RS.region ?_ | refine RS.regionQ ?_ (by kernel_rfl) (by kernel_rfl) | refine RS.skip ?_ | refine RS.inBlock ?_ | refine RS.block ?_ | refine RS.exit ?_)); refine mvI ?_; refine neI ?_; refine mvB ?_; refine LS.on ?_; refine mvL ?_; refine LS.on ?_; refine lenL ?_; refine LS.on ?_; refine mvI ?_; refine LS.on ?_; refine neI ?_; rw [decide_eq_true (show ((L.length : Nat) : Int) = 1 + (k : Int) by omega)]; refine pk (v := .bool _) ?_; refine LS.done ?_
        (repeat (first | refine RS.seq ?_ | refine RS.region ?_ | refine RS.regionQ ?_ (by kernel_rfl) (by kernel_rfl) | refine RS.skip ?_ | refine RS.inBlock ?_ | refine RS.block ?_ | refine RS.exit ?_)); refine RS.condF ?_
        obtain ⟨bL, oL, rfl, hrow⟩ := hr64.addr (List.ne_nil_of_length_pos (by omega))
        (repeat (first | refine RS.seq ?_ | refine RS.region ?_ | refine RS.regionQ ?_ (by kernel_rfl) (by kernel_rfl) | refine RS.skip ?_ | refine RS.inBlock ?_ | refine RS.block ?_ | refine RS.exit ?_)); refine asI ?_; refine LS.done ?_
        (repeat (first | refine RS.seq ?_ | refine RS.region ?_ | refine RS.regionQ ?_ (by kernel_rfl) (by kernel_rfl) | refine RS.skip ?_ | refine RS.inBlock ?_ | refine RS.block ?_ | refine RS.exit ?_))
        refine RS.loopF (X := Nat × PH) 15 106 (fun x => x.1 ≤ k + 1 ∧ PH.le σ3 x.2) (fun x => [(15, .int .i64 x.1)]) (fun x => x.2) (fun _ => []) (fun x => k + 1 - x.1) (0, σ3) ⟨by omega, PH.le_refl _⟩ ⟨rfl, trivial⟩ rfl ⟨fun _ => trivial⟩ ?_
        rintro ⟨i, σ4⟩ g4 ⟨(hik : i ≤ k + 1), (hle4 : PH.le σ3 σ4)⟩ ih
        dsimp only
        (repeat (first | refine RS.seq ?_ | refine RS.region ?_ | refine RS.regionQ ?_ (by kernel_rfl) (by kernel_rfl) | refine RS.skip ?_ | refine RS.inBlock ?_ | refine RS.block ?_ | refine RS.exit ?_)); refine mvI ?_; refine mvI ?_; refine ltI ?_; refine LS.done ?_
        (repeat (first | refine RS.seq ?_ | refine RS.region ?_ | refine RS.regionQ ?_ (by kernel_rfl) (by kernel_rfl) | refine RS.skip ?_ | refine RS.inBlock ?_ | refine RS.block ?_ | refine RS.exit ?_))
        by_cases hlt : i < k + 1
        · refine RS.condT ?_ (h := by simp; omega)
          (repeat (first | refine RS.seq ?_ | refine RS.region ?_ | refine RS.regionQ ?_ (by kernel_rfl) (by kernel_rfl) | refine RS.skip ?_ | refine RS.inBlock ?_ | refine RS.block ?_ | refine RS.exit ?_)); refine asI ?_; refine LS.done ?_
          (repeat (first | refine RS.seq ?_ | refine RS.region ?_ | refine RS.regionQ ?_ (by kernel_rfl) (by kernel_rfl) | refine RS.skip ?_ | refine RS.inBlock ?_ | refine RS.block ?_ | refine RS.exit ?_))
          refine RS.loopF (X := Nat × PH) 16 106 (fun x => x.1 ≤ i ∧ PH.le σ3 x.2) (fun x => [(16, .int .i64 x.1)]) (fun x => x.2) (fun _ => []) (fun x => i - x.1) (0, σ4) ⟨by omega, hle4⟩ ⟨rfl, trivial⟩ rfl ⟨fun _ => trivial⟩ ?_
          rintro ⟨j, σ5⟩ g5 ⟨(hji : j ≤ i), (hle5 : PH.le σ3 σ5)⟩ ih2
          dsimp only
          (repeat (first | refine RS.seq ?_ | refine RS.region ?_ | refine RS.regionQ ?_ (by kernel_rfl) (by kernel_rfl) | refine RS.skip ?_ | refine RS.inBlock ?_ | refine RS.block ?_ | refine RS.exit ?_)); refine mvI ?_; refine mvI ?_; refine ltI ?_; refine LS.done ?_
          (repeat (first | refine RS.seq ?_ | refine RS.region ?_ | refine RS.regionQ ?_ (by kernel_rfl) (by kernel_rfl) | refine RS.skip ?_ | refine RS.inBlock ?_ | refine RS.block ?_ | refine RS.exit ?_))
          by_cases hlt2 : j < i
          · refine RS.condT ?_ (h := by simp; omega)
            obtain ⟨hci, _⟩ := RowAt.place (hrow.mono hle5) i (by omega)
            obtain ⟨hcj, _⟩ := RowAt.place (hrow.mono hle5) j (by omega)
            have hgi : alNode L i = (L[i]'(by omega)).node := by simp [alNode, List.getD_eq_getElem?_getD, show i < L.length by omega]
            have hgj : alNode L j = (L[j]'(by omega)).node := by simp [alNode, List.getD_eq_getElem?_getD, show j < L.length by omega]
            have h1 : σ5.cell bL (oL + i * 5 + 1) = some (.string (alNode L i)) := by rw [hgi]; exact hci 1 (by decide)
            have h2 : σ5.cell bL (oL + j * 5 + 1) = some (.string (alNode L j)) := by rw [hgj]; exact hcj 1 (by decide)
            (repeat (first | refine RS.seq ?_ | refine RS.region ?_ | refine RS.skip ?_ | refine RS.inBlock ?_ | refine RS.block ?_ | refine RS.exit ?_)); refine RS.drawK [.free, .free, .free, .free, .ex, .free, .free, .free, .free, .ex, .free] ?_ (by kernel_rfl) (by kernel_rfl); refine D.mvL ?_; refine D.mvI ?_; refine D.idx (i := i) ?_; refine D.fld ?_; refine D.ldS h1 ?_; refine D.mvL ?_; refine D.mvI ?_; refine D.idx (i := j) ?_; refine D.fld ?_; refine D.ldS h2 ?_; refine D.eqS ?_; rw [decide_eq_false (hne i j (by omega) hlt2)]; refine D.done (fun us σ1 hle1 hfs => ?_)
            refine RS.ow ?_
            (repeat (first | refine RS.seq ?_ | refine RS.region ?_ | refine RS.regionQ ?_ (by kernel_rfl) (by kernel_rfl) | refine RS.skip ?_ | refine RS.inBlock ?_ | refine RS.block ?_ | refine RS.exit ?_)); refine RS.condF ?_
            refine RS.skip ?_
            (repeat (first | refine RS.seq ?_ | refine RS.region ?_ | refine RS.regionQ ?_ (by kernel_rfl) (by kernel_rfl) | refine RS.skip ?_ | refine RS.inBlock ?_ | refine RS.block ?_ | refine RS.exit ?_)); refine mvI ?_; (first | refine addN ?_ | refine addI ?_); refine asI ?_; refine LS.done ?_; (repeat (first | refine RS.seq ?_ | refine RS.region ?_ | refine RS.regionQ ?_ (by kernel_rfl) (by kernel_rfl) | refine RS.skip ?_ | refine RS.inBlock ?_ | refine RS.block ?_ | refine RS.exit ?_))
            exact ih2 (j + 1, _) ⟨hlt2, PH.le_trans hle5 (by assumption)⟩ (by (try dsimp only); omega) ⟨rfl, trivial⟩ (by repeat (first | with_reducible exact Out.refl _ _ _ | exact Out.hv | refine Out.upd ?_ | refine Out.hvIn ?_)) ⟨fun _ => trivial⟩ rfl
          · refine RS.condF ?_ (h := by simp; omega)
            (repeat (first | refine RS.seq ?_ | refine RS.region ?_ | refine RS.regionQ ?_ (by kernel_rfl) (by kernel_rfl) | refine RS.skip ?_ | refine RS.inBlock ?_ | refine RS.block ?_ | refine RS.exit ?_)); refine mvI ?_; (first | refine addN ?_ | refine addI ?_); refine asI ?_; refine LS.done ?_; (repeat (first | refine RS.seq ?_ | refine RS.region ?_ | refine RS.regionQ ?_ (by kernel_rfl) (by kernel_rfl) | refine RS.skip ?_ | refine RS.inBlock ?_ | refine RS.block ?_ | refine RS.exit ?_))
            exact ih (i + 1, σ5) ⟨hlt, hle5⟩ (by (try dsimp only); omega) ⟨rfl, trivial⟩ (by repeat (first | with_reducible exact Out.refl _ _ _ | exact Out.hv | refine Out.upd ?_ | refine Out.hvIn ?_)) ⟨fun _ => trivial⟩ rfl
        · refine RS.condF ?_ (h := by simp; omega)
          (repeat (first | refine RS.seq ?_ | refine RS.region ?_ | refine RS.regionQ ?_ (by kernel_rfl) (by kernel_rfl) | refine RS.skip ?_ | refine RS.inBlock ?_ | refine RS.block ?_ | refine RS.exit ?_)); refine asB ?_; refine LS.done ?_; (repeat (first | refine RS.seq ?_ | refine RS.region ?_ | refine RS.regionQ ?_ (by kernel_rfl) (by kernel_rfl) | refine RS.skip ?_ | refine RS.inBlock ?_ | refine RS.block ?_ | refine RS.exit ?_)); refine RS.ret1 (v := .bool _) Tryd.func4 fun w hw => ?_
          exact ⟨rfl, hw.below⟩
end Go.Proofs.YthnoaapghcadgaaDoor
/- Walk: PackSpreads. -/
namespace Go.Proofs.YthnoaapghcadgaaDoor
open Go.JW Go.RowKit
def spN (i : Nat) : NodeD := ⟨letter nmN (i : Int), 100, 100, [], [], false⟩
def spT (n j : Nat) : LedD := ⟨(List.range j).map fun (t : Nat) => (letter nmN ((n - 1 - t : Nat) : Int), spN (n - 1 - t)), []⟩
def spPod (i : Nat) : PodD := ⟨letter nmP (i : Int), 1, 3, 5, [], [], false⟩
def spPods (k : Nat) : List PodD := (List.range k).map spPod
theorem spPods_len (k : Nat) : (spPods k).length = k := by simp [spPods]
theorem spPods_succ (k : Nat) : spPods (k + 1) = spPods k ++ [spPod k] := by simp [spPods, List.range_succ]
def spAt (n m i : Nat) : Nat := if m = 1 then 0 else i % n
def spOk (n k m : Nat) : Bool := match allP (spT n n) (m : Int) (spPods k) [] with
  | none => false
  | some L => decide (L.length = k) && (List.range k).all fun i => decide (alNode L i = letter nmN (spAt n m i : Int))
theorem spOk_all : ∀ n : Fin 6, ∀ k : Fin 8, ∀ m : Fin 3, spOk (n.val + 1) (k.val + 1) m.val = true := by decide +kernel
theorem sp_put : ∀ n : Fin 6, ∀ j : Fin 6, j.val < n.val + 1 → putE (spT (n.val + 1) j.val) (spN (n.val - j.val)) = 0 := by decide +kernel
theorem sp_asg : ∀ n : Fin 6, ∀ j : Fin 6, j.val < n.val + 1 → (asg (spT (n.val + 1) j.val).nodes (spN (n.val - j.val)).name).isSome = false := by decide +kernel
theorem sp_putN (n j : Nat) (hn : n < 6) (hj : j < n + 1) : (⟨putN (spT (n + 1) j) (spN (n - j)), []⟩ : LedD) = spT (n + 1) (j + 1) := by
  have h1 := sp_put ⟨n, hn⟩ ⟨j, by omega⟩ hj
  have h2 := sp_asg ⟨n, hn⟩ ⟨j, by omega⟩ hj
  simp only at h1 h2
  have h3 : asg (spT (n + 1) j).nodes (spN (n - j)).name = none := by
    cases e : asg (spT (n + 1) j).nodes (spN (n - j)).name with
    | none => rfl
    | some x => rw [e] at h2; cases h2
  rw [putN, if_pos h1, aset_new h3]
  simp [spT, List.range_succ, spN]
theorem sp_inv (n : Nat) (hn : n < 6) : ∀ j, j ≤ n + 1 → LedInv (spT (n + 1) j) 0 := by
  intro j
  induction j with
  | zero => intro _; exact LedInv.empty 0
  | succ j ih => intro hj; rw [← sp_putN n j hn (by omega)]; exact (ih (by omega)).put (spN (n - j))
theorem sp_pack (n k m : Nat) (hn : n < 6) (hk : k < 8) (hm : m < 3) : packE (spT (n + 1) (n + 1)) 1 (spPods (k + 1)) (m : Int) = 0 ∧ ∃ L, packL (spT (n + 1) (n + 1)) 1 (spPods (k + 1)) (m : Int) = L ∧ L.length = k + 1 ∧ ∀ i, i < k + 1 → alNode L i = letter nmN (spAt (n + 1) m i : Int) := by
  have h := spOk_all ⟨n, hn⟩ ⟨k, hk⟩ ⟨m, hm⟩
  simp only [spOk] at h
  have hz : ¬ 0 < (tk (spT (n + 1) (n + 1)).taken 1).length := by simp [tk, spT, asg]
  have hl : ¬ (spPods (k + 1)).length = 0 := by rw [spPods_len]; omega
  unfold packE packL
  rw [if_neg hz, if_neg hz, if_neg hl, if_neg hl]
  rcases opt_cases (allP (spT (n + 1) (n + 1)) (m : Int) (spPods (k + 1)) []) with e | ⟨L, e⟩
  · rw [e] at h; cases h
  · rw [e] at h ⊢
    simp only [Bool.and_eq_true, decide_eq_true_eq, List.all_eq_true, List.mem_range] at h
    exact ⟨rfl, L, rfl, h.1, h.2⟩
theorem spreads8_c (nodes : Int) (hn : I64 nodes) (podn : Int) (hpd : I64 podn) (mode : Int) (hm : I64 mode) (w : World) (hT : TopsAt (hp w)) : Calls Tryd.prog 3 #[.int .i64 nodes, .int .i64 podn, .int .i64 mode] w fun e w' => e = .returned (.bool true) ∧ Below w.heap.size w w' := by
  obtain ⟨q1, q2⟩ := wmod mode 3 (by omega)
  obtain ⟨c1, c2⟩ := wmod nodes 6 (by omega)
  obtain ⟨k1, k2⟩ := wmod podn 8 (by omega)
  refine RS.enter Tryd.func3 Tryd.ntmps3 rfl rfl ?_
  (repeat (first | refine RS.seq ?_ | refine RS.region ?_ | refine RS.regionQ ?_ (by kernel_rfl) (by kernel_rfl) | refine RS.skip ?_ | refine RS.inBlock ?_ | refine RS.block ?_ | refine RS.exit ?_)); refine asB ?_; refine LS.done ?_
  (repeat (first | refine RS.seq ?_ | refine RS.region ?_ | refine RS.regionQ ?_ (by kernel_rfl) (by kernel_rfl) | refine RS.skip ?_ | refine RS.inBlock ?_ | refine RS.block ?_ | refine RS.exit ?_)); skip
  refine callP ?_ (hc := fun w' hw => known8_c w' (hT.mono hw.imm))
  refine not_ ?_; refine LS.done ?_
  (repeat (first | refine RS.seq ?_ | refine RS.region ?_ | refine RS.regionQ ?_ (by kernel_rfl) (by kernel_rfl) | refine RS.skip ?_ | refine RS.inBlock ?_ | refine RS.block ?_ | refine RS.exit ?_)); refine RS.condF ?_
  (repeat (first | refine RS.seq ?_ | refine RS.region ?_ | refine RS.regionQ ?_ (by kernel_rfl) (by kernel_rfl) | refine RS.skip ?_ | refine RS.inBlock ?_ | refine RS.block ?_ | refine RS.exit ?_)); skip
  refine newL (fun bl => ?_)
  refine asP ?_; refine LS.done ?_
  (repeat (first | refine RS.seq ?_ | refine RS.region ?_ | refine RS.regionQ ?_ (by kernel_rfl) (by kernel_rfl) | refine RS.skip ?_ | refine RS.inBlock ?_ | refine RS.block ?_ | refine RS.exit ?_)); refine mvP ?_; refine bin_eql_P ?_; refine LS.done ?_
  (repeat (first | refine RS.seq ?_ | refine RS.region ?_ | refine RS.regionQ ?_ (by kernel_rfl) (by kernel_rfl) | refine RS.skip ?_ | refine RS.inBlock ?_ | refine RS.block ?_ | refine RS.exit ?_)); refine RS.condF ?_
  (repeat (first | refine RS.seq ?_ | refine RS.region ?_ | refine RS.regionQ ?_ (by kernel_rfl) (by kernel_rfl) | refine RS.skip ?_ | refine RS.inBlock ?_ | refine RS.block ?_ | refine RS.exit ?_)); refine mvI ?_
  refine callP ?_ (hc := fun w _ => w8_c _ _ (by omega) (by omega) w)
  (first | refine addN ?_ | refine addI ?_); refine mvI ?_
  refine callP ?_ (hc := fun w _ => w8_c _ _ (by omega) (by omega) w)
  (first | refine addN ?_ | refine addI ?_); refine mvI ?_
  refine callP ?_ (hc := fun w _ => w8_c _ _ (by omega) (by omega) w)
  obtain ⟨n, hnd⟩ : ∃ n : Nat, (n : Int) = nodes % 6 := ⟨(nodes % 6).toNat, by omega⟩
  obtain ⟨k, hkd⟩ : ∃ k : Nat, (k : Int) = podn % 8 := ⟨(podn % 8).toNat, by omega⟩
  obtain ⟨m, hmd⟩ : ∃ m : Nat, (m : Int) = mode % 3 := ⟨(mode % 3).toNat, by omega⟩
  have hn6 : n < 6 := by omega
  have hk8 : k < 8 := by omega
  have hm3 : m < 3 := by omega
  rw [← hnd, ← hkd, ← hmd]
  refine asI ?_; refine asI ?_; refine asI ?_; refine LS.done ?_
  have hp1 : nmN.size = 1 := rfl
  have hp2 : nmP.size = 1 := rfl
  have hp3 : (⟨#[110]⟩ : ByteArray).size = 1 := rfl
  have hp4 : (⟨#[112]⟩ : ByteArray).size = 1 := rfl
  have hf1 : ∀ x : Int, (List.foldl (fun (r : ByteArray) (n : Int) => r.push (UInt8.ofNat n.toNat)) ByteArray.empty [IntKind.u8.wrap x]).size = 1 := fun x => by simp only [List.foldl]; rw [ByteArray.size_push]; rfl
  (repeat (first | refine RS.seq ?_ | refine RS.region ?_ | refine RS.regionQ ?_ (by kernel_rfl) (by kernel_rfl) | refine RS.skip ?_ | refine RS.inBlock ?_ | refine RS.block ?_ | refine RS.exit ?_)); refine mvI ?_; refine asI ?_; refine LS.done ?_
  (repeat (first | refine RS.seq ?_ | refine RS.region ?_ | refine RS.regionQ ?_ (by kernel_rfl) (by kernel_rfl) | refine RS.skip ?_ | refine RS.inBlock ?_ | refine RS.block ?_ | refine RS.exit ?_))
  refine RS.loopF (X := Nat × PH) 11 48 (fun x => x.1 ≤ n + 1 ∧ PH.le (hp w) x.2) (fun x => [(11, .int .i64 (1 + (n : Int) - (x.1 : Int)))]) (fun x => x.2) (fun x => [ledHP bl (spT (n + 1) x.1)]) (fun x => n + 1 - x.1) (0, hp w) ⟨by omega, PH.le_refl _⟩ ⟨intV (by simp), trivial⟩ rfl ⟨fun h => h⟩ ?_
  rintro ⟨i, σ1⟩ g1 ⟨(hin : i ≤ n + 1), (hle1 : PH.le (hp w) σ1)⟩ ih
  dsimp only
  (repeat (first | refine RS.seq ?_ | refine RS.region ?_ | refine RS.regionQ ?_ (by kernel_rfl) (by kernel_rfl) | refine RS.skip ?_ | refine RS.inBlock ?_ | refine RS.block ?_ | refine RS.exit ?_)); refine mvI ?_; refine gtI ?_; refine LS.done ?_
  (repeat (first | refine RS.seq ?_ | refine RS.region ?_ | refine RS.regionQ ?_ (by kernel_rfl) (by kernel_rfl) | refine RS.skip ?_ | refine RS.inBlock ?_ | refine RS.block ?_ | refine RS.exit ?_))
  by_cases hlt : i < n + 1
  · refine RS.condT ?_ (h := by simp; omega)
    obtain ⟨z, hz⟩ : ∃ z, z = 1 + (n : Int) - (i : Int) := ⟨_, rfl⟩
    have hzn : z - 1 = ((n - i : Nat) : Int) := by omega
    have hfi := hf1 (97 + z - 1)
    have hnm : (⟨#[110]⟩ : ByteArray) ++ List.foldl (fun (r : ByteArray) (n : Int) => r.push (UInt8.ofNat n.toNat)) ByteArray.empty [IntKind.u8.wrap (97 + z - 1)] = letter nmN ((n - i : Nat) : Int) := by unfold letter; rw [← hzn, Int.add_sub_assoc]; rfl
    have hz64 : 0 ≤ z ∧ z ≤ 6 := by omega
    rw [← hz]
    (repeat (first | refine RS.seq ?_ | refine RS.region ?_ | refine RS.regionQ ?_ (by kernel_rfl) (by kernel_rfl) | refine RS.skip ?_ | refine RS.inBlock ?_ | refine RS.block ?_ | refine RS.exit ?_)); refine mvP ?_; refine mvI ?_; (first | refine addN ?_ | refine addI ?_); (first | refine subN ?_ | refine subI ?_); refine cvI ?_; refine bldS [.int _ _] [.int _ _] (fun b41 => ?_); refine b2sB [IntKind.u8.wrap (97 + z - 1)] ?_; refine addS ?_; rw [hnm]; refine bld (vals := [(0, .int _ _), (1, .int _ _)]) [_, _] ?_; refine bld (vals := [(0, .string (letter nmN ((n - i : Nat) : Int))), (1, .agg (List.toArray [.int .i64 100, .int .i64 100]))]) (nodeC (spN (n - i)) (.slice none 0 0) (.slice none 0 0)) ?_
    refine putL' (spN (n - i)) 0 (spT (n + 1) (i + 1)) _ _ _ _ (sp_inv n hn6 i (by omega)) (by omega) (sp_put ⟨n, hn6⟩ ⟨i, by omega⟩ hlt) (sp_putN n i hn6 hlt) (ArgAt.of (rep_node _ (spN (n - i)) (letter_le _ (by omega) _) (by show I64 100; decide) (by show I64 100; decide) (RepL.nil _ _ _) (RepL.nil _ _ _))) (fun σ2 hle2 => ?_)
    refine neI ?_; refine LS.done ?_
    (repeat (first | refine RS.seq ?_ | refine RS.region ?_ | refine RS.regionQ ?_ (by kernel_rfl) (by kernel_rfl) | refine RS.skip ?_ | refine RS.inBlock ?_ | refine RS.block ?_ | refine RS.exit ?_)); refine RS.condF ?_
    refine RS.skip ?_
    (repeat (first | refine RS.seq ?_ | refine RS.region ?_ | refine RS.regionQ ?_ (by kernel_rfl) (by kernel_rfl) | refine RS.skip ?_ | refine RS.inBlock ?_ | refine RS.block ?_ | refine RS.exit ?_)); refine mvI ?_; (first | refine subN ?_ | refine subI ?_); refine asI ?_; refine LS.done ?_; (repeat (first | refine RS.seq ?_ | refine RS.region ?_ | refine RS.regionQ ?_ (by kernel_rfl) (by kernel_rfl) | refine RS.skip ?_ | refine RS.inBlock ?_ | refine RS.block ?_ | refine RS.exit ?_))
    exact ih (i + 1, σ2) ⟨by (try dsimp only); omega, PH.le_trans hle1 hle2⟩ (by (try dsimp only); omega) ⟨intV (by (try dsimp only); omega), trivial⟩ (by repeat (first | with_reducible exact Out.refl _ _ _ | exact Out.hv | refine Out.upd ?_ | refine Out.hvIn ?_)) ⟨fun h => h.tail⟩ rfl
  · refine RS.condF ?_ (h := by simp; omega)
    clear ih
    obtain rfl : i = n + 1 := by omega
    clear hlt hin
    have hi := sp_inv n hn6 (n + 1) (by omega)
    (repeat (first | refine RS.seq ?_ | refine RS.region ?_ | refine RS.regionQ ?_ (by kernel_rfl) (by kernel_rfl) | refine RS.skip ?_ | refine RS.inBlock ?_ | refine RS.block ?_ | refine RS.exit ?_)); refine asL ?_; refine LS.done ?_
    refine RS.nilD 0 PodD 36 ?_
    (repeat (first | refine RS.seq ?_ | refine RS.region ?_ | refine RS.regionQ ?_ (by kernel_rfl) (by kernel_rfl) | refine RS.skip ?_ | refine RS.inBlock ?_ | refine RS.block ?_ | refine RS.exit ?_)); refine asI ?_; refine LS.done ?_
    (repeat (first | refine RS.seq ?_ | refine RS.region ?_ | refine RS.regionQ ?_ (by kernel_rfl) (by kernel_rfl) | refine RS.skip ?_ | refine RS.inBlock ?_ | refine RS.block ?_ | refine RS.exit ?_))
    refine RS.loopF (X := Nat × Value) 12 64 (fun x => x.1 ≤ k + 1) (fun x => [(12, x.2), (13, .int .i64 x.1)]) (fun _ => σ1) (fun x => [rowD 0 36 x.2 (spPods x.1), ledHP bl (spT (n + 1) (n + 1))]) (fun x => k + 1 - x.1) (0, .slice none 0 0) (by show 0 ≤ _; omega) ⟨rfl, rfl, trivial⟩ rfl ⟨fun h => h⟩ ?_
    rintro ⟨i, v⟩ g2 (hik : i ≤ k + 1) ih
    dsimp only
    have hpl := spPods_len i
    (repeat (first | refine RS.seq ?_ | refine RS.region ?_ | refine RS.regionQ ?_ (by kernel_rfl) (by kernel_rfl) | refine RS.skip ?_ | refine RS.inBlock ?_ | refine RS.block ?_ | refine RS.exit ?_)); refine mvI ?_; refine mvI ?_; refine ltI ?_; refine LS.done ?_
    (repeat (first | refine RS.seq ?_ | refine RS.region ?_ | refine RS.regionQ ?_ (by kernel_rfl) (by kernel_rfl) | refine RS.skip ?_ | refine RS.inBlock ?_ | refine RS.block ?_ | refine RS.exit ?_))
    by_cases hlt : i < k + 1
    · refine RS.condT ?_ (h := by simp; omega)
      have hfi := hf1 (97 + (i : Int))
      have hrp : ∀ σ, Rep.rep σ (podC (spPod i) (.slice none 0 0) (.slice none 0 0)) (spPod i) := fun σ => rep_pod _ (spPod i) (letter_le _ (by omega) _) (by show I64 1; decide) (by show I64 3; decide) (by show I64 5; decide) (RepL.nil _ _ _) (RepL.nil _ _ _)
      (repeat (first | refine RS.seq ?_ | refine RS.region ?_ | refine RS.regionQ ?_ (by kernel_rfl) (by kernel_rfl) | refine RS.skip ?_ | refine RS.inBlock ?_ | refine RS.block ?_ | refine RS.exit ?_)); refine mv (v := v) ?_; refine mvI ?_; (first | refine addN ?_ | refine addI ?_); refine cvI ?_; refine bldS [.int _ _] [.int _ _] (fun b57 => ?_); refine b2sB [IntKind.u8.wrap (97 + (i : Int))] ?_; refine addS ?_; refine bld (vals := [(0, .int _ _), (1, .int _ _)]) [_, _] ?_; refine bld (vals := [(0, .string (letter nmP (i : Int))), (1, .int .i64 1), (2, .agg (List.toArray [.int .i64 3, .int .i64 5]))]) (podC (spPod i) (.slice none 0 0) (.slice none 0 0)) ?_; refine bldS [.agg (List.toArray (podC (spPod i) (.slice none 0 0) (.slice none 0 0)))] (podC (spPod i) (.slice none 0 0) (.slice none 0 0)) (fun b62 => ?_); refine appD (v := v) (l' := [spPod i]) (vy := .slice (some ⟨b62, 0, none⟩) 1 1) (fun w' hw => ⟨_, srcB hw TSlice.eq, CellsL.one_ (hrp _)⟩) (fun v63 => ?_) (hb := by simp; omega) (hm := by simp; omega); refine as_ (v := v63) ?_; refine LS.done ?_
      (repeat (first | refine RS.seq ?_ | refine RS.region ?_ | refine RS.regionQ ?_ (by kernel_rfl) (by kernel_rfl) | refine RS.skip ?_ | refine RS.inBlock ?_ | refine RS.block ?_ | refine RS.exit ?_)); refine mvI ?_; (first | refine addN ?_ | refine addI ?_); refine asI ?_; refine LS.done ?_; (repeat (first | refine RS.seq ?_ | refine RS.region ?_ | refine RS.regionQ ?_ (by kernel_rfl) (by kernel_rfl) | refine RS.skip ?_ | refine RS.inBlock ?_ | refine RS.block ?_ | refine RS.exit ?_))
      exact ih (i + 1, v63) (by show i + 1 ≤ _; omega) (by (try dsimp only); omega) ⟨rfl, rfl, trivial⟩ (by repeat (first | with_reducible exact Out.refl _ _ _ | exact Out.hv | refine Out.upd ?_ | refine Out.hvIn ?_)) ⟨fun h => by dsimp only; rw [spPods_succ]; exact h.tail.tail⟩ rfl
    · refine RS.condF ?_ (h := by simp; omega)
      clear ih
      obtain rfl : i = k + 1 := by omega
      clear hlt hik
      refine RS.exit ?_
      refine RS.freeze0 (l := spPods (k + 1)) v (fun σ2 hle2 hr2 => ?_) (hl := by omega) (hf := FindD.head)
      obtain ⟨a2, c2', rfl⟩ := hr2.form
      obtain ⟨hE, L, hL, hLl, hat⟩ := sp_pack n k m hn6 hk8 hm3
      (repeat (first | refine RS.seq ?_ | refine RS.region ?_ | refine RS.regionQ ?_ (by kernel_rfl) (by kernel_rfl) | refine RS.skip ?_ | refine RS.inBlock ?_ | refine RS.block ?_ | refine RS.exit ?_)); refine mvP ?_; refine mvL ?_; refine mvI ?_
      refine packLL' 1 (spPods (k + 1)) _ (m : Int) 0 L _ hi (by omega) (by omega) (hT.mono (PH.le_trans hle1 hle2)) hr2 hE hL rfl (fun v68 σ3 hle3 hr68 => ?_)
      obtain ⟨a68, c68, rfl⟩ := hr68.form
      refine mvT ?_; refine extr (v := .slice _ _ _) ?_; refine extr (v := .int _ _) ?_; refine asL ?_; refine asI ?_; refine LS.done ?_
      (repeat (first | refine RS.seq ?_ | refine RS.region ?_ | refine RS.regionQ ?_ (by kernel_rfl) (by kernel_rfl) | refine RS.skip ?_ | refine RS.inBlock ?_ | refine RS.block ?_ | refine RS.exit ?_)); refine mvI ?_; refine neI ?_; refine mvB ?_; refine LS.on ?_; refine mvL ?_; refine LS.on ?_; refine lenL ?_; refine LS.on ?_; refine mvI ?_; refine LS.on ?_; refine neI ?_; rw [decide_eq_true (show ((L.length : Nat) : Int) = 1 + (k : Int) by omega)]; refine pk (v := .bool _) ?_; refine LS.done ?_
      (repeat (first | refine RS.seq ?_ | refine RS.region ?_ | refine RS.regionQ ?_ (by kernel_rfl) (by kernel_rfl) | refine RS.skip ?_ | refine RS.inBlock ?_ | refine RS.block ?_ | refine RS.exit ?_)); refine RS.condF ?_
      obtain ⟨bL, oL, rfl, hrow⟩ := hr68.addr (List.ne_nil_of_length_pos (by omega))
      (repeat (first | refine RS.seq ?_ | refine RS.region ?_ | refine RS.regionQ ?_ (by kernel_rfl) (by kernel_rfl) | refine RS.skip ?_ | refine RS.inBlock ?_ | refine RS.block ?_ | refine RS.exit ?_)); refine asI ?_; refine LS.done ?_
      (repeat (first | refine RS.seq ?_ | refine RS.region ?_ | refine RS.regionQ ?_ (by kernel_rfl) (by kernel_rfl) | refine RS.skip ?_ | refine RS.inBlock ?_ | refine RS.block ?_ | refine RS.exit ?_))
      refine RS.loopF (X := Nat × PH) 16 101 (fun x => x.1 ≤ k + 1 ∧ PH.le σ3 x.2) (fun x => [(16, .int .i64 x.1)]) (fun x => x.2) (fun _ => []) (fun x => k + 1 - x.1) (0, σ3) ⟨by omega, PH.le_refl _⟩ ⟨rfl, trivial⟩ rfl ⟨fun _ => trivial⟩ ?_
      rintro ⟨i, σ4⟩ g4 ⟨(hik : i ≤ k + 1), (hle4 : PH.le σ3 σ4)⟩ ih
      dsimp only
      (repeat (first | refine RS.seq ?_ | refine RS.region ?_ | refine RS.regionQ ?_ (by kernel_rfl) (by kernel_rfl) | refine RS.skip ?_ | refine RS.inBlock ?_ | refine RS.block ?_ | refine RS.exit ?_)); refine mvI ?_; refine mvI ?_; refine ltI ?_; refine LS.done ?_
      (repeat (first | refine RS.seq ?_ | refine RS.region ?_ | refine RS.regionQ ?_ (by kernel_rfl) (by kernel_rfl) | refine RS.skip ?_ | refine RS.inBlock ?_ | refine RS.block ?_ | refine RS.exit ?_))
      by_cases hlt : i < k + 1
      · refine RS.condT ?_ (h := by simp; omega)
        have hmod : (i : Int).tmod (1 + (n : Int)) = ((i % (n + 1) : Nat) : Int) := by
          rw [show (1 + (n : Int)) = ((n + 1 : Nat) : Int) by omega]; exact (Int.ofNat_tmod i (n + 1)).symm
        (repeat (first | refine RS.seq ?_ | refine RS.region ?_ | refine RS.regionQ ?_ (by kernel_rfl) (by kernel_rfl) | refine RS.skip ?_ | refine RS.inBlock ?_ | refine RS.block ?_ | refine RS.exit ?_)); refine mvI ?_; refine mvI ?_; refine remI ?_; rw [hmod]; refine asI ?_; refine LS.done ?_
        (repeat (first | refine RS.seq ?_ | refine RS.region ?_ | refine RS.regionQ ?_ (by kernel_rfl) (by kernel_rfl) | refine RS.skip ?_ | refine RS.inBlock ?_ | refine RS.block ?_ | refine RS.exit ?_)); refine mvI ?_; refine eqI ?_; refine LS.done ?_
        (repeat (first | refine RS.seq ?_ | refine RS.region ?_ | refine RS.skip ?_ | refine RS.inBlock ?_ | refine RS.block ?_ | refine RS.exit ?_))
        refine RS.cut (X := Unit) 17 101 (fun _ => True) (fun _ => [(17, .int .i64 (spAt (n + 1) m i : Int))]) (fun _ => σ4) (fun _ => []) ?_ (fun J => ?_)
        rotate_left
        · refine RS.cond (fun y => ?_) (fun y => ?_)
          · have y := of_decide_eq_true y
            (repeat (first | refine RS.seq ?_ | refine RS.region ?_ | refine RS.regionQ ?_ (by kernel_rfl) (by kernel_rfl) | refine RS.skip ?_ | refine RS.inBlock ?_ | refine RS.block ?_ | refine RS.exit ?_)); refine asI ?_; refine LS.done ?_
            exact J () trivial ⟨intV (x := 0) (y := (spAt (n + 1) m i : Int)) (by rw [spAt, if_pos (by omega)]; rfl), trivial⟩ (by repeat (first | with_reducible exact Out.refl _ _ _ | exact Out.hv | refine Out.upd ?_ | refine Out.hvIn ?_)) ⟨fun _ => trivial⟩ rfl
          · have y := of_decide_eq_false y
            refine RS.skip ?_
            exact J () trivial ⟨intV (x := ((i % (n + 1) : Nat) : Int)) (y := (spAt (n + 1) m i : Int)) (by rw [spAt, if_neg (by omega)]), trivial⟩ (by repeat (first | with_reducible exact Out.refl _ _ _ | exact Out.hv | refine Out.upd ?_ | refine Out.hvIn ?_)) ⟨fun _ => trivial⟩ rfl
        rintro _ g5 _
        have hsa : spAt (n + 1) m i < 6 := by
          unfold spAt
          split
          · omega
          · have := Nat.mod_lt i (show n + 1 > 0 by omega); omega
        obtain ⟨hci, _⟩ := RowAt.place (hrow.mono hle4) i (by omega)
        have hgi : alNode L i = (L[i]'(by omega)).node := by simp [alNode, List.getD_eq_getElem?_getD, show i < L.length by omega]
        have h1 : σ4.cell bL (oL + i * 5 + 1) = some (.string (letter nmN (spAt (n + 1) m i : Int))) := by rw [← hat i hlt, hgi]; exact hci 1 (by decide)
        obtain ⟨z, hz⟩ : ∃ z, z = spAt (n + 1) m i := ⟨_, rfl⟩
        rw [← hz] at h1 hsa ⊢
        have hfi := hf1 (97 + (z : Int))
        (repeat (first | refine RS.seq ?_ | refine RS.region ?_ | refine RS.skip ?_ | refine RS.inBlock ?_ | refine RS.block ?_ | refine RS.exit ?_)); refine RS.drawK [.free, .free, .free, .free, .ex, .free, .free, .free, .ex, .ex, .free, .free] ?_ (by kernel_rfl) (by kernel_rfl); refine D.mvL ?_; refine D.mvI ?_; refine D.idx (i := i) ?_; refine D.fld ?_; refine D.ldS h1 ?_; refine D.mvI ?_; (first | refine D.addN ?_ | refine D.addI ?_); refine D.cvI ?_
        refine D.bldL [.int .u8 _] [.int .u8 _] ?_
        refine D.b2s (c0 := 1) [IntKind.u8.wrap (97 + (z : Int))] 97 ?_ (fun us σ' _ ⟨⟨b, h1, h2⟩, _⟩ => ⟨b, h1, fun j hj => by simp [PH.cell, h2]⟩); refine D.addS ?_; refine D.neS ?_; rw [decide_eq_true (show letter nmN (z : Int) = (⟨#[110]⟩ : ByteArray) ++ List.foldl (fun (r : ByteArray) (n : Int) => r.push (UInt8.ofNat n.toNat)) ByteArray.empty [IntKind.u8.wrap (97 + (z : Int))] from rfl)]; refine D.done (fun us σ1 hle1 hfs => ?_)
        refine RS.ow ?_
        (repeat (first | refine RS.seq ?_ | refine RS.region ?_ | refine RS.regionQ ?_ (by kernel_rfl) (by kernel_rfl) | refine RS.skip ?_ | refine RS.inBlock ?_ | refine RS.block ?_ | refine RS.exit ?_)); refine RS.condF ?_
        refine RS.skip ?_
        (repeat (first | refine RS.seq ?_ | refine RS.region ?_ | refine RS.regionQ ?_ (by kernel_rfl) (by kernel_rfl) | refine RS.skip ?_ | refine RS.inBlock ?_ | refine RS.block ?_ | refine RS.exit ?_)); refine mvI ?_; (first | refine addN ?_ | refine addI ?_); refine asI ?_; refine LS.done ?_; (repeat (first | refine RS.seq ?_ | refine RS.region ?_ | refine RS.regionQ ?_ (by kernel_rfl) (by kernel_rfl) | refine RS.skip ?_ | refine RS.inBlock ?_ | refine RS.block ?_ | refine RS.exit ?_))
        exact ih (i + 1, _) ⟨hlt, PH.le_trans hle4 (by assumption)⟩ (by (try dsimp only); omega) ⟨rfl, trivial⟩ (by repeat (first | with_reducible exact Out.refl _ _ _ | exact Out.hv | refine Out.upd ?_ | refine Out.hvIn ?_)) ⟨fun _ => trivial⟩ rfl
      · refine RS.condF ?_ (h := by simp; omega)
        (repeat (first | refine RS.seq ?_ | refine RS.region ?_ | refine RS.regionQ ?_ (by kernel_rfl) (by kernel_rfl) | refine RS.skip ?_ | refine RS.inBlock ?_ | refine RS.block ?_ | refine RS.exit ?_)); refine asB ?_; refine LS.done ?_; (repeat (first | refine RS.seq ?_ | refine RS.region ?_ | refine RS.regionQ ?_ (by kernel_rfl) (by kernel_rfl) | refine RS.skip ?_ | refine RS.inBlock ?_ | refine RS.block ?_ | refine RS.exit ?_)); refine RS.ret1 (v := .bool _) Tryd.func3 fun w hw => ?_
        exact ⟨rfl, hw.below⟩
end Go.Proofs.YthnoaapghcadgaaDoor
