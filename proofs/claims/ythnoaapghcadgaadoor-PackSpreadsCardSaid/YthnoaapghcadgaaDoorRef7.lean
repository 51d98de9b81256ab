/- Several texts as one; printed by merge.py. -/
import Derived.Test.YthnoaapghcadgaaDoorLaw7
import Derived.Test.YthnoaapghcadgaaDoorSK
import Derived.Test.YthnoaapghcadgaaDoorDAdd
/- Contracts: the document's own sums; a node copied; rows that are the same. -/
namespace Go.Proofs.YthnoaapghcadgaaDoor
open Go.JW Go.RowKit
theorem rright1_c (c m : Int) (w : World) : Calls Tryd.prog 52 #[.agg (List.toArray [.int .i64 c, .int .i64 m])] w fun e w' => e = .returned (.bool (decide (0 ≤ c ∧ 0 ≤ m))) ∧ Below w.heap.size w w' := by
  refine RS.enter Tryd.func52 Tryd.ntmps52 rfl rfl ?_
  (repeat (first | refine RS.seq ?_ | refine RS.region ?_ | refine RS.regionQ ?_ (by kernel_rfl) (by kernel_rfl) | refine RS.skip ?_ | refine RS.inBlock ?_ | refine RS.block ?_ | refine RS.exit ?_)); refine box_ (v := .agg _) (cs := [_, _]) (fun b1 => ?_); refine asB ?_; refine LS.done ?_
  (repeat (first | refine RS.seq ?_ | refine RS.region ?_ | refine RS.regionQ ?_ (by kernel_rfl) (by kernel_rfl) | refine RS.skip ?_ | refine RS.inBlock ?_ | refine RS.block ?_ | refine RS.exit ?_)); refine fld ?_; refine ld1 (v := .int _ _) ?_; refine geI ?_; refine mvB ?_
  refine LS.part 6 (fun g1 => ?_) (fun g1 => ?_)
  · simp only [decide_eq_true_eq] at g1
    refine LS.on ?_; refine fld ?_; refine LS.on ?_; refine ld1 (v := .int _ _) ?_; refine LS.on ?_; refine geI ?_; refine pk (v := .bool _) ?_; refine asB ?_; refine LS.done ?_
    (repeat (first | refine RS.seq ?_ | refine RS.region ?_ | refine RS.regionQ ?_ (by kernel_rfl) (by kernel_rfl) | refine RS.skip ?_ | refine RS.inBlock ?_ | refine RS.block ?_ | refine RS.exit ?_)); refine RS.ret1 (v := .bool _) Tryd.func52 fun w hw => ?_
    exact ⟨retB (decide_eq_decide.2 (by omega)), hw.below⟩
  · simp only [decide_eq_false_iff_not] at g1
    refine LS.off ?_; refine LS.off ?_; refine LS.off ?_; refine pk (v := .bool _) ?_; refine asB ?_; refine LS.done ?_
    (repeat (first | refine RS.seq ?_ | refine RS.region ?_ | refine RS.regionQ ?_ (by kernel_rfl) (by kernel_rfl) | refine RS.skip ?_ | refine RS.inBlock ?_ | refine RS.block ?_ | refine RS.exit ?_)); refine RS.ret1 (v := .bool _) Tryd.func52 fun w hw => ?_
    exact ⟨retB (by symm; exact decide_eq_false (by omega)), hw.below⟩
theorem rfits1_c (c m rc rm : Int) (w : World) : Calls Tryd.prog 48 #[.agg (List.toArray [.int .i64 c, .int .i64 m]), .agg (List.toArray [.int .i64 rc, .int .i64 rm])] w fun e w' => e = .returned (.bool (fitsB c m rc rm)) ∧ Below w.heap.size w w' := by
  refine RS.enter Tryd.func48 Tryd.ntmps48 rfl rfl ?_
  (repeat (first | refine RS.seq ?_ | refine RS.region ?_ | refine RS.regionQ ?_ (by kernel_rfl) (by kernel_rfl) | refine RS.skip ?_ | refine RS.inBlock ?_ | refine RS.block ?_ | refine RS.exit ?_)); refine box_ (v := .agg _) (cs := [_, _]) (fun b2 => ?_); refine box_ (v := .agg _) (cs := [_, _]) (fun b3 => ?_); refine asB ?_; refine LS.done ?_
  (repeat (first | refine RS.seq ?_ | refine RS.region ?_ | refine RS.regionQ ?_ (by kernel_rfl) (by kernel_rfl) | refine RS.skip ?_ | refine RS.inBlock ?_ | refine RS.block ?_ | refine RS.exit ?_)); refine fld ?_; refine ld1 (v := .int _ _) ?_; refine fld ?_; refine ld1 (v := .int _ _) ?_; refine leI ?_; refine mvB ?_
  refine LS.part 10 (fun g1 => ?_) (fun g1 => ?_)
  · simp only [decide_eq_true_eq] at g1
    refine LS.on ?_; refine fld ?_; refine LS.on ?_; refine ld1 (v := .int _ _) ?_; refine LS.on ?_; refine fld ?_; refine LS.on ?_; refine ld1 (v := .int _ _) ?_; refine LS.on ?_; refine leI ?_; refine pk (v := .bool _) ?_; refine asB ?_; refine LS.done ?_
    (repeat (first | refine RS.seq ?_ | refine RS.region ?_ | refine RS.regionQ ?_ (by kernel_rfl) (by kernel_rfl) | refine RS.skip ?_ | refine RS.inBlock ?_ | refine RS.block ?_ | refine RS.exit ?_)); refine RS.ret1 (v := .bool _) Tryd.func48 fun w hw => ?_
    exact ⟨retB (decide_eq_decide.2 (by omega)), hw.below⟩
  · simp only [decide_eq_false_iff_not] at g1
    refine LS.off ?_; refine LS.off ?_; refine LS.off ?_; refine LS.off ?_; refine LS.off ?_; refine pk (v := .bool _) ?_; refine asB ?_; refine LS.done ?_
    (repeat (first | refine RS.seq ?_ | refine RS.region ?_ | refine RS.regionQ ?_ (by kernel_rfl) (by kernel_rfl) | refine RS.skip ?_ | refine RS.inBlock ?_ | refine RS.block ?_ | refine RS.exit ?_)); refine RS.ret1 (v := .bool _) Tryd.func48 fun w hw => ?_
    exact ⟨retB (by symm; exact decide_eq_false (by omega)), hw.below⟩
theorem radd1_c (c m c' m' : Int) (hc : I64 c) (hm : I64 m) (hc' : I64 c') (hm' : I64 m') (w : World) : Calls Tryd.prog 53 #[.agg (List.toArray [.int .i64 c, .int .i64 m]), .agg (List.toArray [.int .i64 c', .int .i64 m'])] w fun e w' =>
    e = .returned (.tuple #[.agg (List.toArray [.int .i64 (addR c m c' m').1.1, .int .i64 (addR c m c' m').1.2]), .int .i64 (addR c m c' m').2]) ∧ Below w.heap.size w w' := by
  refine RS.enter Tryd.func53 Tryd.ntmps53 rfl rfl ?_
  (repeat (first | refine RS.seq ?_ | refine RS.region ?_ | refine RS.regionQ ?_ (by kernel_rfl) (by kernel_rfl) | refine RS.skip ?_ | refine RS.inBlock ?_ | refine RS.block ?_ | refine RS.exit ?_)); refine box_ (v := .agg _) (cs := [_, _]) (fun b2 => ?_); refine box_ (v := .agg _) (cs := [_, _]) (fun b3 => ?_); refine alloc_ (fun b4 => ?_); refine asI ?_; refine LS.done ?_
  (repeat (first | refine RS.seq ?_ | refine RS.region ?_ | refine RS.regionQ ?_ (by kernel_rfl) (by kernel_rfl) | refine RS.skip ?_ | refine RS.inBlock ?_ | refine RS.block ?_ | refine RS.exit ?_))
  refine LS.cut 6 14 [(13, .bool (decide (¬ (0 ≤ c ∧ 0 ≤ m ∧ 0 ≤ c' ∧ 0 ≤ m'))))] (fun gg => ?_) (fun J => ?_)
  rotate_left
  · refine ldA [_, _] ?_
    refine callP ?_ (hc := fun w _ => rright1_c _ _ w)
    refine not_ ?_; refine mvB ?_
    refine LS.part 9 (fun g1 => ?_) (fun g1 => ?_)
    · refine LS.off ?_; refine LS.off ?_; refine LS.off ?_; refine pk (v := .bool _) ?_; refine LS.done ?_
      simp only [Bool.not_eq_true', decide_eq_false_iff_not] at g1
      exact J ⟨boolV (by symm; exact decide_eq_true (fun h => g1 ⟨h.1, h.2.1⟩)), trivial⟩ (by repeat (first | with_reducible exact Out.refl _ _ _ | exact Out.hv | refine Out.upd ?_ | refine Out.hvIn ?_))
    · refine LS.on ?_; refine ldA [_, _] ?_; refine LS.on ?_
      refine callP ?_ (hc := fun w _ => rright1_c _ _ w)
      refine LS.on ?_; refine not_ ?_; refine pk (v := .bool _) ?_; refine LS.done ?_
      simp only [Bool.not_eq_false', decide_eq_true_eq] at g1
      exact J ⟨boolV (by rw [← decide_not]; exact decide_eq_decide.2 (by omega)), trivial⟩ (by repeat (first | with_reducible exact Out.refl _ _ _ | exact Out.hv | refine Out.upd ?_ | refine Out.hvIn ?_))
  (repeat (first | refine RS.seq ?_ | refine RS.region ?_ | refine RS.regionQ ?_ (by kernel_rfl) (by kernel_rfl) | refine RS.skip ?_ | refine RS.inBlock ?_ | refine RS.block ?_ | refine RS.exit ?_))
  refine RS.cond (fun z => ?_) (fun z => ?_)
  · simp only [decide_eq_true_eq] at z
    (repeat (first | refine RS.seq ?_ | refine RS.region ?_ | refine RS.regionQ ?_ (by kernel_rfl) (by kernel_rfl) | refine RS.skip ?_ | refine RS.inBlock ?_ | refine RS.block ?_ | refine RS.exit ?_)); refine bld (vals := []) [_, _] ?_; refine st (.agg _) _ ?_; refine asI ?_; refine LS.done ?_; (repeat (first | refine RS.seq ?_ | refine RS.region ?_ | refine RS.regionQ ?_ (by kernel_rfl) (by kernel_rfl) | refine RS.skip ?_ | refine RS.inBlock ?_ | refine RS.block ?_ | refine RS.exit ?_))
    refine RS.retCT (ty := 30) (v := .int .i64 2) Tryd.func53 [.int .i64 0, .int .i64 0] fun w hw => ?_
    exact ⟨by unfold addR; rw [if_pos z], hw.below⟩
  · simp only [decide_eq_false_iff_not, Classical.not_not] at z
    obtain ⟨z1, z2, z3, z4⟩ := z
    (repeat (first | refine RS.seq ?_ | refine RS.region ?_ | refine RS.regionQ ?_ (by kernel_rfl) (by kernel_rfl) | refine RS.skip ?_ | refine RS.inBlock ?_ | refine RS.block ?_ | refine RS.exit ?_))
    refine LS.cut 15 29 [(28, .bool (decide (9223372036854775807 - c' < c ∨ 9223372036854775807 - m' < m)))] (fun gg => ?_) (fun J => ?_)
    rotate_left
    · refine fld ?_; refine ld1 (v := .int _ _) ?_; refine fld ?_; refine ld1 (v := .int _ _) ?_; (first | refine subN ?_ | refine subI ?_); refine gtI ?_; refine mvB ?_
      refine LS.part 21 (fun g1 => ?_) (fun g1 => ?_)
      · refine LS.off ?_; refine LS.off ?_; refine LS.off ?_; refine LS.off ?_; refine LS.off ?_; refine LS.off ?_; refine pk (v := .bool _) ?_; refine LS.done ?_
        simp only [decide_eq_true_eq] at g1
        exact J ⟨boolV (by symm; exact decide_eq_true (.inl g1)), trivial⟩ (by repeat (first | with_reducible exact Out.refl _ _ _ | exact Out.hv | refine Out.upd ?_ | refine Out.hvIn ?_))
      · simp only [decide_eq_false_iff_not] at g1
        refine LS.on ?_; refine fld ?_; refine LS.on ?_; refine ld1 (v := .int _ _) ?_; refine LS.on ?_; refine fld ?_; refine LS.on ?_; refine ld1 (v := .int _ _) ?_; refine LS.on ?_; (first | refine subN ?_ | refine subI ?_); refine LS.on ?_; refine gtI ?_; refine pk (v := .bool _) ?_; refine LS.done ?_
        exact J ⟨boolV (decide_eq_decide.2 (by omega)), trivial⟩ (by repeat (first | with_reducible exact Out.refl _ _ _ | exact Out.hv | refine Out.upd ?_ | refine Out.hvIn ?_))
    (repeat (first | refine RS.seq ?_ | refine RS.region ?_ | refine RS.regionQ ?_ (by kernel_rfl) (by kernel_rfl) | refine RS.skip ?_ | refine RS.inBlock ?_ | refine RS.block ?_ | refine RS.exit ?_))
    refine RS.cond (fun y => ?_) (fun y => ?_)
    · simp only [decide_eq_true_eq] at y
      (repeat (first | refine RS.seq ?_ | refine RS.region ?_ | refine RS.regionQ ?_ (by kernel_rfl) (by kernel_rfl) | refine RS.skip ?_ | refine RS.inBlock ?_ | refine RS.block ?_ | refine RS.exit ?_)); refine bld (vals := []) [_, _] ?_; refine st (.agg _) _ ?_; refine asI ?_; refine LS.done ?_; (repeat (first | refine RS.seq ?_ | refine RS.region ?_ | refine RS.regionQ ?_ (by kernel_rfl) (by kernel_rfl) | refine RS.skip ?_ | refine RS.inBlock ?_ | refine RS.block ?_ | refine RS.exit ?_))
      refine RS.retCT (ty := 30) (v := .int .i64 6) Tryd.func53 [.int .i64 0, .int .i64 0] fun w hw => ?_
      exact ⟨by unfold addR; rw [if_neg (by omega), if_pos y], hw.below⟩
    · simp only [decide_eq_false_iff_not] at y
      (repeat (first | refine RS.seq ?_ | refine RS.region ?_ | refine RS.regionQ ?_ (by kernel_rfl) (by kernel_rfl) | refine RS.skip ?_ | refine RS.inBlock ?_ | refine RS.block ?_ | refine RS.exit ?_)); refine fld ?_; refine ld1 (v := .int _ _) ?_; refine fld ?_; refine ld1 (v := .int _ _) ?_; (first | refine addN ?_ | refine addI ?_); refine fld ?_; refine ld1 (v := .int _ _) ?_; refine fld ?_; refine ld1 (v := .int _ _) ?_; (first | refine addN ?_ | refine addI ?_); refine bld (vals := [(0, .int _ _), (1, .int _ _)]) [_, _] ?_; refine st (.agg _) _ ?_; refine asI ?_; refine LS.done ?_; (repeat (first | refine RS.seq ?_ | refine RS.region ?_ | refine RS.regionQ ?_ (by kernel_rfl) (by kernel_rfl) | refine RS.skip ?_ | refine RS.inBlock ?_ | refine RS.block ?_ | refine RS.exit ?_))
      refine RS.retCT (ty := 30) (v := .int .i64 0) Tryd.func53 [.int .i64 (c + c'), .int .i64 (m + m')] fun w hw => ?_
      exact ⟨by unfold addR; rw [if_neg (by omega), if_neg y], hw.below⟩
theorem copied_c (n : NodeD) (am at_ : Option Addr) (cm ct : Nat) (w : World) (hr : Rep.rep (hp w) (nodeC n (.slice am n.marks.length cm) (.slice at_ n.taints.length ct)) n) (hb : SmallN n) : Calls Tryd.prog 49 #[.agg (List.toArray (nodeC n (.slice am n.marks.length cm) (.slice at_ n.taints.length ct)))] w fun e w' => ∃ v, e = .returned v ∧ Below w.heap.size w w' ∧ RepA (since w w') v n := by
  obtain ⟨vm, vt, hcs, hn, hc, hm, hm1, ht1⟩ := hr
  simp only [nodeC, List.cons.injEq, true_and, and_true] at hcs
  obtain ⟨rfl, rfl, _⟩ := hcs
  obtain ⟨b1, b2⟩ := hb
  refine RS.enter Tryd.func49 Tryd.ntmps49 rfl rfl ?_
  (repeat (first | refine RS.seq ?_ | refine RS.region ?_ | refine RS.regionQ ?_ (by kernel_rfl) (by kernel_rfl) | refine RS.skip ?_ | refine RS.inBlock ?_ | refine RS.block ?_ | refine RS.exit ?_)); refine box_ (v := .agg _) (cs := [_, _, _, _, _, _]) (fun b1 => ?_); refine alloc_ (fun b2 => ?_); refine LS.done ?_
  (repeat (first | refine RS.seq ?_ | refine RS.region ?_ | refine RS.regionQ ?_ (by kernel_rfl) (by kernel_rfl) | refine RS.skip ?_ | refine RS.inBlock ?_ | refine RS.block ?_ | refine RS.exit ?_)); refine bldS [] [] (fun b3 => ?_); refine LS.zeroD w.heap.size ByteArray 9 (some ⟨b3, 0, none⟩) ?_; refine fld ?_; refine ld1 (v := .slice _ _ _) ?_; refine appD (v := .slice (some ⟨b3, 0, none⟩) 0 0) (l' := n.marks) (vy := .slice am n.marks.length cm) (fun w' hw => (srcD hw TSlice.eq hm1 (PH.le_refl _)).imp fun news h => ⟨h.1, h.2.str⟩) (fun v6 => ?_) (hb := by simp; omega) (hm := by simp; omega); refine LS.formD v6 (fun a6 c6 e6 _ => ?_); subst e6; refine fld ?_; refine st (.slice _ _ _) _ ?_; refine LS.done ?_
  refine RS.freezeD (l := [] ++ n.marks) (.slice a6 ([] ++ n.marks).length c6) (fun σ2 hle2 hr6 => ?_) (hl := by simp; omega)
  (repeat (first | refine RS.seq ?_ | refine RS.region ?_ | refine RS.regionQ ?_ (by kernel_rfl) (by kernel_rfl) | refine RS.skip ?_ | refine RS.inBlock ?_ | refine RS.block ?_ | refine RS.exit ?_)); refine bldS [] [] (fun b8 => ?_); refine LS.zeroD w.heap.size ByteArray 9 (some ⟨b8, 0, none⟩) ?_; refine fld ?_; refine ld1 (v := .slice _ _ _) ?_; refine appD (v := .slice (some ⟨b8, 0, none⟩) 0 0) (l' := n.taints) (vy := .slice at_ n.taints.length ct) (fun w' hw => (srcD hw TSlice.eq (ht1.mono hle2) (PH.le_refl _)).imp fun news h => ⟨h.1, h.2.str⟩) (fun v11 => ?_) (hb := by simp; omega) (hm := by simp; omega); refine LS.formD v11 (fun a11 c11 e11 _ => ?_); subst e11; refine fld ?_; refine st (.slice _ _ _) _ ?_; refine LS.done ?_
  refine RS.freezeD (l := [] ++ n.taints) (.slice a11 ([] ++ n.taints).length c11) (fun σ3 hle3 hr11 => ?_) (hl := by simp; omega)
  (repeat (first | refine RS.seq ?_ | refine RS.region ?_ | refine RS.regionQ ?_ (by kernel_rfl) (by kernel_rfl) | refine RS.skip ?_ | refine RS.inBlock ?_ | refine RS.block ?_ | refine RS.exit ?_)); refine ldA [_, _, _, _, _, _] ?_; refine st (.agg _) _ ?_; refine LS.done ?_
  (repeat (first | refine RS.seq ?_ | refine RS.region ?_ | refine RS.regionQ ?_ (by kernel_rfl) (by kernel_rfl) | refine RS.skip ?_ | refine RS.inBlock ?_ | refine RS.block ?_ | refine RS.exit ?_)); refine RS.retC (ty := 33) Tryd.func49 [_, _, _, _, _, _] fun w hw => ?_
  exact ⟨_, rfl, hw.below, _, rfl, _, _, rfl, hn, hc, hm, (hr6.mono (fromN_up hle3)).mono hw.since_le, hr11.mono hw.since_le⟩
/-! what is the same -/
theorem strRow {σ : PH} {b o : Nat} {l : List ByteArray} (h : RowAt σ b o l) (i : Nat) (hi : i < l.length) : σ.cell b (o + i * 1) = some (.string l[i]) := (h.str i hi).1
theorem placeRow {σ : PH} {b o : Nat} {l : List PlaceD} (h : RowAt σ b o l) (i : Nat) (hi : i < l.length) : ∀ j, j < 5 → σ.cell b (o + i * 5 + j) = (placeC l[i])[j]? := (RowAt.place h i hi).1
theorem eq_vecD (d : Nat) (c m c' m' : Int) (w : World) : (Op.equalIn (d + 2) 30 (.agg (List.toArray [.int .i64 c, .int .i64 m])) (.agg (List.toArray [.int .i64 c', .int .i64 m']))).run Tryd.prog w = .ok (c == c' && m == m') w := by
  have ht : Tryd.prog.underlying 30 = some (.struct (Tryd.prog.fieldsOf 30)) := by kernel_rfl
  have hf : (Tryd.prog.fieldsOf 30).toList = [⟨"Cpu", 3, 0, false, "", "", 0⟩, ⟨"Mem", 3, 1, false, "", "", 8⟩] := by kernel_rfl
  have hi : Tryd.prog.underlying 3 = some (.int .i64) := TInt.eq
  have hag := fun w => run_agg (P := Tryd.prog) (t := 3) w TOne.agg
  rw [run_equalIn_agg w (d + 1) _ _ _ ht (by kernel_rfl), hf]
  simp [Op.eqFields, part, hag, run_equalIn_int _ d 3 .i64 .i64 _ _ hi]
  by_cases h : c = c' <;> by_cases h2 : m = m' <;> simp [h, h2]
theorem eq_place (p : PlaceD) (w : World) : (Op.equalIn 10000 41 (.agg (List.toArray (placeC p))) (.agg (List.toArray (placeC p)))).run Tryd.prog w = .ok true w := by
  have ht : Tryd.prog.underlying 41 = some (.struct (Tryd.prog.fieldsOf 41)) := by kernel_rfl
  have hf : (Tryd.prog.fieldsOf 41).toList = [⟨"Pod", 9, 0, false, "", "", 0⟩, ⟨"Node", 9, 1, false, "", "", 16⟩, ⟨"Need", 30, 2, false, "", "", 32⟩, ⟨"Alone", 4, 4, false, "", "", 48⟩] := by kernel_rfl
  have hs : Tryd.prog.underlying 9 = some .string := TStr.eq
  have hb : Tryd.prog.underlying 4 = some .bool := TBool.eq
  have h1 := fun w => run_agg (P := Tryd.prog) (t := 9) w TOne.agg
  have h2 := fun w => run_agg (P := Tryd.prog) (t := 4) w TOne.agg
  have h3 := fun w => run_agg (P := Tryd.prog) (t := 30) w TAgg.agg
  have h4 := fun w => run_sz (P := Tryd.prog) (t := 30) w TSz.eq
  have h5 := eq_vecD 9997 p.cpu p.mem p.cpu p.mem
  rw [run_equalIn_agg w 9999 _ _ _ ht (by kernel_rfl), hf]
  simp only [beq_self_eq_true, Bool.and_self] at h5
  simp [Op.eqFields, part, h1, h2, h3, h4, placeC, run_equalIn_string _ 9998 9 _ _ hs, run_equalIn_bool' _ 9998 4 _ _ hb, h5]
end Go.Proofs.YthnoaapghcadgaaDoor
/- Contracts: what the document's ledger is asked. -/
namespace Go.Proofs.YthnoaapghcadgaaDoor
open Go.JW Go.RowKit
instance : Rep (Int × List PlaceD) where
  sz := 2
  rep σ cs p := ∃ v, cs = [.int .i64 p.1, v] ∧ I64 p.1 ∧ RepL σ v p.2
  len h := by obtain ⟨_, rfl, _⟩ := h; rfl
  one h := by obtain ⟨_, rfl, _, h⟩ := h; obtain ⟨_, _, rfl⟩ := h.form; rfl
  mono h hs := let ⟨v, h1, h2, h3⟩ := h; ⟨v, h1, h2, h3.mono hs⟩
theorem RowAt.had {σ : PH} {b o : Nat} {l : List (Int × List PlaceD)} (h : RowAt σ b o l) (i : Nat) (hi : i < l.length) : ∃ a c, σ.cell b (o + i * 2 + 0) = some (.int .i64 l[i].1) ∧ σ.cell b (o + i * 2 + 1) = some (.slice a l[i].2.length c) ∧ RepL σ (.slice a l[i].2.length c) l[i].2 ∧ I64 l[i].1 := by
  obtain ⟨vs, hc, v, rfl, h64, hv⟩ := h i hi
  obtain ⟨a, c, rfl⟩ := hv.form
  exact ⟨a, c, hc 0 (by decide), hc 1 (by decide), hv, h64⟩
theorem RowAt.nodeName {σ : PH} {b o : Nat} {l : List NodeD} (h : RowAt σ b o l) (i : Nat) (hi : i < l.length) : σ.cell b (o + i * 6 + 0) = some (.string l[i].name) := by
  obtain ⟨vs, hc, vm, vt, rfl, _⟩ := h i hi
  exact hc 0 (by decide)
def posN (N : List NodeD) (nm : ByteArray) : Option Nat := N.findIdx? fun n => decide (n.name = nm)
def posH (H : List (Int × List PlaceD)) (g : Int) : Option Nat := H.findIdx? fun p => decide (p.1 = g)
def posV (o : Option Nat) : Int := match o with | some i => (i : Int) | none => -1
theorem posV_neg {o : Option Nat} : posV o < 0 ↔ o = none := by
  cases o with
  | none => simp [posV]
  | some i => simp only [posV, reduceCtorEq, iff_false]; omega
theorem asg_pos {H : List (Int × List PlaceD)} {g : Int} : asg H g = (posH H g).bind fun i => (H[i]?).map (·.2) := by
  induction H with
  | nil => rfl
  | cons p H ih =>
    unfold posH at ih ⊢
    rw [List.findIdx?_cons]
    by_cases e : p.1 = g
    · subst e; simp [asg, eqb_self]
    · have : KeyT.eqb g p.1 = false := eqb_ne (fun h => e h.symm)
      simp only [asg, this, cond_false, e, decide_false, Bool.false_eq_true, if_false, ih]
      cases H.findIdx? (fun p => decide (p.1 = g)) <;> simp
theorem rat_c (br : Nat) (vN vH : Value) (l : List NodeD) (nm : ByteArray) (w : World) (hb : w.heap[br]? = some (.cells (List.toArray [vN, vH]) 72 (0, 0))) (hl : RepL (hp w) vN l) :
    Calls Tryd.prog 46 #[.pointer (some ⟨br, 0, none⟩), .string nm] w fun e w' => e = .returned (.int .i64 (posV (posN l nm))) ∧ Below w.heap.size w w' := by
  obtain ⟨a, c, hv⟩ := hl.form
  have hlen : l.length ≤ 140737488355328 := hl.1
  have hcell : (hp w).cell br (0 + 0) = some (.slice a l.length c) := by simp [PH.cell, hp, hb, hv]
  rw [hv] at hl
  refine RS.enter Tryd.func46 Tryd.ntmps46 rfl rfl ?_
  (repeat (first | refine RS.seq ?_ | refine RS.region ?_ | refine RS.regionQ ?_ (by kernel_rfl) (by kernel_rfl) | refine RS.skip ?_ | refine RS.inBlock ?_ | refine RS.block ?_ | refine RS.exit ?_)); refine asI ?_; refine LS.done ?_
  (repeat (first | refine RS.seq ?_ | refine RS.region ?_ | refine RS.regionQ ?_ (by kernel_rfl) (by kernel_rfl) | refine RS.skip ?_ | refine RS.inBlock ?_ | refine RS.block ?_ | refine RS.exit ?_)); refine asI ?_; refine LS.done ?_
  (repeat (first | refine RS.seq ?_ | refine RS.region ?_ | refine RS.regionQ ?_ (by kernel_rfl) (by kernel_rfl) | refine RS.skip ?_ | refine RS.inBlock ?_ | refine RS.block ?_ | refine RS.exit ?_))
  refine RS.loopF (X := Nat) 5 26 (fun x => x ≤ l.length ∧ ∀ j (h : j < l.length), j < x → ¬ l[j].name = nm) (fun x => [(5, .int .i64 x)]) (fun _ => hp w) (fun _ => []) (fun x => l.length - x) 0 ⟨Nat.zero_le _, fun _ _ h => by omega⟩ ⟨rfl, trivial⟩ rfl ⟨fun _ => trivial⟩ ?_
  rintro i g ⟨hi, hne⟩ ih
  (repeat (first | refine RS.seq ?_ | refine RS.region ?_ | refine RS.regionQ ?_ (by kernel_rfl) (by kernel_rfl) | refine RS.skip ?_ | refine RS.inBlock ?_ | refine RS.block ?_ | refine RS.exit ?_)); refine mvI ?_; refine mvP ?_; refine nilck ?_; refine fld ?_; refine ldS hcell ?_; refine lenL ?_; refine ltI ?_; refine LS.done ?_
  (repeat (first | refine RS.seq ?_ | refine RS.region ?_ | refine RS.regionQ ?_ (by kernel_rfl) (by kernel_rfl) | refine RS.skip ?_ | refine RS.inBlock ?_ | refine RS.block ?_ | refine RS.exit ?_))
  by_cases hlt : i < l.length
  · refine RS.condT ?_ (h := by simp; omega)
    obtain ⟨b, o, rfl, hrow⟩ := hl.addr (List.ne_nil_of_length_pos (by omega))
    (repeat (first | refine RS.seq ?_ | refine RS.region ?_ | refine RS.regionQ ?_ (by kernel_rfl) (by kernel_rfl) | refine RS.skip ?_ | refine RS.inBlock ?_ | refine RS.block ?_ | refine RS.exit ?_)); refine mvP ?_; refine nilck ?_; refine fld ?_; refine ldS hcell ?_; refine mvI ?_; refine idx (i := i) ?_; refine fld ?_; refine ldS (RowAt.nodeName hrow i hlt) ?_; refine mvS ?_; refine eqS ?_; refine LS.done ?_
    (repeat (first | refine RS.seq ?_ | refine RS.region ?_ | refine RS.regionQ ?_ (by kernel_rfl) (by kernel_rfl) | refine RS.skip ?_ | refine RS.inBlock ?_ | refine RS.block ?_ | refine RS.exit ?_))
    refine RS.cond (fun z => ?_) (fun z => ?_)
    · simp only [decide_eq_true_eq] at z
      have e : posN l nm = some i := by
        unfold posN
        rw [List.findIdx?_eq_some_iff_getElem]
        exact ⟨hlt, decide_eq_true z, fun j hj => by simpa using hne j (by omega) hj⟩
      (repeat (first | refine RS.seq ?_ | refine RS.region ?_ | refine RS.regionQ ?_ (by kernel_rfl) (by kernel_rfl) | refine RS.skip ?_ | refine RS.inBlock ?_ | refine RS.block ?_ | refine RS.exit ?_)); refine mvI ?_; refine asI ?_; refine LS.done ?_; (repeat (first | refine RS.seq ?_ | refine RS.region ?_ | refine RS.regionQ ?_ (by kernel_rfl) (by kernel_rfl) | refine RS.skip ?_ | refine RS.inBlock ?_ | refine RS.block ?_ | refine RS.exit ?_)); refine RS.ret1 (v := .int _ _) Tryd.func46 fun w hw => ?_
      exact ⟨by rw [e]; rfl, hw.below⟩
    · simp only [decide_eq_false_iff_not] at z
      (repeat (first | refine RS.seq ?_ | refine RS.region ?_ | refine RS.regionQ ?_ (by kernel_rfl) (by kernel_rfl) | refine RS.skip ?_ | refine RS.inBlock ?_ | refine RS.block ?_ | refine RS.exit ?_)); refine mvI ?_; (first | refine addN ?_ | refine addI ?_); refine asI ?_; refine LS.done ?_; (repeat (first | refine RS.seq ?_ | refine RS.region ?_ | refine RS.regionQ ?_ (by kernel_rfl) (by kernel_rfl) | refine RS.skip ?_ | refine RS.inBlock ?_ | refine RS.block ?_ | refine RS.exit ?_))
      refine ih (i + 1) ⟨hlt, fun j hj hji => ?_⟩ (by omega) ⟨rfl, trivial⟩ (by repeat (first | with_reducible exact Out.refl _ _ _ | exact Out.hv | refine Out.upd ?_ | refine Out.hvIn ?_)) ⟨fun h => h⟩ rfl
      by_cases e : j = i
      · subst e; exact z
      · exact hne j hj (by omega)
  · refine RS.condF ?_ (h := by simp; omega)
    have e : posN l nm = none := by
      unfold posN
      rw [List.findIdx?_eq_none_iff]
      intro x hx
      obtain ⟨j, hj, rfl⟩ := List.getElem_of_mem hx
      exact decide_eq_false (hne j hj (by omega))
    (repeat (first | refine RS.seq ?_ | refine RS.region ?_ | refine RS.regionQ ?_ (by kernel_rfl) (by kernel_rfl) | refine RS.skip ?_ | refine RS.inBlock ?_ | refine RS.block ?_ | refine RS.exit ?_)); refine asI ?_; refine LS.done ?_; (repeat (first | refine RS.seq ?_ | refine RS.region ?_ | refine RS.regionQ ?_ (by kernel_rfl) (by kernel_rfl) | refine RS.skip ?_ | refine RS.inBlock ?_ | refine RS.block ?_ | refine RS.exit ?_)); refine RS.ret1 (v := .int _ _) Tryd.func46 fun w hw => ?_
    exact ⟨by rw [e]; rfl, hw.below⟩
theorem rhad_c (br : Nat) (vN vH : Value) (l : List (Int × List PlaceD)) (nm : Int) (w : World) (hb : w.heap[br]? = some (.cells (List.toArray [vN, vH]) 72 (0, 0))) (hl : RepL (hp w) vH l) :
    Calls Tryd.prog 51 #[.pointer (some ⟨br, 0, none⟩), .int .i64 nm] w fun e w' => e = .returned (.int .i64 (posV (posH l nm))) ∧ Below w.heap.size w w' := by
  obtain ⟨a, c, hv⟩ := hl.form
  have hlen : l.length ≤ 140737488355328 := hl.1
  have hcell : (hp w).cell br (0 + 1) = some (.slice a l.length c) := by simp [PH.cell, hp, hb, hv]
  rw [hv] at hl
  refine RS.enter Tryd.func51 Tryd.ntmps51 rfl rfl ?_
  (repeat (first | refine RS.seq ?_ | refine RS.region ?_ | refine RS.regionQ ?_ (by kernel_rfl) (by kernel_rfl) | refine RS.skip ?_ | refine RS.inBlock ?_ | refine RS.block ?_ | refine RS.exit ?_)); refine asI ?_; refine LS.done ?_
  (repeat (first | refine RS.seq ?_ | refine RS.region ?_ | refine RS.regionQ ?_ (by kernel_rfl) (by kernel_rfl) | refine RS.skip ?_ | refine RS.inBlock ?_ | refine RS.block ?_ | refine RS.exit ?_)); refine asI ?_; refine LS.done ?_
  (repeat (first | refine RS.seq ?_ | refine RS.region ?_ | refine RS.regionQ ?_ (by kernel_rfl) (by kernel_rfl) | refine RS.skip ?_ | refine RS.inBlock ?_ | refine RS.block ?_ | refine RS.exit ?_))
  refine RS.loopF (X := Nat) 5 26 (fun x => x ≤ l.length ∧ ∀ j (h : j < l.length), j < x → ¬ l[j].1 = nm) (fun x => [(5, .int .i64 x)]) (fun _ => hp w) (fun _ => []) (fun x => l.length - x) 0 ⟨Nat.zero_le _, fun _ _ h => by omega⟩ ⟨rfl, trivial⟩ rfl ⟨fun _ => trivial⟩ ?_
  rintro i g ⟨hi, hne⟩ ih
  (repeat (first | refine RS.seq ?_ | refine RS.region ?_ | refine RS.regionQ ?_ (by kernel_rfl) (by kernel_rfl) | refine RS.skip ?_ | refine RS.inBlock ?_ | refine RS.block ?_ | refine RS.exit ?_)); refine mvI ?_; refine mvP ?_; refine nilck ?_; refine fld ?_; refine ldS hcell ?_; refine lenL ?_; refine ltI ?_; refine LS.done ?_
  (repeat (first | refine RS.seq ?_ | refine RS.region ?_ | refine RS.regionQ ?_ (by kernel_rfl) (by kernel_rfl) | refine RS.skip ?_ | refine RS.inBlock ?_ | refine RS.block ?_ | refine RS.exit ?_))
  by_cases hlt : i < l.length
  · refine RS.condT ?_ (h := by simp; omega)
    obtain ⟨b, o, rfl, hrow⟩ := hl.addr (List.ne_nil_of_length_pos (by omega))
    (repeat (first | refine RS.seq ?_ | refine RS.region ?_ | refine RS.regionQ ?_ (by kernel_rfl) (by kernel_rfl) | refine RS.skip ?_ | refine RS.inBlock ?_ | refine RS.block ?_ | refine RS.exit ?_)); refine mvP ?_; refine nilck ?_; refine fld ?_; refine ldS hcell ?_; refine mvI ?_; refine idx (i := i) ?_; refine fld ?_; refine ldS (RowAt.had hrow i hlt).choose_spec.choose_spec.1 ?_; refine mvI ?_; refine eqI ?_; refine LS.done ?_
    (repeat (first | refine RS.seq ?_ | refine RS.region ?_ | refine RS.regionQ ?_ (by kernel_rfl) (by kernel_rfl) | refine RS.skip ?_ | refine RS.inBlock ?_ | refine RS.block ?_ | refine RS.exit ?_))
    refine RS.cond (fun z => ?_) (fun z => ?_)
    · simp only [decide_eq_true_eq] at z
      have e : posH l nm = some i := by
        unfold posH
        rw [List.findIdx?_eq_some_iff_getElem]
        exact ⟨hlt, decide_eq_true z, fun j hj => by simpa using hne j (by omega) hj⟩
      (repeat (first | refine RS.seq ?_ | refine RS.region ?_ | refine RS.regionQ ?_ (by kernel_rfl) (by kernel_rfl) | refine RS.skip ?_ | refine RS.inBlock ?_ | refine RS.block ?_ | refine RS.exit ?_)); refine mvI ?_; refine asI ?_; refine LS.done ?_; (repeat (first | refine RS.seq ?_ | refine RS.region ?_ | refine RS.regionQ ?_ (by kernel_rfl) (by kernel_rfl) | refine RS.skip ?_ | refine RS.inBlock ?_ | refine RS.block ?_ | refine RS.exit ?_)); refine RS.ret1 (v := .int _ _) Tryd.func51 fun w hw => ?_
      exact ⟨by rw [e]; rfl, hw.below⟩
    · simp only [decide_eq_false_iff_not] at z
      (repeat (first | refine RS.seq ?_ | refine RS.region ?_ | refine RS.regionQ ?_ (by kernel_rfl) (by kernel_rfl) | refine RS.skip ?_ | refine RS.inBlock ?_ | refine RS.block ?_ | refine RS.exit ?_)); refine mvI ?_; (first | refine addN ?_ | refine addI ?_); refine asI ?_; refine LS.done ?_; (repeat (first | refine RS.seq ?_ | refine RS.region ?_ | refine RS.regionQ ?_ (by kernel_rfl) (by kernel_rfl) | refine RS.skip ?_ | refine RS.inBlock ?_ | refine RS.block ?_ | refine RS.exit ?_))
      refine ih (i + 1) ⟨hlt, fun j hj hji => ?_⟩ (by omega) ⟨rfl, trivial⟩ (by repeat (first | with_reducible exact Out.refl _ _ _ | exact Out.hv | refine Out.upd ?_ | refine Out.hvIn ?_)) ⟨fun h => h⟩ rfl
      by_cases e : j = i
      · subst e; exact z
      · exact hne j hj (by omega)
  · refine RS.condF ?_ (h := by simp; omega)
    have e : posH l nm = none := by
      unfold posH
      rw [List.findIdx?_eq_none_iff]
      intro x hx
      obtain ⟨j, hj, rfl⟩ := List.getElem_of_mem hx
      exact decide_eq_false (hne j hj (by omega))
    (repeat (first | refine RS.seq ?_ | refine RS.region ?_ | refine RS.regionQ ?_ (by kernel_rfl) (by kernel_rfl) | refine RS.skip ?_ | refine RS.inBlock ?_ | refine RS.block ?_ | refine RS.exit ?_)); refine asI ?_; refine LS.done ?_; (repeat (first | refine RS.seq ?_ | refine RS.region ?_ | refine RS.regionQ ?_ (by kernel_rfl) (by kernel_rfl) | refine RS.skip ?_ | refine RS.inBlock ?_ | refine RS.block ?_ | refine RS.exit ?_)); refine RS.ret1 (v := .int _ _) Tryd.func51 fun w hw => ?_
    exact ⟨by rw [e]; rfl, hw.below⟩
/-! sums over a front -/
theorem usedF_succ (f : PlaceD → Int) (H : List (Int × List PlaceD)) (nm : ByteArray) (i : Nat) (hi : i < H.length) : usedF f (H.take (i + 1)) nm = usedF f (H.take i) nm + needF f nm H[i].2 := by
  unfold usedF sumA
  rw [List.take_add_one, List.getElem?_eq_getElem hi, List.map_append, List.sum_append]
  simp
theorem usedF_in {f : PlaceD → Int} {H : List (Int × List PlaceD)} {nm : ByteArray} (h : ∀ g ∈ H, ∀ p ∈ g.2, 0 ≤ f p) : ∀ i, 0 ≤ usedF f (H.take i) nm ∧ usedF f (H.take i) nm ≤ usedF f H nm := by
  have hpos : ∀ L : List (Int × List PlaceD), (∀ g ∈ L, ∀ p ∈ g.2, 0 ≤ f p) → 0 ≤ usedF f L nm := by
    intro L
    induction L with
    | nil => intro _; exact Int.le_refl 0
    | cons a L ih =>
      intro hL
      have h1 := ih fun g hg => hL g (by simp [hg])
      have h2 := needF_pos (nm := nm) (hL a (by simp))
      simp only [usedF, sumA, List.map_cons, List.sum_cons] at h1 ⊢
      omega
  intro i
  have h1 := hpos (H.take i) fun g hg => h g (List.mem_of_mem_take hg)
  have h2 := hpos (H.drop i) fun g hg => h g (List.mem_of_mem_drop hg)
  have h3 : usedF f H nm = usedF f (H.take i) nm + usedF f (H.drop i) nm := by
    conv => lhs; rw [← List.take_append_drop i H]
    unfold usedF sumA
    rw [List.map_append, List.sum_append]
  omega
theorem part_in {f : PlaceD → Int} {H : List (Int × List PlaceD)} {nm : ByteArray} (h : ∀ g ∈ H, ∀ p ∈ g.2, 0 ≤ f p) {i : Nat} (hi : i < H.length) (k : Nat) : 0 ≤ usedF f (H.take i) nm + needF f nm (H[i].2.take k) ∧ usedF f (H.take i) nm + needF f nm (H[i].2.take k) ≤ usedF f H nm := by
  have h1 := usedF_in (nm := nm) h i
  have h2 := usedF_in (nm := nm) h (i + 1)
  rw [usedF_succ f H nm i hi] at h2
  have h3 := needF_in (nm := nm) (h H[i] (List.getElem_mem _)) k
  omega
theorem rused_c (br : Nat) (vN vH : Value) (H : List (Int × List PlaceD)) (nm : ByteArray) (hok : TakenOk H) (w : World) (hb : w.heap[br]? = some (.cells (List.toArray [vN, vH]) 72 (0, 0))) (hl : RepL (hp w) vH H) :
    Calls Tryd.prog 47 #[.pointer (some ⟨br, 0, none⟩), .string nm] w fun e w' => e = .returned (.tuple #[.agg (List.toArray [.int .i64 (usedC H nm), .int .i64 (usedM H nm)]), .int .i64 (usedN H nm)]) ∧ Below w.heap.size w w' := by
  obtain ⟨a, c, hv⟩ := hl.form
  have hlen : H.length ≤ 140737488355328 := hl.1
  have hcell : (hp w).cell br (0 + 1) = some (.slice a H.length c) := by simp [PH.cell, hp, hb, hv]
  rw [hv] at hl
  have hpc : ∀ g ∈ H, ∀ p ∈ g.2, 0 ≤ (fun p : PlaceD => p.cpu) p := fun g hg p hp => (hok.right g hg p hp).1
  have hpm : ∀ g ∈ H, ∀ p ∈ g.2, 0 ≤ (fun p : PlaceD => p.mem) p := fun g hg p hp => (hok.right g hg p hp).2
  have hpn : ∀ g ∈ H, ∀ p ∈ g.2, (0 : Int) ≤ (fun _ => 1) p := fun g hg p hp => by simp
  obtain ⟨mC, mM, mN⟩ := hok.most nm
  rw [usedC_eq] at mC
  rw [usedM_eq] at mM
  rw [usedN_eq] at mN
  refine RS.enter Tryd.func47 Tryd.ntmps47 rfl rfl ?_
  (repeat (first | refine RS.seq ?_ | refine RS.region ?_ | refine RS.regionQ ?_ (by kernel_rfl) (by kernel_rfl) | refine RS.skip ?_ | refine RS.inBlock ?_ | refine RS.block ?_ | refine RS.exit ?_)); refine alloc_ (fun b4 => ?_); refine asI ?_; refine LS.done ?_
  (repeat (first | refine RS.seq ?_ | refine RS.region ?_ | refine RS.regionQ ?_ (by kernel_rfl) (by kernel_rfl) | refine RS.skip ?_ | refine RS.inBlock ?_ | refine RS.block ?_ | refine RS.exit ?_)); refine alloc_ (fun b6 => ?_); refine LS.done ?_
  (repeat (first | refine RS.seq ?_ | refine RS.region ?_ | refine RS.regionQ ?_ (by kernel_rfl) (by kernel_rfl) | refine RS.skip ?_ | refine RS.inBlock ?_ | refine RS.block ?_ | refine RS.exit ?_)); refine asI ?_; refine LS.done ?_
  (repeat (first | refine RS.seq ?_ | refine RS.region ?_ | refine RS.regionQ ?_ (by kernel_rfl) (by kernel_rfl) | refine RS.skip ?_ | refine RS.inBlock ?_ | refine RS.block ?_ | refine RS.exit ?_)); refine asI ?_; refine LS.done ?_
  (repeat (first | refine RS.seq ?_ | refine RS.region ?_ | refine RS.regionQ ?_ (by kernel_rfl) (by kernel_rfl) | refine RS.skip ?_ | refine RS.inBlock ?_ | refine RS.block ?_ | refine RS.exit ?_))
  refine RS.loopF (X := Nat × PH) 7 67 (fun x => x.1 ≤ H.length ∧ PH.le (hp w) x.2) (fun x => [(7, .int .i64 (usedF (fun _ => 1) (H.take x.1) nm)), (8, .int .i64 x.1)]) (fun x => x.2) (fun x => [blk b6 (.cells (List.toArray [.int .i64 (usedF (·.cpu) (H.take x.1) nm), .int .i64 (usedF (·.mem) (H.take x.1) nm)]) 30 (0, 0)), blk b4 (.cells (List.toArray [.int .i64 0, .int .i64 0]) 30 (0, 0))]) (fun x => H.length - x.1) (0, hp w) ⟨Nat.zero_le _, PH.le_refl _⟩ ⟨rfl, rfl, trivial⟩ rfl ⟨fun h => h⟩ ?_
  rintro ⟨i, σ⟩ g1 ⟨(hi : i ≤ H.length), (hle : PH.le (hp w) σ)⟩ ih
  dsimp only
  (repeat (first | refine RS.seq ?_ | refine RS.region ?_ | refine RS.regionQ ?_ (by kernel_rfl) (by kernel_rfl) | refine RS.skip ?_ | refine RS.inBlock ?_ | refine RS.block ?_ | refine RS.exit ?_)); refine mvI ?_; refine mvP ?_; refine nilck ?_; refine fld ?_; refine ldS (PH.cell_mono hle hcell) ?_; refine lenL ?_; refine ltI ?_; refine LS.done ?_
  (repeat (first | refine RS.seq ?_ | refine RS.region ?_ | refine RS.regionQ ?_ (by kernel_rfl) (by kernel_rfl) | refine RS.skip ?_ | refine RS.inBlock ?_ | refine RS.block ?_ | refine RS.exit ?_))
  by_cases hlt : i < H.length
  · refine RS.condT ?_ (h := by simp; omega)
    obtain ⟨b, o, rfl, hrow⟩ := hl.addr (List.ne_nil_of_length_pos (by omega))
    obtain ⟨al, cl, hg0, hg1, hrl, _⟩ := RowAt.had hrow i hlt
    obtain ⟨L, hL⟩ : ∃ L, L = H[i].2 := ⟨_, rfl⟩
    have pC := fun k => part_in (nm := nm) hpc hlt k
    have pM := fun k => part_in (nm := nm) hpm hlt k
    have pN := fun k => part_in (nm := nm) hpn hlt k
    have sC := usedF_succ (·.cpu) H nm i hlt
    have sM := usedF_succ (·.mem) H nm i hlt
    have sN := usedF_succ (fun _ => 1) H nm i hlt
    have hLr : ∀ p ∈ L, RightP p := by rw [hL]; exact hok.right _ (List.getElem_mem _)
    rw [← hL] at hg1 hrl pC pM pN sC sM sN
    have hLl : L.length ≤ 140737488355328 := hrl.1
    (repeat (first | refine RS.seq ?_ | refine RS.region ?_ | refine RS.regionQ ?_ (by kernel_rfl) (by kernel_rfl) | refine RS.skip ?_ | refine RS.inBlock ?_ | refine RS.block ?_ | refine RS.exit ?_)); refine asI ?_; refine LS.done ?_
    (repeat (first | refine RS.seq ?_ | refine RS.region ?_ | refine RS.regionQ ?_ (by kernel_rfl) (by kernel_rfl) | refine RS.skip ?_ | refine RS.inBlock ?_ | refine RS.block ?_ | refine RS.exit ?_))
    refine RS.loopF (X := Nat × PH) 7 67 (fun x => x.1 ≤ L.length ∧ PH.le σ x.2) (fun x => [(7, .int .i64 (usedF (fun _ => 1) (H.take i) nm + needF (fun _ => 1) nm (L.take x.1))), (8, .int .i64 i), (9, .int .i64 x.1)]) (fun x => x.2) (fun x => [blk b6 (.cells (List.toArray [.int .i64 (usedF (·.cpu) (H.take i) nm + needF (·.cpu) nm (L.take x.1)), .int .i64 (usedF (·.mem) (H.take i) nm + needF (·.mem) nm (L.take x.1))]) 30 (0, 0)), blk b4 (.cells (List.toArray [.int .i64 0, .int .i64 0]) 30 (0, 0))]) (fun x => L.length - x.1) (0, σ) ⟨Nat.zero_le _, PH.le_refl _⟩ ⟨by dsimp only; rw [List.take_zero]; exact congrArg (Value.int .i64) (Int.add_zero _).symm, rfl, rfl, trivial⟩ rfl ⟨fun h => by dsimp only; simp only [List.take_zero, show ∀ f, needF f nm [] = 0 from fun _ => rfl, Int.add_zero]; exact h⟩ ?_
    rintro ⟨k, σ2⟩ g2 ⟨(hk : k ≤ L.length), (hle2 : PH.le σ σ2)⟩ ihk
    dsimp only
    have hle02 := PH.le_trans hle hle2
    have hc2 := PH.cell_mono hle02 hcell
    have hg12 := PH.cell_mono hle02 hg1
    (repeat (first | refine RS.seq ?_ | refine RS.region ?_ | refine RS.regionQ ?_ (by kernel_rfl) (by kernel_rfl) | refine RS.skip ?_ | refine RS.inBlock ?_ | refine RS.block ?_ | refine RS.exit ?_)); refine mvI ?_; refine mvP ?_; refine nilck ?_; refine fld ?_; refine ldS hc2 ?_; refine mvI ?_; refine idx (i := i) ?_; refine fld ?_; refine ldS hg12 ?_; refine lenL ?_; refine ltI ?_; refine LS.done ?_
    (repeat (first | refine RS.seq ?_ | refine RS.region ?_ | refine RS.regionQ ?_ (by kernel_rfl) (by kernel_rfl) | refine RS.skip ?_ | refine RS.inBlock ?_ | refine RS.block ?_ | refine RS.exit ?_))
    by_cases hlk : k < L.length
    · refine RS.condT ?_ (h := by simp; omega)
      obtain ⟨bl, ol, rfl, hrowl⟩ := hrl.addr (List.ne_nil_of_length_pos (by omega))
      obtain ⟨hcp, hp64, hpm64⟩ := RowAt.place hrowl k hlk
      obtain ⟨p, hp⟩ : ∃ p, p = L[k] := ⟨_, rfl⟩
      have hpr := hLr L[k] (List.getElem_mem _)
      have nC := needF_succ (·.cpu) nm L k hlk
      have nM := needF_succ (·.mem) nm L k hlk
      have nN := needF_succ (fun _ => 1) nm L k hlk
      rw [← hp] at hcp hp64 hpm64 nC nM nN hpr
      obtain ⟨hpr1, hpr2⟩ := hpr
      have hp1 : σ2.cell bl (ol + k * 5 + 1) = some (.string p.node) := PH.cell_mono hle02 (hcp 1 (by decide))
      have hp2 : ∀ j, j < 2 → σ2.cell bl (ol + k * 5 + 2 + j) = [Value.int .i64 p.cpu, .int .i64 p.mem][j]? := fun j hj => by
        have : j = 0 ∨ j = 1 := by omega
        rcases this with rfl | rfl
        · exact PH.cell_mono hle02 (hcp 2 (by decide))
        · exact PH.cell_mono hle02 (hcp 3 (by decide))
      have r1 := pC k
      have r2 := pC (k + 1)
      have r3 := pM k
      have r4 := pM (k + 1)
      have r5 := pN k
      have r6 := pN (k + 1)
      (repeat (first | refine RS.seq ?_ | refine RS.region ?_ | refine RS.regionQ ?_ (by kernel_rfl) (by kernel_rfl) | refine RS.skip ?_ | refine RS.inBlock ?_ | refine RS.block ?_ | refine RS.exit ?_)); refine mvP ?_; refine nilck ?_; refine fld ?_; refine ldS hc2 ?_; refine mvI ?_; refine idx (i := i) ?_; refine fld ?_; refine ldS hg12 ?_; refine mvI ?_; refine idx (i := k) ?_; refine fld ?_; refine ldS hp1 ?_; refine mvS ?_; refine eqS ?_; refine LS.done ?_
      (repeat (first | refine RS.seq ?_ | refine RS.region ?_ | refine RS.skip ?_ | refine RS.inBlock ?_ | refine RS.block ?_ | refine RS.exit ?_))
      refine RS.cond (fun y => ?_) (fun y => ?_)
      · simp only [decide_eq_true_eq] at y
        rw [if_pos y] at nC nM nN
        rw [nC] at r2
        rw [nM] at r4
        rw [nN] at r6
        have hadd : addR (usedF (·.cpu) (H.take i) nm + needF (·.cpu) nm (L.take k)) (usedF (·.mem) (H.take i) nm + needF (·.mem) nm (L.take k)) p.cpu p.mem = ((usedF (·.cpu) (H.take i) nm + needF (·.cpu) nm (L.take k) + p.cpu, usedF (·.mem) (H.take i) nm + needF (·.mem) nm (L.take k) + p.mem), 0) := by
          unfold addR; rw [if_neg (by omega), if_neg (by omega)]
        (repeat (first | refine RS.seq ?_ | refine RS.region ?_ | refine RS.skip ?_ | refine RS.inBlock ?_ | refine RS.block ?_ | refine RS.exit ?_)); refine RS.draw [.ex, .free, .free, .free, .ex, .free, .free, .free, .ex, .free, .free, .free, .ex, .ex, .free, .free, .free, .st] [blk b6 (.cells (List.toArray [.int .i64 (usedF (·.cpu) (H.take i) nm + needF (·.cpu) nm (L.take k)), .int .i64 (usedF (·.mem) (H.take i) nm + needF (·.mem) nm (L.take k))]) 30 (0, 0))] ?_ (by kernel_rfl) (by kernel_rfl) (by infer_instance); refine D.ldA [_, _] ?_; refine D.mvP ?_; refine D.nilck ?_; refine D.fld ?_; refine D.ldS hc2 ?_; refine D.mvI ?_; refine D.idx (i := i) ?_; refine D.fld ?_; refine D.ldS hg12 ?_; refine D.mvI ?_; refine D.idx (i := k) ?_; refine D.fld ?_; refine D.ldSA (vs := [.int .i64 p.cpu, .int .i64 p.mem]) rfl hp2 ?_
        refine D.callP ?_ (hc := fun _ _ w' _ _ _ => radd1_c _ _ p.cpu p.mem (by omega) (by omega) hp64 hpm64 w')
        rw [hadd]
        refine D.mvT ?_; refine D.extr (v := _) ?_; refine D.extr (v := .int _ _) ?_
        refine D.stB (.agg (List.toArray [.int .i64 (usedF (·.cpu) (H.take i) nm + needF (·.cpu) nm (L.take k) + p.cpu), .int .i64 (usedF (·.mem) (H.take i) nm + needF (·.mem) nm (L.take k) + p.mem)])) [.int .i64 (usedF (·.cpu) (H.take i) nm + needF (·.cpu) nm (L.take k) + p.cpu), .int .i64 (usedF (·.mem) (H.take i) nm + needF (·.mem) nm (L.take k) + p.mem)] ?_ (hr := by simp)
        refine D.done (fun us σ9 hle9 hfs => ?_)
        refine RS.ow ?_
        (repeat (first | refine RS.seq ?_ | refine RS.region ?_ | refine RS.regionQ ?_ (by kernel_rfl) (by kernel_rfl) | refine RS.skip ?_ | refine RS.inBlock ?_ | refine RS.block ?_ | refine RS.exit ?_)); refine mvI ?_; (first | refine addN ?_ | refine addI ?_); refine asI ?_; refine LS.done ?_
        (repeat (first | refine RS.seq ?_ | refine RS.region ?_ | refine RS.regionQ ?_ (by kernel_rfl) (by kernel_rfl) | refine RS.skip ?_ | refine RS.inBlock ?_ | refine RS.block ?_ | refine RS.exit ?_)); refine mvI ?_; (first | refine addN ?_ | refine addI ?_); refine asI ?_; refine LS.done ?_; (repeat (first | refine RS.seq ?_ | refine RS.region ?_ | refine RS.regionQ ?_ (by kernel_rfl) (by kernel_rfl) | refine RS.skip ?_ | refine RS.inBlock ?_ | refine RS.block ?_ | refine RS.exit ?_))
        refine ihk (k + 1, σ9) ⟨hlk, PH.le_trans hle2 hle9⟩ (by (try dsimp only); omega) ⟨by dsimp only; rw [nN, ← Int.add_assoc]; rfl, rfl, rfl, trivial⟩ (by repeat (first | with_reducible exact Out.refl _ _ _ | exact Out.hv | refine Out.upd ?_ | refine Out.hvIn ?_)) ⟨fun h => ?_⟩ rfl
        dsimp only
        rw [nC, nM, ← Int.add_assoc, ← Int.add_assoc]; exact h
      · simp only [decide_eq_false_iff_not] at y
        rw [if_neg y, Int.add_zero] at nC nM nN
        (repeat (first | refine RS.seq ?_ | refine RS.region ?_ | refine RS.regionQ ?_ (by kernel_rfl) (by kernel_rfl) | refine RS.skip ?_ | refine RS.inBlock ?_ | refine RS.block ?_ | refine RS.exit ?_)); refine mvI ?_; (first | refine addN ?_ | refine addI ?_); refine asI ?_; refine LS.done ?_; (repeat (first | refine RS.seq ?_ | refine RS.region ?_ | refine RS.regionQ ?_ (by kernel_rfl) (by kernel_rfl) | refine RS.skip ?_ | refine RS.inBlock ?_ | refine RS.block ?_ | refine RS.exit ?_))
        refine ihk (k + 1, σ2) ⟨hlk, hle2⟩ (by (try dsimp only); omega) ⟨by dsimp only; rw [nN]; rfl, rfl, rfl, trivial⟩ (by repeat (first | with_reducible exact Out.refl _ _ _ | exact Out.hv | refine Out.upd ?_ | refine Out.hvIn ?_)) ⟨fun h => ?_⟩ rfl
        dsimp only
        rw [nC, nM]; exact h
    · refine RS.condF ?_ (h := by simp; omega)
      obtain rfl : k = L.length := by omega
      rw [List.take_length]
      (repeat (first | refine RS.seq ?_ | refine RS.region ?_ | refine RS.regionQ ?_ (by kernel_rfl) (by kernel_rfl) | refine RS.skip ?_ | refine RS.inBlock ?_ | refine RS.block ?_ | refine RS.exit ?_)); refine mvI ?_; (first | refine addN ?_ | refine addI ?_); refine asI ?_; refine LS.done ?_; (repeat (first | refine RS.seq ?_ | refine RS.region ?_ | refine RS.regionQ ?_ (by kernel_rfl) (by kernel_rfl) | refine RS.skip ?_ | refine RS.inBlock ?_ | refine RS.block ?_ | refine RS.exit ?_))
      refine ih (i + 1, σ2) ⟨hlt, hle02⟩ (by (try dsimp only); omega) ⟨by dsimp only; rw [sN]; rfl, rfl, trivial⟩ (by repeat (first | with_reducible exact Out.refl _ _ _ | exact Out.hv | refine Out.upd ?_ | refine Out.hvIn ?_)) ⟨fun h => ?_⟩ rfl
      dsimp only
      rw [sC, sM]; exact h
  · refine RS.condF ?_ (h := by simp; omega)
    obtain rfl : i = H.length := by omega
    rw [List.take_length]
    (repeat (first | refine RS.seq ?_ | refine RS.region ?_ | refine RS.regionQ ?_ (by kernel_rfl) (by kernel_rfl) | refine RS.skip ?_ | refine RS.inBlock ?_ | refine RS.block ?_ | refine RS.exit ?_)); refine ldA [_, _] ?_; refine mvI ?_; refine st (.agg _) _ ?_; refine asI ?_; refine LS.done ?_
    (repeat (first | refine RS.seq ?_ | refine RS.region ?_ | refine RS.regionQ ?_ (by kernel_rfl) (by kernel_rfl) | refine RS.skip ?_ | refine RS.inBlock ?_ | refine RS.block ?_ | refine RS.exit ?_))
    refine RS.retCT (ty := 30) (v := .int .i64 (usedN H nm)) Tryd.func47 [.int .i64 (usedC H nm), .int .i64 (usedM H nm)] fun w hw => ?_
    exact ⟨rfl, hw.below⟩
end Go.Proofs.YthnoaapghcadgaaDoor
/- What becomes of a ledger's nodes in order, of what has been taken (no program in sight). -/
namespace Go.Proofs.YthnoaapghcadgaaDoor
open Go.JW Go.RowKit
theorem byKeys {α : Type} {A B : List (ByteArray × α)} (look : ByteArray → Option α) (h : A.map (·.1) = B.map (·.1)) (hA : ∀ p ∈ A, look p.1 = some p.2) (hB : ∀ j (hj : j < B.length), look B[j].1 = some B[j].2) : A = B := by
  have hl : A.length = B.length := by have := congrArg List.length h; simpa using this
  refine List.ext_getElem hl fun i h1 h2 => ?_
  have e1 : A[i].1 = B[i].1 := by
    have : (A.map (·.1))[i]? = (B.map (·.1))[i]? := by rw [h]
    rw [List.getElem?_map, List.getElem?_map, List.getElem?_eq_getElem h1, List.getElem?_eq_getElem h2] at this
    exact Option.some.inj this
  have e2 := hA A[i] (List.getElem_mem _)
  have e3 := hB i h2
  rw [e1, e3] at e2
  exact Prod.ext e1 (Option.some.inj e2).symm
theorem sortK_nodup {α : Type} {l : List (ByteArray × α)} (h : (l.map (·.1)).Nodup) : ((sortK l).map (·.1)).Nodup := ((sortK_perm l).map _).nodup_iff.2 h
theorem sortK_look {α : Type} {l : List (ByteArray × α)} (h : (l.map (·.1)).Nodup) : ∀ p ∈ sortK l, asg l p.1 = some p.2 := fun p hp => asg_mem h (mem_sortK.1 hp)
theorem key_ne {α : Type} {l : List (ByteArray × α)} (h : (l.map (·.1)).Nodup) {i j : Nat} (hi : i < l.length) (hj : j < l.length) (hij : i ≠ j) : l[i].1 ≠ l[j].1 := by
  have key : ∀ a b (ha : a < l.length) (hb : b < l.length), a < b → l[a].1 ≠ l[b].1 := fun a b ha hb hab => by
    have := List.pairwise_iff_getElem.1 h a b (by simpa using ha) (by simpa using hb) hab
    simpa using this
  rcases Nat.lt_or_ge i j with hlt | hge
  · exact key i j hi hj hlt
  · exact (key j i hj hi (by omega)).symm
theorem nodes_at {S : LedD} (hok : NodesOk S.nodes) (i : Nat) (hi : i < (nodesOf S).length) : ∃ h : i < (sortK S.nodes).length, (nodesOf S)[i].name = (sortK S.nodes)[i].1 ∧ (nodesOf S)[i] = (sortK S.nodes)[i].2 ∧ asg S.nodes (nodesOf S)[i].name = some (nodesOf S)[i] := by
  have h : i < (sortK S.nodes).length := by simpa [nodesOf] using hi
  have e2 : (nodesOf S)[i] = (sortK S.nodes)[i].2 := by simp [nodesOf]
  have e1 : (nodesOf S)[i].name = (sortK S.nodes)[i].1 := by rw [e2]; exact hok.key _ (mem_sortK.1 (List.getElem_mem _))
  refine ⟨h, e1, e2, ?_⟩
  rw [e1, e2]; exact sortK_look hok.nodup _ (List.getElem_mem _)
theorem posN_some {N : List NodeD} {nm : ByteArray} {k : Nat} (h : posN N nm = some k) : ∃ hk : k < N.length, N[k].name = nm := by
  unfold posN at h
  rw [List.findIdx?_eq_some_iff_getElem] at h
  obtain ⟨hk, h1, _⟩ := h
  exact ⟨hk, of_decide_eq_true h1⟩
theorem posN_none {S : LedD} (hok : NodesOk S.nodes) {nm : ByteArray} : posN (nodesOf S) nm = none ↔ asg S.nodes nm = none := by
  unfold posN
  rw [List.findIdx?_eq_none_iff]
  constructor
  · intro h
    refine asg_none.2 fun hm => ?_
    obtain ⟨p, hp, e⟩ := List.mem_map.1 hm
    have := h p.2 (List.mem_map.2 ⟨p, mem_sortK.2 hp, rfl⟩)
    exact of_decide_eq_false this ((hok.key p hp).trans e)
  · intro h x hx
    refine decide_eq_false fun e => ?_
    obtain ⟨p, hp, rfl⟩ := List.mem_map.1 hx
    have h1 := hok.key p (mem_sortK.1 hp)
    have h2 := sortK_look hok.nodup p hp
    rw [← h1, e, h] at h2; cases h2
theorem nodes_same {S : LedD} (hok : NodesOk S.nodes) {n : NodeD} {k : Nat} (hk : posN (nodesOf S) n.name = some k) (t : List (Int × List PlaceD)) : nodesOf ⟨aset S.nodes n.name n, t⟩ = (nodesOf S).set k n := by
  obtain ⟨h1, h2⟩ := posN_some hk
  obtain ⟨h3, h4, h5, h6⟩ := nodes_at hok k h1
  rw [h2] at h4 h6
  have hnd := sortK_nodup hok.nodup
  have : sortK (aset S.nodes n.name n) = (sortK S.nodes).set k (n.name, n) := by
    refine byKeys (asg (aset S.nodes n.name n)) ?_ (fun p hp => asg_mem (aset_nodup hok.nodup) (mem_sortK.1 hp)) (fun j hj => ?_)
    · rw [skeys_same h6, List.map_set]
      apply List.ext_getElem?
      intro i
      by_cases e : i = k
      · subst e; rw [List.getElem?_set_self (by simpa using h3), List.getElem?_map, List.getElem?_eq_getElem h3]; simp [h4]
      · rw [List.getElem?_set_ne (Ne.symm e)]
    · rw [List.length_set] at hj
      by_cases e : j = k
      · subst e; simp only [List.getElem_set_self]; exact asg_aset_same _ _ _
      · rw [List.getElem_set_ne (Ne.symm e)]
        have hne : (sortK S.nodes)[j].1 ≠ n.name := by rw [h4]; exact key_ne hnd hj h3 e
        rw [asg_aset_ne _ _ hne]; exact sortK_look hok.nodup _ (List.getElem_mem _)
  show (sortK (aset S.nodes n.name n)).map (·.2) = _
  rw [this, List.map_set]; rfl
theorem nodes_ins {S : LedD} (hok : NodesOk S.nodes) {n : NodeD} (hn : asg S.nodes n.name = none) {k : Nat} (hk : k ≤ (nodesOf S).length) (h1 : ∀ j (h : j < (nodesOf S).length), j < k → sLt (nodesOf S)[j].name n.name = true) (h2 : ∀ h : k < (nodesOf S).length, sLt (nodesOf S)[k].name n.name = false) (t : List (Int × List PlaceD)) :
    nodesOf ⟨aset S.nodes n.name n, t⟩ = (nodesOf S).take k ++ [n] ++ (nodesOf S).drop k := by
  have hlen : (nodesOf S).length = (sortK S.nodes).length := by simp [nodesOf]
  have hs := skeys_sorted S.nodes
  have hkey : ∀ j (h : j < (sortK S.nodes).length), ((nodesOf S)[j]'(by rw [hlen]; exact h)).name = (sortK S.nodes)[j].1 := fun j h => (nodes_at hok j (by rw [hlen]; exact h)).2.1
  have : sortK (aset S.nodes n.name n) = (sortK S.nodes).take k ++ [(n.name, n)] ++ (sortK S.nodes).drop k := by
    refine byKeys (asg (aset S.nodes n.name n)) ?_ (fun p hp => asg_mem (aset_nodup hok.nodup) (mem_sortK.1 hp)) (fun j hj => ?_)
    · rw [skeys_ins hn (at_ := k) (fun y hy => ?_) (fun y hy => ?_)]
      · simp [List.map_take, List.map_drop]
      · obtain ⟨j, hj, rfl⟩ := List.getElem_of_mem hy
        simp only [List.length_take, List.length_map] at hj
        rw [List.getElem_take, List.getElem_map, ← hkey j (by omega)]
        exact sLt_le (h1 j (by omega) (by omega))
      · obtain ⟨j, hj, rfl⟩ := List.getElem_of_mem hy
        simp only [List.length_drop, List.length_map] at hj
        have hk' : k < (nodesOf S).length := by omega
        have h3 := h2 hk'
        rw [hkey k (by omega)] at h3
        rw [List.getElem_drop]
        by_cases e : j = 0
        · subst e; simpa using h3
        · have := List.pairwise_iff_getElem.1 hs k (k + j) (by rw [List.length_map]; omega) (by rw [List.length_map]; omega) (by omega)
          rw [List.getElem_map, List.getElem_map] at this
          rw [List.getElem_map]
          exact sLe_trans h3 this
    · have hmem := List.getElem_mem hj
      rcases List.mem_append.1 hmem with hm | hm
      · rcases List.mem_append.1 hm with hm | hm
        · have hp := List.mem_of_mem_take hm
          have hl := sortK_look hok.nodup _ hp
          rw [asg_aset_ne _ _ (fun e => by rw [e, hn] at hl; cases hl)]; exact hl
        · rw [List.mem_singleton.1 hm]; exact asg_aset_same _ _ _
      · have hp := List.mem_of_mem_drop hm
        have hl := sortK_look hok.nodup _ hp
        rw [asg_aset_ne _ _ (fun e => by rw [e, hn] at hl; cases hl)]; exact hl
  show (sortK (aset S.nodes n.name n)).map (·.2) = _
  rw [this]
  simp [nodesOf, List.map_take, List.map_drop]
theorem perm_adel {α : Type} {l : List (ByteArray × α)} {k : ByteArray} {x : α} (h : asg l k = some x) : l.Perm ((k, x) :: adel l k) := by
  induction l with
  | nil => cases h
  | cons p l ih =>
    simp only [asg] at h
    rcases Bool.eq_false_or_eq_true (KeyT.eqb k p.1) with e | e
    · rw [e] at h; injection h with h
      have := (KeyT.eqb_iff _ _).1 e
      subst this; subst h
      simp only [adel, e, cond_true]; exact List.Perm.refl _
    · rw [e] at h
      simp only [adel, e, cond_false]
      exact ((ih h).cons p).trans (List.Perm.swap _ _ _)
theorem nodes_gone {S : LedD} (hok : NodesOk S.nodes) {nm : ByteArray} {k : Nat} (hk : posN (nodesOf S) nm = some k) (t : List (Int × List PlaceD)) : nodesOf ⟨adel S.nodes nm, t⟩ = (nodesOf S).take k ++ (nodesOf S).drop (k + 1) := by
  obtain ⟨h1, h2⟩ := posN_some hk
  obtain ⟨h3, h4, h5, h6⟩ := nodes_at hok k h1
  rw [h2] at h4 h6
  have hnd := sortK_nodup hok.nodup
  have hsplit : sortK S.nodes = (sortK S.nodes).take k ++ (sortK S.nodes)[k] :: (sortK S.nodes).drop (k + 1) := by rw [← List.drop_eq_getElem_cons h3, List.take_append_drop]
  have he : (sortK S.nodes)[k] = (nm, (nodesOf S)[k]) := Prod.ext h4.symm h5.symm
  have hperm : ((sortK S.nodes).take k ++ (sortK S.nodes).drop (k + 1)).Perm (adel S.nodes nm) := by
    have a1 := (sortK_perm S.nodes).trans (perm_adel h6)
    have a2 : (sortK S.nodes).Perm ((nm, (nodesOf S)[k]) :: ((sortK S.nodes).take k ++ (sortK S.nodes).drop (k + 1))) := by
      conv => lhs; rw [hsplit, he]
      exact List.perm_middle
    exact (a2.symm.trans a1).cons_inv
  have hsub : ((sortK S.nodes).take k ++ (sortK S.nodes).drop (k + 1)).Sublist (sortK S.nodes) := by
    conv => rhs; rw [hsplit]
    exact (List.Sublist.refl _).append (List.sublist_cons_self _ _)
  have : sortK (adel S.nodes nm) = (sortK S.nodes).take k ++ (sortK S.nodes).drop (k + 1) := by
    refine byKeys (asg (adel S.nodes nm)) ?_ (fun p hp => asg_mem (adel_nodup hok.nodup) (mem_sortK.1 hp)) (fun j hj => ?_)
    · refine skeys_unique ?_ (hperm.map _)
      exact List.Pairwise.sublist (hsub.map _) (skeys_sorted S.nodes)
    · exact asg_mem (adel_nodup hok.nodup) (hperm.mem_iff.1 (List.getElem_mem _))
  show (sortK (adel S.nodes nm)).map (·.2) = _
  rw [this]
  simp [nodesOf, List.map_take, List.map_drop]
theorem posH_some {H : List (Int × List PlaceD)} {g : Int} {k : Nat} (h : posH H g = some k) : ∃ hk : k < H.length, H[k].1 = g ∧ asg H g = some H[k].2 ∧ adel H g = H.take k ++ H.drop (k + 1) := by
  induction H generalizing k with
  | nil => cases h
  | cons p H ih =>
    unfold posH at h ih
    rw [List.findIdx?_cons] at h
    by_cases e : p.1 = g
    · subst e
      simp only [decide_true, if_true, Option.some.injEq] at h
      subst h
      exact ⟨by simp, rfl, by simp [asg, eqb_self], by simp [adel, eqb_self]⟩
    · have hb : KeyT.eqb g p.1 = false := eqb_ne (fun h => e h.symm)
      simp only [e, decide_false, Bool.false_eq_true, if_false, Option.map_eq_some_iff] at h
      obtain ⟨j, hj, rfl⟩ := h
      obtain ⟨h1, h2, h3, h4⟩ := ih hj
      exact ⟨by simp; omega, by simpa using h2, by simp [asg, hb, h3], by simp [adel, hb, h4]⟩
theorem posH_none {H : List (Int × List PlaceD)} {g : Int} (h : posH H g = none) : asg H g = none := by
  rw [asg_pos, h]; rfl
theorem aset_end {H : List (Int × List PlaceD)} {g : Int} {ps : List PlaceD} (h : asg H g = none) : aset H g ps = H ++ [(g, ps)] := by
  induction H with
  | nil => rfl
  | cons p H ih =>
    simp only [asg] at h
    cases e : KeyT.eqb g p.1 with
    | true => rw [e] at h; cases h
    | false => rw [e] at h; simp [aset, e, ih h]
theorem tk_zero {S : LedD} {k : Nat} (hi : LedInv S k) (g : Int) : (tk S.taken g).length = 0 ↔ posH S.taken g = none := by
  constructor
  · intro h
    cases e : posH S.taken g with
    | none => rfl
    | some j =>
      obtain ⟨hj, _, h3, _⟩ := posH_some e
      have h4 := hi.some_ _ (List.getElem_mem hj)
      unfold tk at h
      rw [h3] at h
      exact absurd (List.eq_nil_of_length_eq_zero h) h4
  · intro h
    unfold tk; rw [posH_none h]; rfl
end Go.Proofs.YthnoaapghcadgaaDoor
/- Contracts: the document's ledger answers what a ledger does, and has what it has. -/
namespace Go.Proofs.YthnoaapghcadgaaDoor
open Go.JW Go.RowKit
/-- The document's ledger, that has what S has. -/
def refHP (br : Nat) (S : LedD) : HP :=
  ⟨fun g F => ∃ vN vH, SepIn g [blk br (.cells (List.toArray [vN, vH]) 72 (0, 0)), rowD 0 33 vN (nodesOf S), rowD 0 108 vH S.taken] F,
   fun ⟨vN, vH, h⟩ hg hi => ⟨vN, vH, h.loc hg hi⟩⟩
abbrev RK (br : Nat) (vN vH : Value) (N : List NodeD) (H : List (Int × List PlaceD)) : List HP := [blk br (.cells (List.toArray [vN, vH]) 72 (0, 0)), rowD 0 33 vN N, rowD 0 108 vH H]
section
variable {w0 w : World} {M : Nat → Prop} {σ : PH} {K K' : List HP} {br : Nat} {S : LedD} {vN vH : Value} {N : List NodeD} {H : List (Int × List PlaceD)}
theorem openRef (hw : Sat w0 M σ (refHP br S :: K) w) : ∃ vN vH, Sat w0 M σ (RK br vN vH (nodesOf S) S.taken ++ K) w := by
  obtain ⟨F1, ⟨vN, vH, h3⟩, h4, h5⟩ := hw.sep
  exact ⟨vN, vH, hw.os, hw.tape, hw.output, hw.size, hw.keep, hw.imm, SepIn.append (A := RK br vN vH (nodesOf S) S.taken) ⟨F1, h3, h4, h5⟩⟩
theorem closeRef (hN : N = nodesOf S) (hH : H = S.taken) (hw : Sat w0 M σ (RK br vN vH N H ++ K) w) : Sat w0 M σ (refHP br S :: K) w := by
  subst hN; subst hH
  obtain ⟨F1, h3, h4, h5⟩ := SepIn.group (A := RK br vN vH (nodesOf S) S.taken) hw.sep
  exact ⟨hw.os, hw.tape, hw.output, hw.size, hw.keep, hw.imm, F1, ⟨vN, vH, h3⟩, h4, h5⟩
theorem RK.facts (hw : Sat w0 M σ (RK br vN vH N H ++ K) w) (hN : N.length ≤ 1000) (hH : H.length ≤ 1000000) : w.heap[br]? = some (.cells (List.toArray [vN, vH]) 72 (0, 0)) ∧ RepL (hp w) vN N ∧ RepL (hp w) vH H := by
  have hw : Sat w0 M σ (blk br (.cells (List.toArray [vN, vH]) 72 (0, 0)) :: rowD 0 33 vN N :: rowD 0 108 vH H :: K) w := hw
  exact ⟨hw.get (b := br), hw.rowRepD (v := vN) (by omega) (FindD.tail (i := FindD.head)), hw.rowRepD (v := vH) (by omega) (FindD.tail (i := FindD.tail (i := FindD.head)))⟩
end
end Go.Proofs.YthnoaapghcadgaaDoor
/- Contracts: what the document's ledger is told. -/
namespace Go.Proofs.YthnoaapghcadgaaDoor
open Go.JW Go.RowKit
section
variable {w0 w : World} {M : Nat → Prop} {σ : PH} {K : List HP} {br : Nat} {S : LedD}
theorem LedInv.nodes_len {k : Nat} (hi : LedInv S k) : (nodesOf S).length ≤ 8 := by rw [nodesOf, List.length_map, sortK_len]; exact hi.nodes.few
theorem LedInv.nodes_small {k : Nat} (hi : LedInv S k) : ∀ n ∈ nodesOf S, nodeErr n = 0 := fun n hn => by
  obtain ⟨p, hp, rfl⟩ := List.mem_map.1 hn
  exact hi.nodes.fine p (mem_sortK.1 hp)
theorem rput_c (n : NodeD) (am at_ : Option Addr) (cm ct : Nat) (hr : ArgAt σ K (nodeC n (.slice am n.marks.length cm) (.slice at_ n.taints.length ct)) n) {kk : Nat} (hi : LedInv S kk) (hkk : kk ≤ 1000000) (hl : S.taken.length ≤ 1000) (hw : Sat w0 M σ (refHP br S :: K) w) :
    Calls Tryd.prog 25 #[.pointer (some ⟨br, 0, none⟩), .agg (List.toArray (nodeC n (.slice am n.marks.length cm) (.slice at_ n.taints.length ct)))] w fun e w' => e = .returned (.int .i64 (putE S n)) ∧ ∃ σ', PH.le σ σ' ∧ Sat w0 M σ' (refHP br ⟨putN S n, S.taken⟩ :: K) w' := by
  obtain ⟨vN, vH, hw⟩ := openRef hw
  have hN8 := hi.nodes_len
  refine RS.enterK Tryd.func25 Tryd.ntmps25 rfl rfl hw ?_
  refine RS.to (K' := blk br (.cells (List.toArray [vN, vH]) 72 (0, 0)) :: rowD 0 33 vN (nodesOf S) :: rowD 0 108 vH S.taken :: K) ?_ ⟨fun h => h⟩
  (repeat (first | refine RS.seq ?_ | refine RS.region ?_ | refine RS.regionQ ?_ (by kernel_rfl) (by kernel_rfl) | refine RS.skip ?_ | refine RS.inBlock ?_ | refine RS.block ?_ | refine RS.exit ?_)); refine box_ (v := .agg _) (cs := [_, _, _, _, _, _]) (fun b3 => ?_); refine asI ?_; refine LS.done ?_
  (repeat (first | refine RS.seq ?_ | refine RS.region ?_ | refine RS.regionQ ?_ (by kernel_rfl) (by kernel_rfl) | refine RS.skip ?_ | refine RS.inBlock ?_ | refine RS.block ?_ | refine RS.exit ?_)); refine ldA [_, _, _, _, _, _] ?_
  refine callP ?_ (hc := fun w' hw => rnode_c _ n w' (hr w' _ (PH.le_refl _) hw.imm ⟨_, hw.sep.tail.tail.tail.tail⟩))
  refine asI ?_; refine LS.done ?_
  (repeat (first | refine RS.seq ?_ | refine RS.region ?_ | refine RS.regionQ ?_ (by kernel_rfl) (by kernel_rfl) | refine RS.skip ?_ | refine RS.inBlock ?_ | refine RS.block ?_ | refine RS.exit ?_)); refine mvI ?_; refine neI ?_; refine LS.done ?_
  (repeat (first | refine RS.seq ?_ | refine RS.region ?_ | refine RS.skip ?_ | refine RS.inBlock ?_ | refine RS.block ?_ | refine RS.exit ?_))
  refine RS.cond (fun z => ?_) (fun z => ?_)
  · have z' : nodeErr n ≠ 0 := by simpa using z
    have e : putE S n = nodeErr n := by rw [putE, if_pos z']
    (repeat (first | refine RS.seq ?_ | refine RS.region ?_ | refine RS.regionQ ?_ (by kernel_rfl) (by kernel_rfl) | refine RS.skip ?_ | refine RS.inBlock ?_ | refine RS.block ?_ | refine RS.exit ?_)); refine mvI ?_; refine asI ?_; refine LS.done ?_; (repeat (first | refine RS.seq ?_ | refine RS.region ?_ | refine RS.regionQ ?_ (by kernel_rfl) (by kernel_rfl) | refine RS.skip ?_ | refine RS.inBlock ?_ | refine RS.block ?_ | refine RS.exit ?_)); refine RS.ret1 (v := .int _ _) Tryd.func25 fun w hw => ?_
    exact ⟨by rw [e], σ, PH.le_refl _, closeRef (by rw [putN, if_neg (by rw [e]; exact z')]) rfl (hw.weak fun F h => h.tail)⟩
  have z' : nodeErr n = 0 := by simpa using z
  have hcap := fine_cap z'
  refine RS.skip ?_
  refine RS.to (K' := blk br (.cells (List.toArray [vN, vH]) 72 (0, 0)) :: rowD 0 33 vN (nodesOf S) :: rowD 0 108 vH S.taken :: blk b3 (.cells (List.toArray (nodeC n (.slice am n.marks.length cm) (.slice at_ n.taints.length ct))) 33 (0, 0)) :: K) ?_ ⟨fun h => SepIn.perm (List.perm_append_comm_assoc [blk b3 _] (RK br vN vH (nodesOf S) S.taken) K) h⟩
  (repeat (first | refine RS.seq ?_ | refine RS.region ?_ | refine RS.regionQ ?_ (by kernel_rfl) (by kernel_rfl) | refine RS.skip ?_ | refine RS.inBlock ?_ | refine RS.block ?_ | refine RS.exit ?_)); refine mvP ?_; refine fld ?_; refine ld1 (v := .string _) ?_
  refine callS ?_ (fun w' hw => by obtain ⟨f1, f2, _⟩ := RK.facts hw (by omega) (by omega); exact (rat_c br vN vH (nodesOf S) n.name w' f1 f2).mono fun _ _ ⟨he, hbl⟩ => ⟨he, hw.ext hbl⟩)
  refine asI ?_; refine LS.done ?_
  (repeat (first | refine RS.seq ?_ | refine RS.region ?_ | refine RS.regionQ ?_ (by kernel_rfl) (by kernel_rfl) | refine RS.skip ?_ | refine RS.inBlock ?_ | refine RS.block ?_ | refine RS.exit ?_)); refine mvI ?_; refine geI ?_; refine LS.done ?_
  (repeat (first | refine RS.seq ?_ | refine RS.region ?_ | refine RS.skip ?_ | refine RS.inBlock ?_ | refine RS.block ?_ | refine RS.exit ?_))
  cases hk : posN (nodesOf S) n.name with
  | some k =>
    obtain ⟨h1, h2⟩ := posN_some hk
    have hz : (asg S.nodes n.name).isSome = true := by
      cases e : asg S.nodes n.name with
      | none => rw [(posN_none hi.nodes).2 e] at hk; cases hk
      | some _ => rfl
    have hE := putE_fits z' hz
    rw [show posV (some k) = (k : Int) from rfl]
    refine RS.condT ?_ (h := decide_eq_true (by omega))
    (repeat (first | refine RS.seq ?_ | refine RS.region ?_ | refine RS.regionQ ?_ (by kernel_rfl) (by kernel_rfl) | refine RS.skip ?_ | refine RS.inBlock ?_ | refine RS.block ?_ | refine RS.exit ?_)); refine mvP ?_; refine fld ?_; refine ld1 (v := .string _) ?_
    refine callS ?_ (fun w' hw => by obtain ⟨f1, _, f3⟩ := RK.facts hw (by omega) (by omega); exact (rused_c br vN vH S.taken n.name (hi.takenOk hkk) w' f1 f3).mono fun _ _ ⟨he, hbl⟩ => ⟨he, hw.ext hbl⟩)
    refine mvT ?_; refine extr (v := _) ?_; refine extr (v := .int _ _) ?_; refine alloc_ (fun b7 => ?_); refine st (.agg _) _ ?_; refine asI ?_; refine LS.done ?_
    (repeat (first | refine RS.seq ?_ | refine RS.region ?_ | refine RS.regionQ ?_ (by kernel_rfl) (by kernel_rfl) | refine RS.skip ?_ | refine RS.inBlock ?_ | refine RS.block ?_ | refine RS.exit ?_)); refine ldA [_, _] ?_; refine fld ?_; refine ldA [_, _] ?_
    refine callP ?_ (hc := fun w _ => rfits1_c _ _ _ _ w)
    refine not_ ?_; refine LS.done ?_
    (repeat (first | refine RS.seq ?_ | refine RS.region ?_ | refine RS.skip ?_ | refine RS.inBlock ?_ | refine RS.block ?_ | refine RS.exit ?_))
    refine RS.cond (fun y => ?_) (fun y => ?_)
    · have y' : fitsB (usedC S.taken n.name) (usedM S.taken n.name) n.cpu n.mem = false := by simpa using y
      rw [y', if_neg (by simp)] at hE
      (repeat (first | refine RS.seq ?_ | refine RS.region ?_ | refine RS.regionQ ?_ (by kernel_rfl) (by kernel_rfl) | refine RS.skip ?_ | refine RS.inBlock ?_ | refine RS.block ?_ | refine RS.exit ?_)); refine asI ?_; refine LS.done ?_; (repeat (first | refine RS.seq ?_ | refine RS.region ?_ | refine RS.regionQ ?_ (by kernel_rfl) (by kernel_rfl) | refine RS.skip ?_ | refine RS.inBlock ?_ | refine RS.block ?_ | refine RS.exit ?_)); refine RS.ret1 (v := .int _ _) Tryd.func25 fun w hw => ?_
      exact ⟨by rw [hE], σ, PH.le_refl _, closeRef (by rw [putN, if_neg (by rw [hE]; decide)]) rfl ((hw.weak fun F h => h.tail).weak fun F h => SepIn.tail (SepIn.perm (List.perm_append_comm_assoc (RK br vN vH (nodesOf S) S.taken) [blk b3 _] K) h))⟩
    · have y' : fitsB (usedC S.taken n.name) (usedM S.taken n.name) n.cpu n.mem = true := by simpa using y
      rw [y', if_pos rfl] at hE
      refine RS.skip ?_
      refine RS.openRowD (l := nodesOf S) vN (fun bN c0 cap eN hcR hcM hlR htR => ?_)
      subst eN
      have hlR : cap * 6 ≤ c0.length := hlR
      have hle : (nodesOf S).length * 6 ≤ c0.length := by omega
      (repeat (first | refine RS.seq ?_ | refine RS.region ?_ | refine RS.skip ?_ | refine RS.inBlock ?_ | refine RS.block ?_ | refine RS.exit ?_)); refine RS.drawK [.free, .free, .free, .ex, .free, .ex, .ex, .free, .st] ?_ (by kernel_rfl) (by kernel_rfl); refine D.mvP ?_; refine D.nilck ?_; refine D.fld ?_; refine D.ld1 (v := .slice _ _ _) ?_; refine D.mvI ?_; refine D.ldA [_, _, _, _, _, _] ?_
      refine D.callN (fun v τ => RepA τ v n) ?_ (hc := fun _ _ w' hle _ hw => copied_c n _ _ _ _ w' (hr w' _ hle hw.imm ⟨_, hw.sep.tail.tail.tail.tail.tail⟩) (fine_small z'))
      refine D.idx (i := k) ?_
      refine D.stA 38 (b := bN) (off := 0 + k * 6) (cs := c0) (sz := 6) ?_ (fun us σ9 _ hf => ?_) (by omega)
      · refine D.done (fun us σ2 hle2 hfs => ?_)
        obtain ⟨⟨τ, hq, hτ, _⟩, _⟩ := hfs
        refine RS.ow ?_
        have hlen : (cellsL (us 38)).length = 6 := Rep.len hq.cv
        refine RS.closeRowD 0 ((nodesOf S).set k n) (b := bN) (c0 := setAt c0 (0 + k * 6) (cellsL (us 38))) (m := (nodesOf S).length) (s := 6) hcR hcM (by rw [setAt_len]; exact hlR) ?_ ?_ (hml := by simp)
        · have hmul : k * 6 + 6 ≤ (nodesOf S).length * 6 := by omega
          rw [take_setAt _ _ _ _ (by omega) hle, Nat.zero_add]
          exact (htR.mono (fromN_up hle2)).write k h1 0 (cellsL (us 38)) (by show 0 + _ ≤ 6; omega) n (fun c hc => by
            have h6 : c.length = 6 := Rep.len hc
            have e := setAt_mid [] c [] (cellsL (us 38)) (by omega)
            simp only [List.nil_append, List.append_nil, List.length_nil] at e
            rw [e]
            rw [fromN_zero]; exact Rep.mono hq.cv hτ)
        · (repeat (first | refine RS.seq ?_ | refine RS.region ?_ | refine RS.regionQ ?_ (by kernel_rfl) (by kernel_rfl) | refine RS.skip ?_ | refine RS.inBlock ?_ | refine RS.block ?_ | refine RS.exit ?_)); refine asI ?_; refine LS.done ?_; (repeat (first | refine RS.seq ?_ | refine RS.region ?_ | refine RS.regionQ ?_ (by kernel_rfl) (by kernel_rfl) | refine RS.skip ?_ | refine RS.inBlock ?_ | refine RS.block ?_ | refine RS.exit ?_)); refine RS.ret1 (v := .int _ _) Tryd.func25 fun w hw => ?_
          refine ⟨by rw [hE], σ2, hle2, closeRef (vN := .slice (some ⟨bN, 0, none⟩) (nodesOf S).length cap) (vH := vH) (N := (nodesOf S).set k n) (H := S.taken) ?_ rfl (hw.weak fun F h => (SepIn.cons_sub (fun _ h => SepIn.cons_sub (fun _ h => SepIn.cons_sub (fun _ h => h.tail) h) h.tail) h).swap)⟩
          rw [putN, if_pos hE, nodes_same hi.nodes hk]
      · obtain ⟨τ, hq, hτ, _⟩ : ∃ τ, RepA τ (us 38) n ∧ PH.le τ σ9 ∧ New w0 τ := hf.1
        exact ⟨Rep.len hq.cv, Rep.one hq.cv⟩
  | none =>
    have hz := (posN_none hi.nodes).1 hk
    have hlenN : (nodesOf S).length = S.nodes.length := by rw [nodesOf, List.length_map, sortK_len]
    rw [show posV none = -1 from rfl]
    refine RS.condF ?_
    refine RS.skip ?_
    refine RS.formD (l := nodesOf S) vN (fun aN cN eN _ => ?_); subst eN
    (repeat (first | refine RS.seq ?_ | refine RS.region ?_ | refine RS.regionQ ?_ (by kernel_rfl) (by kernel_rfl) | refine RS.skip ?_ | refine RS.inBlock ?_ | refine RS.block ?_ | refine RS.exit ?_)); refine mvP ?_; refine nilck ?_; refine fld ?_; refine ld1 (v := .slice _ _ _) ?_; refine lenL ?_; refine geI ?_; refine LS.done ?_
    (repeat (first | refine RS.seq ?_ | refine RS.region ?_ | refine RS.skip ?_ | refine RS.inBlock ?_ | refine RS.block ?_ | refine RS.exit ?_))
    refine RS.cond (fun y => ?_) (fun y => ?_)
    · simp only [decide_eq_true_eq] at y
      have hE : putE S n = 3 := by rw [putE, if_neg (by omega), hz, if_neg (by simp), if_pos (by omega)]
      (repeat (first | refine RS.seq ?_ | refine RS.region ?_ | refine RS.regionQ ?_ (by kernel_rfl) (by kernel_rfl) | refine RS.skip ?_ | refine RS.inBlock ?_ | refine RS.block ?_ | refine RS.exit ?_)); refine asI ?_; refine LS.done ?_; (repeat (first | refine RS.seq ?_ | refine RS.region ?_ | refine RS.regionQ ?_ (by kernel_rfl) (by kernel_rfl) | refine RS.skip ?_ | refine RS.inBlock ?_ | refine RS.block ?_ | refine RS.exit ?_)); refine RS.ret1 (v := .int _ _) Tryd.func25 fun w hw => ?_
      exact ⟨by rw [hE], σ, PH.le_refl _, closeRef (by rw [putN, if_neg (by rw [hE]; decide)]) rfl (hw.weak fun F h => SepIn.tail (SepIn.perm (List.perm_append_comm_assoc (RK br _ vH (nodesOf S) S.taken) [blk b3 _] K) h))⟩
    simp only [decide_eq_false_iff_not] at y
    have hE : putE S n = 0 := by rw [putE, if_neg (by omega), hz, if_neg (by simp), if_neg (by omega)]
    refine RS.skip ?_
    refine RS.freeze0 (l := nodesOf S) (.slice aN (nodesOf S).length cN) (fun σ1 hle1 hrN => ?_) (hf := FindD.tail (i := FindD.head))
    (repeat (first | refine RS.seq ?_ | refine RS.region ?_ | refine RS.regionQ ?_ (by kernel_rfl) (by kernel_rfl) | refine RS.skip ?_ | refine RS.inBlock ?_ | refine RS.block ?_ | refine RS.exit ?_)); refine asI ?_; refine LS.done ?_
    (repeat (first | refine RS.seq ?_ | refine RS.region ?_ | refine RS.regionQ ?_ (by kernel_rfl) (by kernel_rfl) | refine RS.skip ?_ | refine RS.inBlock ?_ | refine RS.block ?_ | refine RS.exit ?_))
    obtain ⟨N, hN⟩ : ∃ N, N = nodesOf S := ⟨_, rfl⟩
    rw [← hN] at hrN hN8 hlenN
    rw [← hN]
    refine RS.loopF (X := Nat) 6 90 (fun x => x ≤ N.length ∧ ∀ j (h : j < N.length), j < x → sLt N[j].name n.name = true) (fun x => [(6, .int .i64 x)]) (fun _ => σ1) (fun _ => blk br (.cells (List.toArray [.slice aN N.length cN, vH]) 72 (0, 0)) :: rowD 0 108 vH S.taken :: blk b3 (.cells (List.toArray (nodeC n (.slice am n.marks.length cm) (.slice at_ n.taints.length ct))) 33 (0, 0)) :: K) (fun x => N.length - x) 0 ⟨Nat.zero_le _, fun _ _ h => by omega⟩ ⟨rfl, trivial⟩ rfl ⟨fun h => h⟩ ?_
    rintro k g ⟨hk1, hk2⟩ ih
    (repeat (first | refine RS.seq ?_ | refine RS.region ?_ | refine RS.regionQ ?_ (by kernel_rfl) (by kernel_rfl) | refine RS.skip ?_ | refine RS.inBlock ?_ | refine RS.block ?_ | refine RS.exit ?_)); refine mvI ?_; refine mvP ?_; refine nilck ?_; refine fld ?_; refine ld1 (v := .slice _ _ _) ?_; refine lenL ?_; refine ltI ?_; refine mvB ?_
    refine LS.cut 46 66 [(65, .bool (decide (k < N.length) && sLt ((N.map (·.name)).getD k ⟨#[]⟩) n.name))] (fun gg => ?_) (fun J => ?_)
    rotate_left
    · refine LS.part 53 (fun g1 => ?_) (fun g1 => ?_)
      · simp only [decide_eq_true_eq] at g1
        have hlt : k < N.length := by omega
        obtain ⟨b, o, rfl, hrow⟩ := hrN.addr (List.ne_nil_of_length_pos (by omega))
        refine LS.on ?_; refine mvP ?_; refine LS.on ?_; refine nilck ?_; refine LS.on ?_; refine fld ?_; refine LS.on ?_; refine ld1 (v := .slice _ _ _) ?_; refine LS.on ?_; refine mvI ?_; refine LS.on ?_; refine idx (i := k) ?_; refine LS.on ?_; refine fld ?_; refine LS.on ?_; refine ldS (RowAt.nodeName hrow k hlt) ?_; refine LS.on ?_; refine fld ?_; refine LS.on ?_; refine ld1 (v := .string _) ?_; refine LS.on ?_; refine ltS ?_; refine pk (v := .bool _) ?_; refine LS.done ?_
        exact J ⟨boolV (by rw [getD_of (by simpa using hlt), List.getElem_map, decide_eq_true hlt]; rfl), trivial⟩ (by repeat (first | with_reducible exact Out.refl _ _ _ | exact Out.hv | refine Out.upd ?_ | refine Out.hvIn ?_))
      · simp only [decide_eq_false_iff_not] at g1
        refine LS.off ?_; refine LS.off ?_; refine LS.off ?_; refine LS.off ?_; refine LS.off ?_; refine LS.off ?_; refine LS.off ?_; refine LS.off ?_; refine LS.off ?_; refine LS.off ?_; refine LS.off ?_; refine pk (v := .bool _) ?_; refine LS.done ?_
        exact J ⟨boolV (by rw [decide_eq_false (by omega)]; rfl), trivial⟩ (by repeat (first | with_reducible exact Out.refl _ _ _ | exact Out.hv | refine Out.upd ?_ | refine Out.hvIn ?_))
    (repeat (first | refine RS.seq ?_ | refine RS.region ?_ | refine RS.skip ?_ | refine RS.inBlock ?_ | refine RS.block ?_ | refine RS.exit ?_))
    refine RS.cond (fun z => ?_) (fun z => ?_)
    · simp only [Bool.and_eq_true, decide_eq_true_eq] at z
      obtain ⟨hlt, hls⟩ := z
      rw [getD_of (by simpa using hlt), List.getElem_map] at hls
      (repeat (first | refine RS.seq ?_ | refine RS.region ?_ | refine RS.regionQ ?_ (by kernel_rfl) (by kernel_rfl) | refine RS.skip ?_ | refine RS.inBlock ?_ | refine RS.block ?_ | refine RS.exit ?_)); refine mvI ?_; (first | refine addN ?_ | refine addI ?_); refine asI ?_; refine LS.done ?_; (repeat (first | refine RS.seq ?_ | refine RS.region ?_ | refine RS.regionQ ?_ (by kernel_rfl) (by kernel_rfl) | refine RS.skip ?_ | refine RS.inBlock ?_ | refine RS.block ?_ | refine RS.exit ?_))
      refine ih (k + 1) ⟨by omega, fun j hj hj' => ?_⟩ (by omega) ⟨rfl, trivial⟩ (by repeat (first | with_reducible exact Out.refl _ _ _ | exact Out.hv | refine Out.upd ?_ | refine Out.hvIn ?_)) ⟨fun h => h⟩ rfl
      by_cases e : j = k
      · subst e; exact hls
      · exact hk2 j hj (by omega)
    · simp only [Bool.and_eq_false_iff, decide_eq_false_iff_not] at z
      have hk3 : ∀ h : k < N.length, sLt N[k].name n.name = false := fun h => by
        rcases z with z | z
        · exact absurd h z
        · rwa [getD_of (by simpa using h), List.getElem_map] at z
      obtain ⟨o1, ho1⟩ : ∃ o1, o1 = N.take k := ⟨_, rfl⟩
      obtain ⟨o2, ho2⟩ : ∃ o2, o2 = N.drop k := ⟨_, rfl⟩
      have hl1 : o1.length = k := by rw [ho1, List.length_take]; omega
      have hl2 : o2.length = N.length - k := by rw [ho2, List.length_drop]
      have hr1 : RepL σ1 (.slice aN k cN) o1 := by rw [ho1]; exact hrN.take k (by omega)
      have hr2 := hrN.drop k (by omega)
      rw [← ho2] at hr2
      (repeat (first | refine RS.seq ?_ | refine RS.region ?_ | refine RS.skip ?_ | refine RS.inBlock ?_ | refine RS.block ?_ | refine RS.exit ?_)); refine RS.drawK [.free, .ex, .free, .free, .free, .ex, .free, .free, .eff, .ex, .ex, .ex, .eff, .free, .free, .free, .ex, .free, .free, .eff, .free, .free, .st] ?_ (by kernel_rfl) (by kernel_rfl); refine D.mvP ?_; refine D.lit0 ?_; refine D.mvP ?_; refine D.nilck ?_; refine D.fld ?_; refine D.ld1 (v := .slice aN N.length cN) ?_; refine D.mvI ?_; refine D.slcHi k ?_ (hl := by have := hrN.cap; omega); refine D.app0 69 0 o1 (vy := fun _ => .slice aN k cN) ?_ (fun us σ' hle hf => ⟨hf.1, _, hr1, by rw [fromN_zero]; exact hle⟩) (hL := ⟨fun h => h⟩); refine D.ldA [_, _, _, _, _, _] ?_
      refine D.callN (fun v τ => RepA τ v n) ?_ (hc := fun _ _ w' hle _ hw => copied_c n _ _ _ _ w' (hr w' _ (PH.le_trans hle1 hle) hw.imm ⟨_, hw.sep.tail.tail.tail⟩) (fine_small z'))
      refine D.litT (vs := fun us => [us 78]) 0 [n] ?_ (fun us σ' hle hf => ?_)
      rotate_left
      · obtain ⟨τ, hq, hτ, _⟩ : ∃ τ, RepA τ (us 78) n ∧ PH.le τ σ' ∧ New w0 τ := hf.1
        rw [fromN_zero]
        exact ⟨Rep.mono hq.cv hτ, trivial⟩
      refine D.appU 76 [n] (vy := fun us => us 79) ?_ (fun us σ' hle hf => ⟨_, hf.1, PH.le_refl _⟩) (hL := ⟨fun h => h⟩) (hb := by simp only [List.length_cons, List.length_nil]; omega) (hm := by simp only [List.length_cons, List.length_nil]; omega); refine D.mvP ?_; refine D.nilck ?_; refine D.fld ?_; refine D.ld1 (v := .slice aN N.length cN) ?_; refine D.mvI ?_; refine D.slcLo k ?_; refine D.appU 80 o2 (vy := fun _ => _) ?_ (fun us σ' hle hf => ⟨_, hr2, by rw [fromN_zero]; exact hle⟩) (hL := ⟨fun h => h⟩) (hb := by simp only [List.length_append, List.length_cons, List.length_nil]; omega) (hm := by simp only [List.length_append, List.length_cons, List.length_nil]; omega); refine D.nilck ?_; refine D.fld ?_
      refine D.stU 87 (fun us => [us 87, vH]) ?_
      refine D.done (fun us σ2 hle2 hfs => ?_)
      refine RS.ow ?_
      (repeat (first | refine RS.seq ?_ | refine RS.region ?_ | refine RS.regionQ ?_ (by kernel_rfl) (by kernel_rfl) | refine RS.skip ?_ | refine RS.inBlock ?_ | refine RS.block ?_ | refine RS.exit ?_)); refine asI ?_; refine LS.done ?_; (repeat (first | refine RS.seq ?_ | refine RS.region ?_ | refine RS.regionQ ?_ (by kernel_rfl) (by kernel_rfl) | refine RS.skip ?_ | refine RS.inBlock ?_ | refine RS.block ?_ | refine RS.exit ?_)); refine RS.ret1 (v := .int _ _) Tryd.func25 fun w hw => ?_
      refine ⟨by rw [hE], σ2, PH.le_trans hle1 hle2, closeRef (vN := us 87) (vH := vH) (N := (o1 ++ [n]) ++ o2) (H := S.taken) ?_ rfl (hw.weak fun F h => ?_)⟩
      · rw [putN, if_pos hE, nodes_ins hi.nodes hz (k := k) (by rw [← hN]; exact hk1) (by rw [← hN]; exact hk2) (by rw [← hN]; exact hk3), ho1, ho2, hN]
      · exact (SepIn.cons_sub (fun _ h => SepIn.cons_sub (fun _ h => SepIn.cons_sub (fun _ h => h.tail) h) h) h).swap
end
end Go.Proofs.YthnoaapghcadgaaDoor
/- Contract: the document's ledger gives room. -/
namespace Go.Proofs.YthnoaapghcadgaaDoor
open Go.JW Go.RowKit
theorem RepL.nodeCells {σ : PH} {a : Option Addr} {c : Nat} {N : List NodeD} (h : RepL σ (.slice a N.length c) N) {b o : Nat} (ha : a = some ⟨b, o, none⟩) (i : Nat) (hi : i < N.length) : σ.cell b (o + i * 6 + 0) = some (.string N[i].name) ∧ ∀ j, j < 2 → σ.cell b (o + i * 6 + 1 + j) = [Value.int .i64 N[i].cpu, .int .i64 N[i].mem][j]? := by
  obtain ⟨b', o', e, hrow⟩ := h.addr (fun h => by simp [h] at hi)
  rw [ha] at e
  obtain ⟨rfl, rfl⟩ : b = b' ∧ o = o' := by injection e with e; injection e with e1 e2; exact ⟨e1, e2⟩
  obtain ⟨vs, hc, vm, vt, rfl, _⟩ := hrow i hi
  refine ⟨hc 0 (by decide), fun j hj => ?_⟩
  have : j = 0 ∨ j = 1 := by omega
  rcases this with rfl | rfl
  · exact hc 1 (by decide)
  · exact hc 2 (by decide)
theorem wrong_zero {S : LedD} {p : PlaceD} (h : wrongE S p = 0) : (∃ n, asg S.nodes p.node = some n) ∧ 0 ≤ p.cpu ∧ 0 ≤ p.mem := by
  unfold wrongE at h
  cases e : asg S.nodes p.node with
  | none => rw [e] at h; simp at h
  | some n =>
    rw [e] at h
    by_cases h1 : 0 ≤ p.cpu ∧ 0 ≤ p.mem
    · exact ⟨⟨n, rfl⟩, h1⟩
    · simp [h1] at h
section
variable {w0 w : World} {M : Nat → Prop} {σ : PH} {K : List HP} {br : Nat} {S : LedD}
theorem rtake_c (g : Int) (hg : I64 g) (v : Value) (ps : List PlaceD) (hrs : RepL σ v ps) (hlp : ps.length ≤ 1000) {kk : Nat} (hi : LedInv S kk) (hkk : kk ≤ 1000000) (hl : S.taken.length ≤ 1000) (hw : Sat w0 M σ (refHP br S :: K) w) :
    Calls Tryd.prog 27 #[.pointer (some ⟨br, 0, none⟩), .int .i64 g, v] w fun e w' => e = .returned (.int .i64 (takeE S g ps)) ∧ ∃ σ', PH.le σ σ' ∧ Sat w0 M σ' (refHP br ⟨S.nodes, takeT S g ps⟩ :: K) w' := by
  obtain ⟨vN, vH, hw⟩ := openRef hw
  have hN8 := hi.nodes_len
  have hr : ArgL σ K v ps := ArgL.of hrs
  have hr0 := hr w σ (PH.le_refl _) hw.imm ⟨_, hw.sep.tail.tail.tail⟩
  obtain ⟨av, cv, rfl⟩ := hr0.form
  refine RS.enterK Tryd.func27 Tryd.ntmps27 rfl rfl hw ?_
  refine RS.to (K' := blk br (.cells (List.toArray [vN, vH]) 72 (0, 0)) :: rowD 0 33 vN (nodesOf S) :: rowD 0 108 vH S.taken :: K) ?_ ⟨fun h => h⟩
  (repeat (first | refine RS.seq ?_ | refine RS.region ?_ | refine RS.regionQ ?_ (by kernel_rfl) (by kernel_rfl) | refine RS.skip ?_ | refine RS.inBlock ?_ | refine RS.block ?_ | refine RS.exit ?_)); refine asI ?_; refine LS.done ?_
  (repeat (first | refine RS.seq ?_ | refine RS.region ?_ | refine RS.regionQ ?_ (by kernel_rfl) (by kernel_rfl) | refine RS.skip ?_ | refine RS.inBlock ?_ | refine RS.block ?_ | refine RS.exit ?_)); refine mvP ?_; refine mvI ?_
  refine callS ?_ (fun w' hw => by obtain ⟨f1, _, f3⟩ := RK.facts hw (by omega) (by omega); exact (rhad_c br vN vH S.taken g w' f1 f3).mono fun _ _ ⟨he, hbl⟩ => ⟨he, hw.ext hbl⟩)
  refine geI ?_; refine LS.done ?_
  (repeat (first | refine RS.seq ?_ | refine RS.region ?_ | refine RS.skip ?_ | refine RS.inBlock ?_ | refine RS.block ?_ | refine RS.exit ?_))
  have hcl : ∀ σ' w', PH.le σ σ' → Sat w0 M σ' (RK br vN vH (nodesOf S) S.taken ++ K) w' → ∀ e, takeE S g ps = e → e ≠ 0 → ∃ σ', PH.le σ σ' ∧ Sat w0 M σ' (refHP br ⟨S.nodes, takeT S g ps⟩ :: K) w' := fun σ' w' hle hw e he hne => ⟨σ', hle, closeRef rfl (by rw [takeT, if_neg (by rw [he]; exact hne)]) hw⟩
  cases hk : posH S.taken g with
  | some k =>
    have hz : ¬ (tk S.taken g).length = 0 := fun h => by rw [(tk_zero hi g).1 h] at hk; cases hk
    have e : takeE S g ps = 4 := by rw [takeE, if_pos (by omega)]
    rw [show posV (some k) = (k : Int) from rfl]
    refine RS.condT ?_ (h := decide_eq_true (by omega))
    (repeat (first | refine RS.seq ?_ | refine RS.region ?_ | refine RS.regionQ ?_ (by kernel_rfl) (by kernel_rfl) | refine RS.skip ?_ | refine RS.inBlock ?_ | refine RS.block ?_ | refine RS.exit ?_)); refine asI ?_; refine LS.done ?_; (repeat (first | refine RS.seq ?_ | refine RS.region ?_ | refine RS.regionQ ?_ (by kernel_rfl) (by kernel_rfl) | refine RS.skip ?_ | refine RS.inBlock ?_ | refine RS.block ?_ | refine RS.exit ?_)); refine RS.ret1 (v := .int _ _) Tryd.func27 fun w hw => ?_
    exact ⟨by rw [e], hcl _ _ (PH.le_refl _) hw _ e (by decide)⟩
  | none =>
    have hz := (tk_zero hi g).2 hk
    have z1 : ¬ 0 < (tk S.taken g).length := by omega
    rw [show posV none = -1 from rfl]
    refine RS.condF ?_
    (repeat (first | refine RS.seq ?_ | refine RS.region ?_ | refine RS.regionQ ?_ (by kernel_rfl) (by kernel_rfl) | refine RS.skip ?_ | refine RS.inBlock ?_ | refine RS.block ?_ | refine RS.exit ?_)); refine mvL ?_; refine lenL ?_; refine eqI ?_; refine LS.done ?_
    (repeat (first | refine RS.seq ?_ | refine RS.region ?_ | refine RS.skip ?_ | refine RS.inBlock ?_ | refine RS.block ?_ | refine RS.exit ?_))
    refine RS.cond (fun z => ?_) (fun z => ?_)
    · have z' : ps.length = 0 := by simp only [decide_eq_true_eq] at z; omega
      have e : takeE S g ps = 3 := by rw [takeE, if_neg z1, if_pos z']
      (repeat (first | refine RS.seq ?_ | refine RS.region ?_ | refine RS.regionQ ?_ (by kernel_rfl) (by kernel_rfl) | refine RS.skip ?_ | refine RS.inBlock ?_ | refine RS.block ?_ | refine RS.exit ?_)); refine asI ?_; refine LS.done ?_; (repeat (first | refine RS.seq ?_ | refine RS.region ?_ | refine RS.regionQ ?_ (by kernel_rfl) (by kernel_rfl) | refine RS.skip ?_ | refine RS.inBlock ?_ | refine RS.block ?_ | refine RS.exit ?_)); refine RS.ret1 (v := .int _ _) Tryd.func27 fun w hw => ?_
      exact ⟨by rw [e], hcl _ _ (PH.le_refl _) hw _ e (by decide)⟩
    have z2 : ¬ ps.length = 0 := by simp only [decide_eq_false_iff_not] at z; omega
    clear z
    obtain ⟨bv, ov, rfl, _⟩ := hr0.addr (fun h => z2 (by rw [h]; rfl))
    (repeat (first | refine RS.seq ?_ | refine RS.region ?_ | refine RS.regionQ ?_ (by kernel_rfl) (by kernel_rfl) | refine RS.skip ?_ | refine RS.inBlock ?_ | refine RS.block ?_ | refine RS.exit ?_)); refine asI ?_; refine LS.done ?_
    (repeat (first | refine RS.seq ?_ | refine RS.region ?_ | refine RS.regionQ ?_ (by kernel_rfl) (by kernel_rfl) | refine RS.skip ?_ | refine RS.inBlock ?_ | refine RS.block ?_ | refine RS.exit ?_))
    refine RS.loopF (X := Nat) 7 124 (fun x => x ≤ ps.length ∧ (∀ i (h : i < ps.length), i < x → wrongE S ps[i] = 0)) (fun x => [(7, .int .i64 x)]) (fun _ => σ) (fun _ => blk br (.cells (List.toArray [vN, vH]) 72 (0, 0)) :: rowD 0 33 vN (nodesOf S) :: rowD 0 108 vH S.taken :: K) (fun x => ps.length - x) 0 ⟨by omega, fun _ _ h => by omega⟩ ⟨rfl, trivial⟩ rfl ⟨fun h => h⟩ ?_
    rintro k gg ⟨hk1, hzero⟩ ih
    (repeat (first | refine RS.seq ?_ | refine RS.region ?_ | refine RS.regionQ ?_ (by kernel_rfl) (by kernel_rfl) | refine RS.skip ?_ | refine RS.inBlock ?_ | refine RS.block ?_ | refine RS.exit ?_)); refine mvI ?_; refine mvL ?_; refine lenL ?_; refine ltI ?_; refine LS.done ?_
    (repeat (first | refine RS.seq ?_ | refine RS.region ?_ | refine RS.regionQ ?_ (by kernel_rfl) (by kernel_rfl) | refine RS.skip ?_ | refine RS.inBlock ?_ | refine RS.block ?_ | refine RS.exit ?_))
    by_cases hlt : k < ps.length
    · refine RS.condT ?_ (h := by simp; omega)
      have hcell : ∀ w' : World, Sat w0 M σ (RK br vN vH (nodesOf S) S.taken ++ K) w' → ∀ j, j < 5 → (hp w').cell bv (ov + k * 5 + j) = (placeC ps[k])[j]? := fun w' hw => ArgL.place hr (PH.le_refl _) hw.imm ⟨_, hw.sep.tail.tail.tail⟩ k hlt rfl
      obtain ⟨p, hpk⟩ : ∃ p, p = ps[k] := ⟨_, rfl⟩
      have hp64 := (RowAt.place (hr0.addr (fun h => z2 (by rw [h]; rfl))).choose_spec.choose_spec.2 k hlt).2
      have hwr := wrongs_first (S := S) hlt hzero
      rw [← hpk] at hcell hp64 hwr
      (repeat (first | refine RS.seq ?_ | refine RS.region ?_ | refine RS.regionQ ?_ (by kernel_rfl) (by kernel_rfl) | refine RS.skip ?_ | refine RS.inBlock ?_ | refine RS.block ?_ | refine RS.exit ?_)); refine mvP ?_; refine mvL ?_; refine mvI ?_; refine idx (i := k) ?_; refine fld ?_; refine ldW (v := .string p.node) (fun w' hw => hcell w' hw 1 (by decide)) ?_
      refine callS ?_ (fun w' hw => by obtain ⟨f1, f2, _⟩ := RK.facts hw (by omega) (by omega); exact (rat_c br vN vH (nodesOf S) p.node w' f1 f2).mono fun _ _ ⟨he, hbl⟩ => ⟨he, hw.ext hbl⟩)
      refine ltI ?_; refine LS.done ?_
      (repeat (first | refine RS.seq ?_ | refine RS.region ?_ | refine RS.skip ?_ | refine RS.inBlock ?_ | refine RS.block ?_ | refine RS.exit ?_))
      refine RS.cond (fun y => ?_) (fun y => ?_)
      · simp only [decide_eq_true_eq] at y
        have hwe : wrongE S p = 5 := by simp [wrongE, (posN_none hi.nodes).1 (posV_neg.1 y)]
        have e : takeE S g ps = 5 := by rw [takeE, if_neg z1, if_neg z2, hwr (by rw [hwe]; decide), if_pos (by rw [hwe]; decide), hwe]
        (repeat (first | refine RS.seq ?_ | refine RS.region ?_ | refine RS.regionQ ?_ (by kernel_rfl) (by kernel_rfl) | refine RS.skip ?_ | refine RS.inBlock ?_ | refine RS.block ?_ | refine RS.exit ?_)); refine asI ?_; refine LS.done ?_; (repeat (first | refine RS.seq ?_ | refine RS.region ?_ | refine RS.regionQ ?_ (by kernel_rfl) (by kernel_rfl) | refine RS.skip ?_ | refine RS.inBlock ?_ | refine RS.block ?_ | refine RS.exit ?_)); refine RS.ret1 (v := .int _ _) Tryd.func27 fun w hw => ?_
        exact ⟨by rw [e], hcl _ _ (PH.le_refl _) hw _ e (by decide)⟩
      simp only [decide_eq_false_iff_not] at y
      have hsome : (asg S.nodes p.node).isSome = true := by
        rcases opt_cases (asg S.nodes p.node) with h | ⟨n, h⟩
        · exact absurd (posV_neg.2 ((posN_none hi.nodes).2 h)) y
        · rw [h]; rfl
      (repeat (first | refine RS.seq ?_ | refine RS.region ?_ | refine RS.regionQ ?_ (by kernel_rfl) (by kernel_rfl) | refine RS.skip ?_ | refine RS.inBlock ?_ | refine RS.block ?_ | refine RS.exit ?_)); refine mvL ?_; refine mvI ?_; refine idx (i := k) ?_; refine fld ?_; refine ldWA (b := bv) (off := ov + k * 5 + 2) (s := 2) (vs := [.int .i64 p.cpu, .int .i64 p.mem]) rfl (fun w' hw j hj => ?_) ?_
      · have := hcell w' hw (2 + j) (by omega)
        rw [← Nat.add_assoc] at this
        rw [this]; rcases (show j = 0 ∨ j = 1 by omega) with rfl | rfl <;> rfl
      refine callP ?_ (hc := fun w _ => rright1_c _ _ w)
      refine not_ ?_; refine LS.done ?_
      (repeat (first | refine RS.seq ?_ | refine RS.region ?_ | refine RS.skip ?_ | refine RS.inBlock ?_ | refine RS.block ?_ | refine RS.exit ?_))
      refine RS.cond (fun x => ?_) (fun x => ?_)
      · have x' : ¬ (0 ≤ p.cpu ∧ 0 ≤ p.mem) := by simp at x; omega
        have hwe : wrongE S p = 2 := by rw [wrongE, if_neg (by simp [hsome]), if_pos x']
        have e : takeE S g ps = 2 := by rw [takeE, if_neg z1, if_neg z2, hwr (by rw [hwe]; decide), if_pos (by rw [hwe]; decide), hwe]
        (repeat (first | refine RS.seq ?_ | refine RS.region ?_ | refine RS.regionQ ?_ (by kernel_rfl) (by kernel_rfl) | refine RS.skip ?_ | refine RS.inBlock ?_ | refine RS.block ?_ | refine RS.exit ?_)); refine asI ?_; refine LS.done ?_; (repeat (first | refine RS.seq ?_ | refine RS.region ?_ | refine RS.regionQ ?_ (by kernel_rfl) (by kernel_rfl) | refine RS.skip ?_ | refine RS.inBlock ?_ | refine RS.block ?_ | refine RS.exit ?_)); refine RS.ret1 (v := .int _ _) Tryd.func27 fun w hw => ?_
        exact ⟨by rw [e], hcl _ _ (PH.le_refl _) hw _ e (by decide)⟩
      have x' : 0 ≤ p.cpu ∧ 0 ≤ p.mem := by simpa using x
      (repeat (first | refine RS.seq ?_ | refine RS.region ?_ | refine RS.regionQ ?_ (by kernel_rfl) (by kernel_rfl) | refine RS.skip ?_ | refine RS.inBlock ?_ | refine RS.block ?_ | refine RS.exit ?_)); refine mvI ?_; (first | refine addN ?_ | refine addI ?_); refine asI ?_; refine LS.done ?_; (repeat (first | refine RS.seq ?_ | refine RS.region ?_ | refine RS.regionQ ?_ (by kernel_rfl) (by kernel_rfl) | refine RS.skip ?_ | refine RS.inBlock ?_ | refine RS.block ?_ | refine RS.exit ?_))
      refine ih (k + 1) ⟨by omega, fun i hi' hik => ?_⟩ (by omega) ⟨rfl, trivial⟩ (by repeat (first | with_reducible exact Out.refl _ _ _ | exact Out.hv | refine Out.upd ?_ | refine Out.hvIn ?_)) ⟨fun h => h⟩ rfl
      by_cases hki : i = k
      · subst hki; rw [← hpk, wrongE, if_neg (by simp [hsome]), if_neg (by simpa using x')]
      · exact hzero i hi' (by omega)
    refine RS.condF ?_ (h := by simp; omega)
    obtain rfl : k = ps.length := by omega
    have hall0 : ∀ p ∈ ps, wrongE S p = 0 := fun p hp => by obtain ⟨i, hi, rfl⟩ := List.getElem_of_mem hp; exact hzero i hi hi
    have hw0 : wrongs S ps = 0 := wrongs_zero.2 hall0
    clear ih hzero
    obtain ⟨N, hN⟩ : ∃ N, N = nodesOf S := ⟨_, rfl⟩
    have hnat : ∀ i (h : i < N.length), asg S.nodes N[i].name = some N[i] := by rw [hN]; exact fun i h => (nodes_at hi.nodes i h).2.2.2
    refine RS.placeD (l := nodesOf S) vN (fun aN cN eN _ haN => ?_); subst eN
    rw [← hN] at hN8 hcl haN
    rw [← hN]
    (repeat (first | refine RS.seq ?_ | refine RS.region ?_ | refine RS.regionQ ?_ (by kernel_rfl) (by kernel_rfl) | refine RS.skip ?_ | refine RS.inBlock ?_ | refine RS.block ?_ | refine RS.exit ?_)); refine asI ?_; refine LS.done ?_
    (repeat (first | refine RS.seq ?_ | refine RS.region ?_ | refine RS.regionQ ?_ (by kernel_rfl) (by kernel_rfl) | refine RS.skip ?_ | refine RS.inBlock ?_ | refine RS.block ?_ | refine RS.exit ?_))
    refine RS.loopF (X := Nat × PH) 8 124 (fun x => x.1 ≤ N.length ∧ PH.le σ x.2 ∧ (∀ i (h : i < N.length), i < x.1 → ∀ k (h : k < ps.length), ps[k].node = N[i].name → roomAt S ps k = true)) (fun x => [(8, .int .i64 x.1)]) (fun x => x.2) (fun _ => blk br (.cells (List.toArray [.slice aN N.length cN, vH]) 72 (0, 0)) :: rowD 0 33 (.slice aN N.length cN) N :: rowD 0 108 vH S.taken :: K) (fun x => N.length - x.1) (0, σ) ⟨Nat.zero_le _, PH.le_refl _, fun _ _ h => by omega⟩ ⟨rfl, trivial⟩ rfl ⟨fun h => h⟩ ?_
    rintro ⟨i, σ1⟩ gg ⟨(hi1 : i ≤ N.length), (hle1 : PH.le σ σ1), hroom⟩ ih
    dsimp only at hroom ⊢
    (repeat (first | refine RS.seq ?_ | refine RS.region ?_ | refine RS.regionQ ?_ (by kernel_rfl) (by kernel_rfl) | refine RS.skip ?_ | refine RS.inBlock ?_ | refine RS.block ?_ | refine RS.exit ?_)); refine mvI ?_; refine mvP ?_; refine nilck ?_; refine fld ?_; refine ld1 (v := .slice _ _ _) ?_; refine lenL ?_; refine ltI ?_; refine LS.done ?_
    (repeat (first | refine RS.seq ?_ | refine RS.region ?_ | refine RS.regionQ ?_ (by kernel_rfl) (by kernel_rfl) | refine RS.skip ?_ | refine RS.inBlock ?_ | refine RS.block ?_ | refine RS.exit ?_))
    by_cases hlt : i < N.length
    · refine RS.condT ?_ (h := by simp; omega)
      obtain ⟨bN, rfl⟩ := haN (List.ne_nil_of_length_pos (by omega))
      obtain ⟨n, hn⟩ : ∃ n, n = N[i] := ⟨_, rfl⟩
      have hasg := hnat i hlt
      have hnc : ∀ σ' w', Sat w0 M σ' (RK br (.slice (some ⟨bN, 0, none⟩) N.length cN) vH N S.taken ++ K) w' → (hp w').cell bN (0 + i * 6 + 0) = some (.string n.name) ∧ ∀ j, j < 2 → (hp w').cell bN (0 + i * 6 + 1 + j) = [Value.int .i64 n.cpu, .int .i64 n.mem][j]? := fun σ' w' hw => by
        rw [hn]; exact RepL.nodeCells (RK.facts hw (by omega) (by omega)).2.1 rfl i hlt
      rw [← hn] at hasg
      have hfine := fine_cap (hi.nodes.fine _ (asg_some_mem hasg))
      have hcapn : capOf S n.name = (n.cpu, n.mem) := by rw [capOf, hasg]
      have hfitn := hi.fits n.name n hasg
      have hpos := used_pos (hi.takenOk hkk) n.name
      simp only at hfine
      (repeat (first | refine RS.seq ?_ | refine RS.region ?_ | refine RS.regionQ ?_ (by kernel_rfl) (by kernel_rfl) | refine RS.skip ?_ | refine RS.inBlock ?_ | refine RS.block ?_ | refine RS.exit ?_)); refine mvP ?_; refine mvP ?_; refine nilck ?_; refine fld ?_; refine ld1 (v := .slice _ _ _) ?_; refine mvI ?_; refine idx (i := i) ?_; refine fld ?_; refine ldW (v := .string n.name) (fun w' hw => (hnc _ w' hw).1) ?_
      refine callS ?_ (fun w' hw => by obtain ⟨f1, _, f3⟩ := RK.facts hw (by omega) (by omega); exact (rused_c br _ vH S.taken n.name (hi.takenOk hkk) w' f1 f3).mono fun _ _ ⟨he, hbl⟩ => ⟨he, hw.ext hbl⟩)
      refine mvT ?_; refine extr (v := _) ?_; refine extr (v := .int _ _) ?_; refine alloc_ (fun b9 => ?_); refine st (.agg _) _ ?_; refine asI ?_; refine LS.done ?_
      (repeat (first | refine RS.seq ?_ | refine RS.region ?_ | refine RS.regionQ ?_ (by kernel_rfl) (by kernel_rfl) | refine RS.skip ?_ | refine RS.inBlock ?_ | refine RS.block ?_ | refine RS.exit ?_)); refine asI ?_; refine LS.done ?_
      (repeat (first | refine RS.seq ?_ | refine RS.region ?_ | refine RS.regionQ ?_ (by kernel_rfl) (by kernel_rfl) | refine RS.skip ?_ | refine RS.inBlock ?_ | refine RS.block ?_ | refine RS.exit ?_))
      refine RS.loopF (X := Nat × PH) 9 124 (fun x => x.1 ≤ ps.length ∧ PH.le σ1 x.2 ∧ (∀ j (h : j < ps.length), j < x.1 → ps[j].node = n.name → roomAt S ps j = true) ∧ (0 ≤ usedC S.taken n.name + needC n.name (ps.take x.1) ∧ usedC S.taken n.name + needC n.name (ps.take x.1) ≤ 1099511627776) ∧ 0 ≤ usedM S.taken n.name + needM n.name (ps.take x.1) ∧ usedM S.taken n.name + needM n.name (ps.take x.1) ≤ 1099511627776) (fun x => [(9, .pointer (some ⟨b9, 0, none⟩)), (11, .int .i64 x.1)]) (fun x => x.2)
        (fun x => blk b9 (.cells (List.toArray [.int .i64 (usedC S.taken n.name + needC n.name (ps.take x.1)), .int .i64 (usedM S.taken n.name + needM n.name (ps.take x.1))]) 30 (0, 0)) :: blk br (.cells (List.toArray [.slice (some ⟨bN, 0, none⟩) N.length cN, vH]) 72 (0, 0)) :: rowD 0 33 (.slice (some ⟨bN, 0, none⟩) N.length cN) N :: rowD 0 108 vH S.taken :: K) (fun x => ps.length - x.1) (0, σ1) ⟨Nat.zero_le _, PH.le_refl _, fun _ _ h => by omega, ?_, ?_⟩ ⟨rfl, rfl, trivial⟩ rfl ⟨fun h => ?_⟩ ?_
      · simp only [List.take_zero, needF, List.map_nil, List.sum_nil]; omega
      · simp only [List.take_zero, needF, List.map_nil, List.sum_nil]; omega
      · dsimp only; simp only [List.take_zero, needF, List.map_nil, List.sum_nil, Int.add_zero]; exact h
      rintro ⟨k, σ2⟩ gg2 ⟨(hk1 : k ≤ ps.length), (hle2 : PH.le σ1 σ2), hok, hbC, hbM⟩ ihk
      dsimp only at hok hbC hbM ⊢
      have hle02 := PH.le_trans hle1 hle2
      (repeat (first | refine RS.seq ?_ | refine RS.region ?_ | refine RS.regionQ ?_ (by kernel_rfl) (by kernel_rfl) | refine RS.skip ?_ | refine RS.inBlock ?_ | refine RS.block ?_ | refine RS.exit ?_)); refine mvI ?_; refine mvL ?_; refine lenL ?_; refine ltI ?_; refine LS.done ?_
      (repeat (first | refine RS.seq ?_ | refine RS.region ?_ | refine RS.regionQ ?_ (by kernel_rfl) (by kernel_rfl) | refine RS.skip ?_ | refine RS.inBlock ?_ | refine RS.block ?_ | refine RS.exit ?_))
      by_cases hlk : k < ps.length
      · refine RS.condT ?_ (h := by simp; omega)
        have hcell : ∀ (w' : World) (σ' : PH), PH.le σ σ' → PH.le σ' (hp w') → (∃ F, SepIn ⟨σ', hp w'⟩ K F) → ∀ j, j < 5 → (hp w').cell bv (ov + k * 5 + j) = (placeC ps[k])[j]? := fun w' σ' a b c => ArgL.place hr a b c k hlk rfl
        obtain ⟨p, hpk⟩ : ∃ p, p = ps[k] := ⟨_, rfl⟩
        have hp64 := (RowAt.place (hr0.addr (fun h => z2 (by rw [h]; rfl))).choose_spec.choose_spec.2 k hlk).2
        have hwz := (wrong_zero (hall0 ps[k] (List.getElem_mem _))).2
        have nC : needC n.name (ps.take (k + 1)) = needC n.name (ps.take k) + (if ps[k].node = n.name then ps[k].cpu else 0) := needF_succ (·.cpu) n.name ps k hlk
        have nM : needM n.name (ps.take (k + 1)) = needM n.name (ps.take k) + (if ps[k].node = n.name then ps[k].mem else 0) := needF_succ (·.mem) n.name ps k hlk
        have hrA : roomAt S ps k = fitsB (usedC S.taken ps[k].node + needC ps[k].node (ps.take (k + 1))) (usedM S.taken ps[k].node + needM ps[k].node (ps.take (k + 1))) (capOf S ps[k].node).1 (capOf S ps[k].node).2 := by unfold roomAt; rw [List.getElem?_eq_getElem hlk]
        rw [← hpk] at hcell hp64 hwz nC nM hrA
        (repeat (first | refine RS.seq ?_ | refine RS.region ?_ | refine RS.regionQ ?_ (by kernel_rfl) (by kernel_rfl) | refine RS.skip ?_ | refine RS.inBlock ?_ | refine RS.block ?_ | refine RS.exit ?_)); refine mvL ?_; refine mvI ?_; refine idx (i := k) ?_; refine fld ?_; refine ldW (v := .string p.node) (fun w' hw => hcell w' _ hle02 hw.imm ⟨_, hw.sep.tail.tail.tail.tail⟩ 1 (by decide)) ?_; refine mvP ?_; refine nilck ?_; refine fld ?_; refine ld1 (v := .slice _ _ _) ?_; refine mvI ?_; refine idx (i := i) ?_; refine fld ?_; refine ldW (v := .string n.name) (fun w' hw => (hnc _ w' (hw.weak fun F h => h.tail)).1) ?_; refine neS ?_; refine LS.done ?_
        (repeat (first | refine RS.seq ?_ | refine RS.region ?_ | refine RS.skip ?_ | refine RS.inBlock ?_ | refine RS.block ?_ | refine RS.exit ?_))
        refine RS.cond (fun y => ?_) (fun y => ?_)
        · have y : ¬ p.node = n.name := by simpa using y
          rw [if_neg y, Int.add_zero] at nC nM
          (repeat (first | refine RS.seq ?_ | refine RS.region ?_ | refine RS.regionQ ?_ (by kernel_rfl) (by kernel_rfl) | refine RS.skip ?_ | refine RS.inBlock ?_ | refine RS.block ?_ | refine RS.exit ?_)); refine mvI ?_; (first | refine addN ?_ | refine addI ?_); refine asI ?_; refine LS.done ?_; (repeat (first | refine RS.seq ?_ | refine RS.region ?_ | refine RS.regionQ ?_ (by kernel_rfl) (by kernel_rfl) | refine RS.skip ?_ | refine RS.inBlock ?_ | refine RS.block ?_ | refine RS.exit ?_))
          refine ihk (k + 1, σ2) ⟨hlk, hle2, fun j hj hjk hjn => ?_, by dsimp only; rw [nC]; exact hbC, by dsimp only; rw [nM]; exact hbM⟩ (by (try dsimp only); omega) ⟨rfl, rfl, trivial⟩ (by repeat (first | with_reducible exact Out.refl _ _ _ | exact Out.hv | refine Out.upd ?_ | refine Out.hvIn ?_)) ⟨fun h => ?_⟩ rfl
          · by_cases hjk' : j = k
            · subst hjk'; rw [← hpk] at hjn; exact absurd hjn y
            · exact hok j hj (by (try dsimp only at hjk); omega) hjn
          · dsimp only; rw [nC, nM]; exact h
        · have y : p.node = n.name := by simpa using y
          rw [if_pos y] at nC nM
          rw [y, hcapn, nC, nM] at hrA
          have hvc : ∀ σ' w', PH.le σ2 σ' → Sat w0 M σ' (blk b9 (.cells (List.toArray [.int .i64 (usedC S.taken n.name + needC n.name (ps.take k)), .int .i64 (usedM S.taken n.name + needM n.name (ps.take k))]) 30 (0, 0)) :: RK br (.slice (some ⟨bN, 0, none⟩) N.length cN) vH N S.taken ++ K) w' → ∀ j, j < 2 → (hp w').cell bv (ov + k * 5 + 2 + j) = [Value.int .i64 p.cpu, .int .i64 p.mem][j]? := fun σ' w' hle hw j hj => by
            have := hcell w' _ (PH.le_trans hle02 hle) hw.imm ⟨_, hw.sep.tail.tail.tail.tail⟩ (2 + j) (by omega)
            rw [← Nat.add_assoc] at this
            rw [this]; rcases (show j = 0 ∨ j = 1 by omega) with rfl | rfl <;> rfl
          by_cases hov : 9223372036854775807 - p.cpu < usedC S.taken n.name + needC n.name (ps.take k) ∨ 9223372036854775807 - p.mem < usedM S.taken n.name + needM n.name (ps.take k)
          · have e : addR (usedC S.taken n.name + needC n.name (ps.take k)) (usedM S.taken n.name + needM n.name (ps.take k)) p.cpu p.mem = ((0, 0), 6) := by unfold addR; rw [if_neg (by omega), if_pos hov]
            have hno : roomAt S ps k = false := by rw [hrA]; exact decide_eq_false (by simp only; omega)
            have et := take_six z1 z2 hw0 hlk hno
            (repeat (first | refine RS.seq ?_ | refine RS.region ?_ | refine RS.skip ?_ | refine RS.inBlock ?_ | refine RS.block ?_ | refine RS.exit ?_)); refine RS.drawK [.ex, .free, .free, .free, .free, .ex, .ex, .free, .free, .free, .own, .st, .free] ?_ (by kernel_rfl) (by kernel_rfl); refine D.ldA [_, _] ?_; refine D.mvL ?_; refine D.mvI ?_; refine D.idx (i := k) ?_; refine D.fld ?_; refine D.ldWA (b := bv) (off := ov + k * 5 + 2) (s := 2) (vs := [.int .i64 p.cpu, .int .i64 p.mem]) rfl (fun σ' w' hle hw => hvc σ' w' hle hw) ?_
            refine D.callP ?_ (hc := fun _ _ w' _ _ _ => radd1_c _ _ p.cpu p.mem (by omega) (by omega) hp64.1 hp64.2 w')
            rw [e]
            refine D.mvT ?_; refine D.extr (v := _) ?_; refine D.extr (v := .int _ _) ?_; refine D.alloc_ ?_
            refine D.stO (fun _ => [.int .i64 0, .int .i64 0]) ?_ (fun us σ' hle hf => ⟨rfl, rfl, rfl⟩)
            refine D.asI ?_; refine D.done (fun us σ1 hle1 hfs => ?_)
            have hle3 := hle1
            refine RS.ow ?_
            refine RS.openOwn (fun b12 h12 => ?_); refine RS.as 12 (.pointer (some ⟨b12, 0, none⟩)) h12 ?_
            (repeat (first | refine RS.seq ?_ | refine RS.region ?_ | refine RS.regionQ ?_ (by kernel_rfl) (by kernel_rfl) | refine RS.skip ?_ | refine RS.inBlock ?_ | refine RS.block ?_ | refine RS.exit ?_)); refine mvI ?_; refine neI ?_; refine mvB ?_; refine LS.off ?_; refine LS.off ?_; refine LS.off ?_; refine LS.off ?_; refine LS.off ?_; refine LS.off ?_; refine LS.off ?_; refine LS.off ?_; refine LS.off ?_; refine LS.off ?_; refine LS.off ?_; refine pk (v := .bool _) ?_; refine LS.done ?_
            (repeat (first | refine RS.seq ?_ | refine RS.region ?_ | refine RS.regionQ ?_ (by kernel_rfl) (by kernel_rfl) | refine RS.skip ?_ | refine RS.inBlock ?_ | refine RS.block ?_ | refine RS.exit ?_)); refine RS.condT ?_
            (repeat (first | refine RS.seq ?_ | refine RS.region ?_ | refine RS.regionQ ?_ (by kernel_rfl) (by kernel_rfl) | refine RS.skip ?_ | refine RS.inBlock ?_ | refine RS.block ?_ | refine RS.exit ?_)); refine asI ?_; refine LS.done ?_; (repeat (first | refine RS.seq ?_ | refine RS.region ?_ | refine RS.regionQ ?_ (by kernel_rfl) (by kernel_rfl) | refine RS.skip ?_ | refine RS.inBlock ?_ | refine RS.block ?_ | refine RS.exit ?_)); refine RS.ret1 (v := .int _ _) Tryd.func27 fun w hw => ?_
            exact ⟨by rw [et], hcl _ _ (PH.le_trans hle02 hle3) (hw.weak fun F h => h.tail.tail) _ et (by decide)⟩
          · have e : addR (usedC S.taken n.name + needC n.name (ps.take k)) (usedM S.taken n.name + needM n.name (ps.take k)) p.cpu p.mem = ((usedC S.taken n.name + needC n.name (ps.take k) + p.cpu, usedM S.taken n.name + needM n.name (ps.take k) + p.mem), 0) := by unfold addR; rw [if_neg (by omega), if_neg hov]
            (repeat (first | refine RS.seq ?_ | refine RS.region ?_ | refine RS.skip ?_ | refine RS.inBlock ?_ | refine RS.block ?_ | refine RS.exit ?_)); refine RS.drawK [.ex, .free, .free, .free, .free, .ex, .ex, .free, .free, .free, .own, .st, .free] ?_ (by kernel_rfl) (by kernel_rfl); refine D.ldA [_, _] ?_; refine D.mvL ?_; refine D.mvI ?_; refine D.idx (i := k) ?_; refine D.fld ?_; refine D.ldWA (b := bv) (off := ov + k * 5 + 2) (s := 2) (vs := [.int .i64 p.cpu, .int .i64 p.mem]) rfl (fun σ' w' hle hw => hvc σ' w' hle hw) ?_
            refine D.callP ?_ (hc := fun _ _ w' _ _ _ => radd1_c _ _ p.cpu p.mem (by omega) (by omega) hp64.1 hp64.2 w')
            rw [e]
            refine D.mvT ?_; refine D.extr (v := _) ?_; refine D.extr (v := .int _ _) ?_; refine D.alloc_ ?_
            refine D.stO (fun _ => [.int .i64 (usedC S.taken n.name + needC n.name (ps.take k) + p.cpu), .int .i64 (usedM S.taken n.name + needM n.name (ps.take k) + p.mem)]) ?_ (fun us σ' hle hf => ⟨rfl, rfl, rfl⟩)
            refine D.asI ?_; refine D.done (fun us σ1 hle1 hfs => ?_)
            have hle3 := hle1
            refine RS.ow ?_
            refine RS.openOwn (fun b12 h12 => ?_); refine RS.as 12 (.pointer (some ⟨b12, 0, none⟩)) h12 ?_
            (repeat (first | refine RS.seq ?_ | refine RS.region ?_ | refine RS.regionQ ?_ (by kernel_rfl) (by kernel_rfl) | refine RS.skip ?_ | refine RS.inBlock ?_ | refine RS.block ?_ | refine RS.exit ?_)); refine mvI ?_; refine neI ?_; refine mvB ?_; refine LS.on ?_; refine ldA [_, _] ?_; refine LS.on ?_; refine mvP ?_; refine LS.on ?_; refine nilck ?_; refine LS.on ?_; refine fld ?_; refine LS.on ?_; refine ld1 (v := .slice _ _ _) ?_; refine LS.on ?_; refine mvI ?_; refine LS.on ?_; refine idx (i := i) ?_; refine LS.on ?_; refine fld ?_; refine LS.on ?_; refine ldWA (b := bN) (off := 0 + i * 6 + 1) (s := 2) (vs := [.int .i64 n.cpu, .int .i64 n.mem]) rfl (fun w' hw => (hnc _ w' (hw.weak fun F h => h.tail.tail)).2) ?_; refine LS.on ?_
            refine callP ?_ (hc := fun w' _ => rfits1_c _ _ _ _ w')
            refine LS.on ?_; refine not_ ?_; refine pk (v := .bool _) ?_; refine LS.done ?_
            (repeat (first | refine RS.seq ?_ | refine RS.region ?_ | refine RS.regionQ ?_ (by kernel_rfl) (by kernel_rfl) | refine RS.skip ?_ | refine RS.inBlock ?_ | refine RS.block ?_ | refine RS.exit ?_))
            refine RS.cond (fun x => ?_) (fun x => ?_)
            · have x' : fitsB (usedC S.taken n.name + needC n.name (ps.take k) + p.cpu) (usedM S.taken n.name + needM n.name (ps.take k) + p.mem) n.cpu n.mem = false := by simpa using x
              have et := take_six z1 z2 hw0 hlk (by rw [hrA, ← Int.add_assoc, ← Int.add_assoc]; exact x')
              (repeat (first | refine RS.seq ?_ | refine RS.region ?_ | refine RS.regionQ ?_ (by kernel_rfl) (by kernel_rfl) | refine RS.skip ?_ | refine RS.inBlock ?_ | refine RS.block ?_ | refine RS.exit ?_)); refine asI ?_; refine LS.done ?_; (repeat (first | refine RS.seq ?_ | refine RS.region ?_ | refine RS.regionQ ?_ (by kernel_rfl) (by kernel_rfl) | refine RS.skip ?_ | refine RS.inBlock ?_ | refine RS.block ?_ | refine RS.exit ?_)); refine RS.ret1 (v := .int _ _) Tryd.func27 fun w hw => ?_
              exact ⟨by rw [et], hcl _ _ (PH.le_trans hle02 hle3) (hw.weak fun F h => h.tail.tail) _ et (by decide)⟩
            have x' : fitsB (usedC S.taken n.name + needC n.name (ps.take k) + p.cpu) (usedM S.taken n.name + needM n.name (ps.take k) + p.mem) n.cpu n.mem = true := by simpa using x
            have hft := of_decide_eq_true x'
            (repeat (first | refine RS.seq ?_ | refine RS.region ?_ | refine RS.regionQ ?_ (by kernel_rfl) (by kernel_rfl) | refine RS.skip ?_ | refine RS.inBlock ?_ | refine RS.block ?_ | refine RS.exit ?_)); refine ldA [_, _] ?_; refine st (.agg _) _ ?_; refine LS.done ?_
            (repeat (first | refine RS.seq ?_ | refine RS.region ?_ | refine RS.regionQ ?_ (by kernel_rfl) (by kernel_rfl) | refine RS.skip ?_ | refine RS.inBlock ?_ | refine RS.block ?_ | refine RS.exit ?_)); refine mvI ?_; (first | refine addN ?_ | refine addI ?_); refine asI ?_; refine LS.done ?_; (repeat (first | refine RS.seq ?_ | refine RS.region ?_ | refine RS.regionQ ?_ (by kernel_rfl) (by kernel_rfl) | refine RS.skip ?_ | refine RS.inBlock ?_ | refine RS.block ?_ | refine RS.exit ?_))
            refine ihk (k + 1, σ1) ⟨hlk, PH.le_trans hle2 hle3, fun j hj hjk hjn => ?_, by dsimp only; rw [nC]; omega, by dsimp only; rw [nM]; omega⟩ (by (try dsimp only); omega) ⟨rfl, rfl, trivial⟩ (by repeat (first | with_reducible exact Out.refl _ _ _ | exact Out.hv | refine Out.upd ?_ | refine Out.hvIn ?_)) ⟨fun h => ?_⟩ rfl
            · by_cases hjk' : j = k
              · subst hjk'; rw [hrA, ← Int.add_assoc, ← Int.add_assoc]; exact x'
              · exact hok j hj (by (try dsimp only at hjk); omega) hjn
            · dsimp only; rw [nC, nM, ← Int.add_assoc, ← Int.add_assoc]; exact h.tail
      · refine RS.condF ?_ (h := by simp; omega)
        obtain rfl : k = ps.length := by omega
        (repeat (first | refine RS.seq ?_ | refine RS.region ?_ | refine RS.regionQ ?_ (by kernel_rfl) (by kernel_rfl) | refine RS.skip ?_ | refine RS.inBlock ?_ | refine RS.block ?_ | refine RS.exit ?_)); refine mvI ?_; (first | refine addN ?_ | refine addI ?_); refine asI ?_; refine LS.done ?_; (repeat (first | refine RS.seq ?_ | refine RS.region ?_ | refine RS.regionQ ?_ (by kernel_rfl) (by kernel_rfl) | refine RS.skip ?_ | refine RS.inBlock ?_ | refine RS.block ?_ | refine RS.exit ?_))
        refine ih (i + 1, σ2) ⟨hlt, hle02, fun i' hi' hii j hj hjn => ?_⟩ (by (try dsimp only); omega) ⟨rfl, trivial⟩ (by repeat (first | with_reducible exact Out.refl _ _ _ | exact Out.hv | refine Out.upd ?_ | refine Out.hvIn ?_)) ⟨fun h => h.tail⟩ rfl
        by_cases e : i' = i
        · subst e; exact hok j hj hj (by rw [hn]; exact hjn)
        · exact hroom i' hi' (by (try dsimp only at hii); omega) j hj hjn
    · refine RS.condF ?_ (h := by simp; omega)
      obtain rfl : i = N.length := by omega
      have hall : ∀ k, k < ps.length → roomAt S ps k = true := fun k hk => by
        obtain ⟨⟨n, hn⟩, _⟩ := wrong_zero (hall0 ps[k] (List.getElem_mem hk))
        rcases opt_cases (posN N ps[k].node) with h | ⟨i, h⟩
        · rw [hN] at h; rw [(posN_none hi.nodes).1 h] at hn; cases hn
        · obtain ⟨h1, h2⟩ := posN_some h
          exact hroom i h1 h1 k hk h2.symm
      have et : takeE S g ps = 0 := by rw [takeE, if_neg z1, if_neg z2, if_neg (by simp [hw0]), if_pos (roomAll_of hall)]
      refine RS.exit ?_
      (repeat (first | refine RS.seq ?_ | refine RS.region ?_ | refine RS.skip ?_ | refine RS.inBlock ?_ | refine RS.block ?_ | refine RS.exit ?_)); refine RS.draw [.free, .free, .free, .free, .ex, .free, .ex, .free, .ex, .ex, .ex, .eff, .free, .free, .st] [blk br (.cells (List.toArray [.slice aN N.length cN, vH]) 72 (0, 0))] ?_ (by kernel_rfl) (by kernel_rfl) (by infer_instance); refine D.mvP ?_; refine D.mvP ?_; refine D.nilck ?_; refine D.fld ?_; refine D.ld1 (v := vH) ?_; refine D.mvI ?_; refine D.lit0 ?_; refine D.mvL ?_; refine D.appF 116 ps (vy := fun _ => .slice (some ⟨bv, ov, none⟩) ps.length cv) ?_ (fun us σ' hle hf => ⟨hf.1, hrs.mono (PH.le_trans hle1 hle)⟩); refine D.bldX (β := Int × List PlaceD) (g, ps) (fun us => [(0, .int .i64 g), (1, us 118)]) ?_ (fun us σ' hle hf => ?_)
      rotate_left
      · have hq : RepL σ' (us 118) ps := hf.1
        obtain ⟨a, c, e⟩ := hq.form
        exact ⟨[.int .i64 g, us 118], by rw [e]; rfl, us 118, rfl, hg, hq⟩
      refine D.litT (vs := fun us => [us 119]) 0 [(g, ps)] ?_ (fun us σ' hle hf => ?_)
      rotate_left
      · have hq : RepA σ' (us 119) (g, ps) := hf.1
        rw [fromN_zero]
        exact ⟨hq.cv, trivial⟩
      refine D.appD (vy := fun us => us 120) vH [(g, ps)] ?_ (fun us σ' hle hf => ⟨_, hf.1, PH.le_refl _⟩); refine D.nilck ?_; refine D.fld ?_
      refine D.stU 121 (fun us => [.slice aN N.length cN, us 121]) ?_
      refine D.done (fun us σ2 hle2 hfs => ?_)
      refine RS.ow ?_
      (repeat (first | refine RS.seq ?_ | refine RS.region ?_ | refine RS.regionQ ?_ (by kernel_rfl) (by kernel_rfl) | refine RS.skip ?_ | refine RS.inBlock ?_ | refine RS.block ?_ | refine RS.exit ?_)); refine asI ?_; refine LS.done ?_; (repeat (first | refine RS.seq ?_ | refine RS.region ?_ | refine RS.regionQ ?_ (by kernel_rfl) (by kernel_rfl) | refine RS.skip ?_ | refine RS.inBlock ?_ | refine RS.block ?_ | refine RS.exit ?_)); refine RS.ret1 (v := .int _ _) Tryd.func27 fun w hw => ?_
      refine ⟨by rw [et], σ2, PH.le_trans hle1 hle2, closeRef (vN := .slice aN N.length cN) (vH := us 121) (N := N) (H := S.taken ++ [(g, ps)]) hN ?_ hw⟩
      rw [takeT, if_pos et, aset_end (posH_none hk)]
end
end Go.Proofs.YthnoaapghcadgaaDoor
/- The document's ledger as one assertion, its operations as rules; two ledgers that have the same. -/
namespace Go.Proofs.YthnoaapghcadgaaDoor
open Go.JW Go.RowKit
class FindX (br : Nat) (K : List HP) (S : outParam LedD) (put : outParam (HP → List HP)) (K' : outParam (List HP)) : Prop where
  get : ∀ {g : VH} {F : Nat → Prop}, SepIn g K F → SepIn g (refHP br S :: K') F
  set : ∀ {A : HP} {g : VH} {F : Nat → Prop}, SepIn g (A :: K') F → SepIn g (put A) F
instance FindX.tail {br : Nat} {K : List HP} {S : LedD} {put : HP → List HP} {K' : List HP} {B : HP} [i : FindX br K S put K'] : FindX br (B :: K) S (fun A => B :: put A) (B :: K') where
  get h := SepIn.swap (SepIn.cons_sub (fun _ => i.get) h)
  set h := SepIn.cons_sub (fun _ => i.set) (SepIn.swap h)
instance FindX.head {br : Nat} {K : List HP} {S : LedD} : FindX br (refHP br S :: K) S (fun A => A :: K) K where
  get h := h
  set h := h
theorem takeT_len (S : LedD) (g : Int) (ps : List PlaceD) : (takeT S g ps).length ≤ S.taken.length + 1 := by
  have h : ∀ l : List (Int × List PlaceD), (aset l g ps).length ≤ l.length + 1 := by
    intro l
    induction l with
    | nil => simp [aset]
    | cons p l ih =>
      simp only [aset]
      cases KeyT.eqb g p.1 with
      | true => simp
      | false => simpa using ih
  unfold takeT
  split
  · exact h _
  · omega
theorem giveT_len (t : List (Int × List PlaceD)) (g : Int) : (giveT t g).length ≤ t.length := by
  have h : ∀ l : List (Int × List PlaceD), (adel l g).length ≤ l.length := by
    intro l
    induction l with
    | nil => simp [adel]
    | cons p l ih =>
      simp only [adel]
      cases KeyT.eqb g p.1 with
      | true => simp
      | false => simpa using ih
  unfold giveT
  split
  · omega
  · exact h _
section
variable {q : Bool} {ops : Array Oper} {f : FuncId} {R : Ending → World → Prop} {k : List Item} {n : Nat} {fr : Nat → Value} {w0 : World} {M : Nat → Prop} {σ : PH} {K K' : List HP}
variable {rest : List Oper} {d : Nat} {ty : TypeId} {pos : String} {aft : Array Edge} {xs : Array Operand} {ts : Array TypeId} {br : Nat} {S : LedD} {put : HP → List HP}
theorem callR {P : Program} {g : FuncId} {args : List Value} {v : Value} {S' : LedD} [i : Fun P g] (hf : FindX br K S put K')
    (h : ∀ σ', PH.le σ σ' → LS P false ops f R k rest n (upd fr d v) w0 M σ' (put (refHP br S')))
    (hc : ∀ w, Sat w0 M σ (refHP br S :: K') w → Calls P g args.toArray w fun e w' => e = .returned v ∧ ∃ σ', PH.le σ σ' ∧ Sat w0 M σ' (refHP br S' :: K') w') (hx : xs.toList.map (ev n fr) = args) :
    LS P false ops f R k (⟨some d, .call ⟨.value (.func g), xs, ts⟩, ty, pos, aft, none⟩ :: rest) n fr w0 M σ K :=
  LS.enterW rfl rfl (fun w _ => exec_call i.eq hx w) fun w hw => (hc w (hw.weak fun _ => hf.get)).mono fun _ _ ⟨he, σ', hle, hs⟩ => ⟨v, σ', _, he, hs.weak fun _ => hf.set, h σ' hle⟩
theorem rputL (nd : NodeD) (am at_ : Option Addr) (cm ct : Nat) {kk : Nat} (hi : LedInv S kk) (hk : kk ≤ 1000000) (hl : S.taken.length ≤ 1000) (hr : ArgAt σ K' (nodeC nd (.slice am nd.marks.length cm) (.slice at_ nd.taints.length ct)) nd)
    (h : ∀ σ', PH.le σ σ' → LS Tryd.prog false ops f R k rest n (upd fr d (.int .i64 (putE S nd))) w0 M σ' (put (refHP br ⟨putN S nd, S.taken⟩)))
    (hx : xs.toList.map (ev n fr) = [.pointer (some ⟨br, 0, none⟩), .agg (List.toArray (nodeC nd (.slice am nd.marks.length cm) (.slice at_ nd.taints.length ct)))] := by rfl) (hf : FindX br K S put K' := by infer_instance) :
    LS Tryd.prog false ops f R k (⟨some d, .call ⟨.value (.func 25), xs, ts⟩, ty, pos, aft, none⟩ :: rest) n fr w0 M σ K :=
  callR hf h (fun _ hw => rput_c nd am at_ cm ct hr hi hk hl hw) hx
theorem rtakeL (g : Int) (hg : I64 g) (v : Value) (ps : List PlaceD) {kk : Nat} (hi : LedInv S kk) (hk : kk ≤ 1000000) (hl : S.taken.length ≤ 1000) (hlp : ps.length ≤ 1000) (hr : RepL σ v ps)
    (h : ∀ σ', PH.le σ σ' → LS Tryd.prog false ops f R k rest n (upd fr d (.int .i64 (takeE S g ps))) w0 M σ' (put (refHP br ⟨S.nodes, takeT S g ps⟩)))
    (hx : xs.toList.map (ev n fr) = [.pointer (some ⟨br, 0, none⟩), .int .i64 g, v] := by rfl) (hf : FindX br K S put K' := by infer_instance) :
    LS Tryd.prog false ops f R k (⟨some d, .call ⟨.value (.func 27), xs, ts⟩, ty, pos, aft, none⟩ :: rest) n fr w0 M σ K :=
  callR hf h (fun _ hw => rtake_c g hg v ps hr hlp hi hk hl hw) hx
theorem rusedL (nm : ByteArray) {kk : Nat} (hi : LedInv S kk) (hk : kk ≤ 1000000) (hl : S.taken.length ≤ 1000)
    (h : LS Tryd.prog false ops f R k rest n (upd fr d (.tuple #[.agg (List.toArray [.int .i64 (usedC S.taken nm), .int .i64 (usedM S.taken nm)]), .int .i64 (usedN S.taken nm)])) w0 M σ (put (refHP br S)))
    (hx : xs.toList.map (ev n fr) = [.pointer (some ⟨br, 0, none⟩), .string nm] := by rfl) (hf : FindX br K S put K' := by infer_instance) :
    LS Tryd.prog false ops f R k (⟨some d, .call ⟨.value (.func 47), xs, ts⟩, ty, pos, aft, none⟩ :: rest) n fr w0 M σ K :=
  ⟨fun w hw => by
    obtain ⟨vN, vH, hw'⟩ := openRef (hw.weak fun _ => hf.get)
    have h8 := hi.nodes_len
    exact (callS (P := Tryd.prog) (q := false) (K := RK br vN vH (nodesOf S) S.taken ++ K') (⟨fun w hw => h.out w ((closeRef rfl rfl hw).weak fun _ => hf.set)⟩)
      (fun w' hw => by obtain ⟨f1, _, f3⟩ := RK.facts hw (by omega) (by omega); exact (rused_c br vN vH S.taken nm (hi.takenOk hk) w' f1 f3).mono fun _ _ ⟨he, hbl⟩ => ⟨he, hw.ext hbl⟩) hx).out w hw'⟩
end
end Go.Proofs.YthnoaapghcadgaaDoor
