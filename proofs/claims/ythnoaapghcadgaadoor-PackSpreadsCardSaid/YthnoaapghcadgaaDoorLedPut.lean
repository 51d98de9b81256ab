/- Contracts: a new ledger; a node is put. -/
import Derived.Test.YthnoaapghcadgaaDoorLedNodes
namespace Go.JW
/-- An argument that reads as x at whatever world there is where the call is made. -/
def ArgAt {α : Type} [Rep α] (σ : PH) (K : List HP) (cs : List Value) (x : α) : Prop := ∀ w σ', PH.le σ σ' → PH.le σ' (hp w) → (∃ F, SepIn ⟨σ', hp w⟩ K F) → Rep.rep (hp w) cs x
theorem ArgAt.of {α : Type} [Rep α] {σ : PH} {K : List HP} {cs : List Value} {x : α} (h : Rep.rep σ cs x) : ArgAt σ K cs x := fun _ _ h1 h2 _ => Rep.mono h (PH.le_trans h1 h2)
end Go.JW
namespace Go.Proofs.YthnoaapghcadgaaDoor
open Go.JW Go.RowKit
section
variable {w0 : World} {M : Nat → Prop} {σ : PH} {K : List HP} {bl b1 b2 c1 c2 : Nat} {es1 es2 : Array MapEntry} {S : LedD}
theorem new_c (w : World) (hw : Sat w0 M σ K w) : Calls Tryd.prog 9 #[] w fun e w' => ∃ x : Nat × Nat × Nat, e = .returned (.pointer (some ⟨x.1, 0, none⟩)) ∧ Sat w0 M σ (LK x.1 x.2.1 x.2.2 #[] 0 #[] 0 ++ K) w' := by
  refine RS.enterK Tryd.func9 Tryd.ntmps9 rfl rfl hw ?_
  (repeat (first | refine RS.seq ?_ | refine RS.region ?_ | refine RS.regionQ ?_ (by kernel_rfl) (by kernel_rfl) | refine RS.skip ?_ | refine RS.inBlock ?_ | refine RS.block ?_ | refine RS.exit ?_)); refine asP ?_; refine LS.done ?_
  (repeat (first | refine RS.seq ?_ | refine RS.region ?_ | refine RS.regionQ ?_ (by kernel_rfl) (by kernel_rfl) | refine RS.skip ?_ | refine RS.inBlock ?_ | refine RS.block ?_ | refine RS.exit ?_)); refine mkM (fun b1 => ?_); refine mkM (fun b2 => ?_); refine bld (vals := [(0, .map (some b1)), (1, .map (some b2))]) [.map (some b1), .map (some b2)] ?_; refine box_ (v := .agg (List.toArray [.map (some b1), .map (some b2)])) (cs := [.map (some b1), .map (some b2)]) (fun b4 => ?_); refine asP ?_; refine LS.done ?_
  (repeat (first | refine RS.seq ?_ | refine RS.region ?_ | refine RS.regionQ ?_ (by kernel_rfl) (by kernel_rfl) | refine RS.skip ?_ | refine RS.inBlock ?_ | refine RS.block ?_ | refine RS.exit ?_)); refine RS.ret1 (v := .pointer _) Tryd.func9 fun w hw => ?_
  exact ⟨(b4, b1, b2), rfl, hw.to ⟨fun h => SepIn.cons_sub (fun _ h => h.swap) h⟩⟩
theorem used_b {w : World} (nm : ByteArray) (h2 : MapOk σ es2 c2 S.taken) (hok : TakenOk S.taken) (hw : Sat w0 M σ (LK bl b1 b2 es1 c1 es2 c2 ++ K) w) :
    Calls Tryd.prog 18 #[.pointer (some ⟨bl, 0, none⟩), .string nm] w fun e w' => e = .returned (.agg (List.toArray [.int .i64 (usedC S.taken nm), .int .i64 (usedM S.taken nm), .int .i64 (usedN S.taken nm)])) ∧ Below w.heap.size w w' :=
  Calls.ofState [(bl, .cells (List.toArray [.map (some b1), .map (some b2)]) 55 (0, 0)), (b1, .map es1 c1), (b2, .map es2 c2)] hw (fun _ h => h) fun _ _ hle hs =>
    (used_c (K := []) nm (h2.mono hle) hok w hs).mono fun _ _ h => ⟨h.1, _, h.2⟩
def putE (S : LedD) (n : NodeD) : Int :=
  if nodeErr n ≠ 0 then nodeErr n else if (asg S.nodes n.name).isSome = true then (if fitsB (usedC S.taken n.name) (usedM S.taken n.name) n.cpu n.mem = true then 0 else 6) else if 8 ≤ S.nodes.length then 3 else 0
def putN (S : LedD) (n : NodeD) : List (ByteArray × NodeD) := if putE S n = 0 then aset S.nodes n.name n else S.nodes
theorem put_c (n : NodeD) (am at_ : Option Addr) (cm ct : Nat) (hr : ArgAt σ K (nodeC n (.slice am n.marks.length cm) (.slice at_ n.taints.length ct)) n) (h1 : MapOk σ es1 c1 S.nodes) (h2 : MapOk σ es2 c2 S.taken) (hok : TakenOk S.taken) (w : World) (hw : Sat w0 M σ (LK bl b1 b2 es1 c1 es2 c2 ++ K) w) :
    Calls Tryd.prog 11 #[.pointer (some ⟨bl, 0, none⟩), .agg (List.toArray (nodeC n (.slice am n.marks.length cm) (.slice at_ n.taints.length ct)))] w fun e w' => ∃ x : PH × Array MapEntry × Nat, e = .returned (.int .i64 (putE S n)) ∧ Sat w0 M x.1 (LK bl b1 b2 x.2.1 x.2.2 es2 c2 ++ K) w' ∧ PH.le σ x.1 ∧ MapOk x.1 x.2.1 x.2.2 (putN S n) := by
  obtain ⟨vs, vm, vt, v1, v2, vz, hv, ⟨a1, d1, rfl⟩, ⟨a2, d2, rfl⟩, hrn⟩ := look_n h1 n.name
  have hsz := h1.size
  refine RS.enterK Tryd.func11 Tryd.ntmps11 rfl rfl hw ?_
  refine RS.to (K' := blk bl (.cells (List.toArray [.map (some b1), .map (some b2)]) 55 (0, 0)) :: blk b1 (.map es1 c1) :: blk b2 (.map es2 c2) :: K) ?_ ⟨fun h => h⟩
  (repeat (first | refine RS.seq ?_ | refine RS.region ?_ | refine RS.regionQ ?_ (by kernel_rfl) (by kernel_rfl) | refine RS.skip ?_ | refine RS.inBlock ?_ | refine RS.block ?_ | refine RS.exit ?_)); refine box_ (v := .agg _) (cs := [_, _, _, _, _, _]) (fun b3 => ?_); refine asI ?_; refine LS.done ?_
  (repeat (first | refine RS.seq ?_ | refine RS.region ?_ | refine RS.regionQ ?_ (by kernel_rfl) (by kernel_rfl) | refine RS.skip ?_ | refine RS.inBlock ?_ | refine RS.block ?_ | refine RS.exit ?_)); refine ldA [_, _, _, _, _, _] ?_
  refine callP ?_ (hc := fun w' hw => node_c _ n w' (hr w' _ (PH.le_refl _) hw.imm ⟨_, hw.sep.tail.tail.tail.tail⟩))
  refine asI ?_; refine LS.done ?_
  (repeat (first | refine RS.seq ?_ | refine RS.region ?_ | refine RS.regionQ ?_ (by kernel_rfl) (by kernel_rfl) | refine RS.skip ?_ | refine RS.inBlock ?_ | refine RS.block ?_ | refine RS.exit ?_)); refine mvI ?_; refine neI ?_; refine LS.done ?_
  (repeat (first | refine RS.seq ?_ | refine RS.region ?_ | refine RS.regionQ ?_ (by kernel_rfl) (by kernel_rfl) | refine RS.skip ?_ | refine RS.inBlock ?_ | refine RS.block ?_ | refine RS.exit ?_))
  refine RS.cond (fun z => ?_) (fun z => ?_)
  · have z' : nodeErr n ≠ 0 := by simpa using z
    have e : putE S n = nodeErr n := by rw [putE, if_pos z']
    (repeat (first | refine RS.seq ?_ | refine RS.region ?_ | refine RS.regionQ ?_ (by kernel_rfl) (by kernel_rfl) | refine RS.skip ?_ | refine RS.inBlock ?_ | refine RS.block ?_ | refine RS.exit ?_)); refine mvI ?_; refine asI ?_; refine LS.done ?_; (repeat (first | refine RS.seq ?_ | refine RS.region ?_ | refine RS.regionQ ?_ (by kernel_rfl) (by kernel_rfl) | refine RS.skip ?_ | refine RS.inBlock ?_ | refine RS.block ?_ | refine RS.exit ?_)); refine RS.ret1 (v := .int _ _) Tryd.func11 fun w hw => ?_
    exact ⟨(σ, es1, c1), by rw [e], hw.weak fun F h => h.tail, PH.le_refl _, by rw [putN, if_neg (by rw [e]; exact z')]; exact h1⟩
  have z' : nodeErr n = 0 := by simpa using z
  have hr64 : I64 n.cpu ∧ I64 n.mem := by
    have := fine_cap z'
    omega
  cases hz : (asg S.nodes n.name).isSome with
  | true =>
    rw [hz] at hv
    (repeat (first | refine RS.seq ?_ | refine RS.region ?_ | refine RS.skip ?_ | refine RS.inBlock ?_ | refine RS.block ?_ | refine RS.exit ?_)); refine RS.drawK [.free, .free, .free, .ex, .free, .ex, .ex, .free, .free, .free, .own, .st, .free] ?_ (by kernel_rfl) (by kernel_rfl); refine D.mvP ?_; refine D.nilck ?_; refine D.fld ?_; refine D.ld1 (v := .map _) ?_; refine D.fld ?_; refine D.ld1 (v := .string _) ?_; refine D.lkOk (bm := b1) n.name h1 ?_; rw [hv]; refine D.mvT ?_; refine D.extr (v := _) ?_; refine D.extr (v := .bool _) ?_; refine D.alloc_ ?_
    refine D.stO (fun _ => [.string vs, .int .i64 vm, .int .i64 vt, .slice a1 d1.1 d1.2, .slice a2 d2.1 d2.2, .bool vz]) ?_ (fun _ _ _ _ => ⟨rfl, rfl, rfl⟩)
    refine D.asB ?_; refine D.done (fun us σ1 hle1 hfs => ?_)
    refine RS.openOwn (fun b6 h6 => ?_)
    have hleA : PH.le σ σ1 := hle1
    (repeat (first | refine RS.seq ?_ | refine RS.region ?_ | refine RS.skip ?_ | refine RS.inBlock ?_ | refine RS.block ?_ | refine RS.exit ?_)); refine RS.drawG [(25, some true)] [.free, .free, .free, .free, .ex, .ex, .free, .free, .ex, .ex, .free, .free, .free] _ ?_ (by kernel_rfl) (by kernel_rfl) (by kernel_rfl) ⟨fun h => h⟩; simp only [ers, ersO, onOff, glook, nthO, List.map_cons, List.map_nil, Option.bind_some, Option.map_some, Nat.beq, cond_true, cond_false, BEq.beq]; refine D.mvB ?_; refine D.mvB ?_; refine D.mvP ?_; refine D.fld ?_; refine D.ld1 (v := .string _) ?_
    refine D.callP ?_ (hc := fun _ _ w' hle _ hw => used_b n.name (h2.mono (PH.le_trans hle1 hle)) hok (hw.weak fun _ h => h.tail.tail))
    refine D.fieldA [_, _] ?_; refine D.fld ?_; refine D.ldA [_, _] ?_
    refine D.callP ?_ (hc := fun _ _ w' _ _ _ => fits_c _ _ _ _ w')
    refine D.not_ ?_; refine D.pk (v := .bool _) ?_; refine D.asB ?_; refine D.doneG [(25, some true)] ⟨⟨rfl, rfl⟩, trivial⟩ (fun us σ1 hle1 hfs => ?_)
    refine RS.ow ?_
    have hleB : PH.le σ σ1 := PH.le_trans hleA hle1
    (repeat (first | refine RS.seq ?_ | refine RS.region ?_ | refine RS.regionQ ?_ (by kernel_rfl) (by kernel_rfl) | refine RS.skip ?_ | refine RS.inBlock ?_ | refine RS.block ?_ | refine RS.exit ?_))
    refine RS.cond (fun y => ?_) (fun y => ?_)
    · have y' : fitsB (usedC S.taken n.name) (usedM S.taken n.name) n.cpu n.mem = false := by simpa using y
      have e : putE S n = 6 := by rw [putE, if_neg (by simp [z']), if_pos hz, if_neg (by rw [y']; simp)]
      (repeat (first | refine RS.seq ?_ | refine RS.region ?_ | refine RS.regionQ ?_ (by kernel_rfl) (by kernel_rfl) | refine RS.skip ?_ | refine RS.inBlock ?_ | refine RS.block ?_ | refine RS.exit ?_)); refine asI ?_; refine LS.done ?_; (repeat (first | refine RS.seq ?_ | refine RS.region ?_ | refine RS.regionQ ?_ (by kernel_rfl) (by kernel_rfl) | refine RS.skip ?_ | refine RS.inBlock ?_ | refine RS.block ?_ | refine RS.exit ?_)); refine RS.ret1 (v := .int _ _) Tryd.func11 fun w hw => ?_
      exact ⟨(_, es1, c1), by rw [e], hw.weak fun F h => h.tail.tail, hleB, by rw [putN, if_neg (by rw [e]; decide)]; exact h1.mono hleB⟩
    · have y' : fitsB (usedC S.taken n.name) (usedM S.taken n.name) n.cpu n.mem = true := by simpa using y
      have e : putE S n = 0 := by rw [putE, if_neg (by simp [z']), if_pos hz, if_pos y']
      (repeat (first | refine RS.seq ?_ | refine RS.region ?_ | refine RS.regionQ ?_ (by kernel_rfl) (by kernel_rfl) | refine RS.skip ?_ | refine RS.inBlock ?_ | refine RS.block ?_ | refine RS.exit ?_)); refine mvB ?_; refine not_ ?_; refine mvB ?_; refine LS.off ?_; refine LS.off ?_; refine LS.off ?_; refine LS.off ?_; refine LS.off ?_; refine LS.off ?_; refine pk (v := .bool _) ?_; refine asB ?_; refine LS.done ?_
      (repeat (first | refine RS.seq ?_ | refine RS.region ?_ | refine RS.regionQ ?_ (by kernel_rfl) (by kernel_rfl) | refine RS.skip ?_ | refine RS.inBlock ?_ | refine RS.block ?_ | refine RS.exit ?_)); refine RS.condF ?_
      (repeat (first | refine RS.seq ?_ | refine RS.region ?_ | refine RS.skip ?_ | refine RS.inBlock ?_ | refine RS.block ?_ | refine RS.exit ?_)); refine RS.drawK [.free, .free, .free, .ex, .free, .ex, .ex, .ex, .st] ?_ (by kernel_rfl) (by kernel_rfl); refine D.mvP ?_; refine D.nilck ?_; refine D.fld ?_; refine D.ld1 (v := .map _) ?_; refine D.fld ?_; refine D.ld1 (v := .string _) ?_; refine D.ldA [_, _, _, _, _, _] ?_
      refine D.callN (fun v τ => RepA τ v n) ?_ (hc := fun _ _ w' hle _ hw => nown_c _ n w' (hr w' _ (PH.le_trans hleB hle) hw.imm ⟨_, hw.sep.tail.tail.tail.tail.tail⟩) (fine_small z'))
      refine D.mupd (bm := b1) n.name (fun us => us 54) (h1.mono hleB) ?_
      refine D.done (fun us σ3 hle3 hfs => ?_)
      obtain ⟨⟨τ, ⟨cs9, hcs9, hr9⟩, hτ9, _⟩, _⟩ := hfs
      simp only [hcs9]
      have hm := (h1.mono (PH.le_trans hleB hle3)).upd n.name (Rep.mono hr9 hτ9)
      (repeat (first | refine RS.seq ?_ | refine RS.region ?_ | refine RS.regionQ ?_ (by kernel_rfl) (by kernel_rfl) | refine RS.skip ?_ | refine RS.inBlock ?_ | refine RS.block ?_ | refine RS.exit ?_)); refine asI ?_; refine LS.done ?_; (repeat (first | refine RS.seq ?_ | refine RS.region ?_ | refine RS.regionQ ?_ (by kernel_rfl) (by kernel_rfl) | refine RS.skip ?_ | refine RS.inBlock ?_ | refine RS.block ?_ | refine RS.exit ?_)); refine RS.ret1 (v := .int _ _) Tryd.func11 fun w hw => ?_
      exact ⟨(σ3, _, _), by rw [e], hw.weak fun F h => h.tail.tail, PH.le_trans hleB hle3, by rw [putN, if_pos e]; exact hm⟩
  | false =>
    rw [hz] at hv
    (repeat (first | refine RS.seq ?_ | refine RS.region ?_ | refine RS.skip ?_ | refine RS.inBlock ?_ | refine RS.block ?_ | refine RS.exit ?_)); refine RS.drawK [.free, .free, .free, .ex, .free, .ex, .ex, .free, .free, .free, .own, .st, .free] ?_ (by kernel_rfl) (by kernel_rfl); refine D.mvP ?_; refine D.nilck ?_; refine D.fld ?_; refine D.ld1 (v := .map _) ?_; refine D.fld ?_; refine D.ld1 (v := .string _) ?_; refine D.lkOk (bm := b1) n.name h1 ?_; rw [hv]; refine D.mvT ?_; refine D.extr (v := _) ?_; refine D.extr (v := .bool _) ?_; refine D.alloc_ ?_
    refine D.stO (fun _ => [.string vs, .int .i64 vm, .int .i64 vt, .slice a1 d1.1 d1.2, .slice a2 d2.1 d2.2, .bool vz]) ?_ (fun _ _ _ _ => ⟨rfl, rfl, rfl⟩)
    refine D.asB ?_; refine D.done (fun us σ1 hle1 hfs => ?_)
    refine RS.openOwn (fun b6 h6 => ?_)
    have hleA : PH.le σ σ1 := hle1
    (repeat (first | refine RS.seq ?_ | refine RS.region ?_ | refine RS.skip ?_ | refine RS.inBlock ?_ | refine RS.block ?_ | refine RS.exit ?_)); refine RS.drawG [(25, some false)] [.free, .free, .free, .free, .free, .free, .free, .free, .free, .free, .free, .free, .free] _ ?_ (by kernel_rfl) (by kernel_rfl) (by kernel_rfl) ⟨fun h => h⟩; simp only [ers, ersO, onOff, glook, nthO, List.map_cons, List.map_nil, Option.bind_some, Option.map_some, Nat.beq, cond_true, cond_false, BEq.beq]; refine D.mvB ?_; refine D.mvB ?_; refine D.as_ (v := undef) ?_; refine D.as_ (v := undef) ?_; refine D.as_ (v := undef) ?_; refine D.as_ (v := undef) ?_; refine D.as_ (v := undef) ?_; refine D.as_ (v := undef) ?_; refine D.as_ (v := undef) ?_; refine D.as_ (v := undef) ?_; refine D.as_ (v := undef) ?_; refine D.pk (v := .bool _) ?_; refine D.asB ?_; refine D.doneG [(25, some false)] ⟨⟨rfl, rfl⟩, trivial⟩ (fun us σ1 hle1 hfs => ?_)
    refine RS.ow ?_
    have hleB : PH.le σ σ1 := PH.le_trans hleA hle1
    (repeat (first | refine RS.seq ?_ | refine RS.region ?_ | refine RS.regionQ ?_ (by kernel_rfl) (by kernel_rfl) | refine RS.skip ?_ | refine RS.inBlock ?_ | refine RS.block ?_ | refine RS.exit ?_)); refine RS.condF ?_
    (repeat (first | refine RS.seq ?_ | refine RS.region ?_ | refine RS.regionQ ?_ (by kernel_rfl) (by kernel_rfl) | refine RS.skip ?_ | refine RS.inBlock ?_ | refine RS.block ?_ | refine RS.exit ?_)); refine mvB ?_; refine not_ ?_; refine mvB ?_; refine LS.on ?_; refine mvP ?_; refine LS.on ?_; refine nilck ?_; refine LS.on ?_; refine fld ?_; refine LS.on ?_; refine ld1 (v := .map _) ?_; refine LS.on ?_; refine lenM ?_; refine LS.on ?_; refine geI ?_; refine pk (v := .bool _) ?_; refine asB ?_; refine LS.done ?_
    (repeat (first | refine RS.seq ?_ | refine RS.region ?_ | refine RS.regionQ ?_ (by kernel_rfl) (by kernel_rfl) | refine RS.skip ?_ | refine RS.inBlock ?_ | refine RS.block ?_ | refine RS.exit ?_))
    refine RS.cond (fun y => ?_) (fun y => ?_)
    · have y' : 8 ≤ S.nodes.length := by simp only [decide_eq_true_eq] at y; omega
      have e : putE S n = 3 := by rw [putE, if_neg (by simp [z']), if_neg (by rw [hz]; simp), if_pos y']
      (repeat (first | refine RS.seq ?_ | refine RS.region ?_ | refine RS.regionQ ?_ (by kernel_rfl) (by kernel_rfl) | refine RS.skip ?_ | refine RS.inBlock ?_ | refine RS.block ?_ | refine RS.exit ?_)); refine asI ?_; refine LS.done ?_; (repeat (first | refine RS.seq ?_ | refine RS.region ?_ | refine RS.regionQ ?_ (by kernel_rfl) (by kernel_rfl) | refine RS.skip ?_ | refine RS.inBlock ?_ | refine RS.block ?_ | refine RS.exit ?_)); refine RS.ret1 (v := .int _ _) Tryd.func11 fun w hw => ?_
      exact ⟨(_, es1, c1), by rw [e], hw.weak fun F h => h.tail.tail, hleB, by rw [putN, if_neg (by rw [e]; decide)]; exact h1.mono hleB⟩
    · have y' : ¬ 8 ≤ S.nodes.length := by simp only [decide_eq_false_iff_not] at y; omega
      have e : putE S n = 0 := by rw [putE, if_neg (by simp [z']), if_neg (by rw [hz]; simp), if_neg y']
      (repeat (first | refine RS.seq ?_ | refine RS.region ?_ | refine RS.skip ?_ | refine RS.inBlock ?_ | refine RS.block ?_ | refine RS.exit ?_)); refine RS.drawK [.free, .free, .free, .ex, .free, .ex, .ex, .ex, .st] ?_ (by kernel_rfl) (by kernel_rfl); refine D.mvP ?_; refine D.nilck ?_; refine D.fld ?_; refine D.ld1 (v := .map _) ?_; refine D.fld ?_; refine D.ld1 (v := .string _) ?_; refine D.ldA [_, _, _, _, _, _] ?_
      refine D.callN (fun v τ => RepA τ v n) ?_ (hc := fun _ _ w' hle _ hw => nown_c _ n w' (hr w' _ (PH.le_trans hleB hle) hw.imm ⟨_, hw.sep.tail.tail.tail.tail.tail⟩) (fine_small z'))
      refine D.mupd (bm := b1) n.name (fun us => us 54) (h1.mono hleB) ?_
      refine D.done (fun us σ3 hle3 hfs => ?_)
      obtain ⟨⟨τ, ⟨cs9, hcs9, hr9⟩, hτ9, _⟩, _⟩ := hfs
      simp only [hcs9]
      have hm := (h1.mono (PH.le_trans hleB hle3)).upd n.name (Rep.mono hr9 hτ9)
      (repeat (first | refine RS.seq ?_ | refine RS.region ?_ | refine RS.regionQ ?_ (by kernel_rfl) (by kernel_rfl) | refine RS.skip ?_ | refine RS.inBlock ?_ | refine RS.block ?_ | refine RS.exit ?_)); refine asI ?_; refine LS.done ?_; (repeat (first | refine RS.seq ?_ | refine RS.region ?_ | refine RS.regionQ ?_ (by kernel_rfl) (by kernel_rfl) | refine RS.skip ?_ | refine RS.inBlock ?_ | refine RS.block ?_ | refine RS.exit ?_)); refine RS.ret1 (v := .int _ _) Tryd.func11 fun w hw => ?_
      exact ⟨(σ3, _, _), by rw [e], hw.weak fun F h => h.tail.tail, PH.le_trans hleB hle3, by rw [putN, if_pos e]; exact hm⟩
end
end Go.Proofs.YthnoaapghcadgaaDoor
