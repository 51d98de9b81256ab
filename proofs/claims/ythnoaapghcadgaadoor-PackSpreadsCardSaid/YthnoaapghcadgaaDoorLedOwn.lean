/- Contracts: a node of its own; places cloned. -/
import Derived.Test.YthnoaapghcadgaaDoorUsed
import Derived.Test.YthnoaapghcadgaaDoorClone
import Derived.Laws.Cover3
namespace Go.Proofs.YthnoaapghcadgaaDoor
open Go.JW Go.RowKit

/-- A slice with nothing in it, as a row. -/
theorem LS.zeroD {P : Program} {ops : Array Oper} {f : FuncId} {R : Ending → World → Prop} {k : List Item} {n : Nat} {fr : Nat → Value} {w0 : World} {M : Nat → Prop} {σ : PH} {K : List HP} {l : List Oper} (N : Nat) (α : Type) [Rep α] (e : Nat) (a : Option Addr)
    (h : LS P false ops f R k l n fr w0 M σ (rowD N e (.slice a 0 0) ([] : List α) :: K)) : LS P false ops f R k l n fr w0 M σ K :=
  ⟨fun w hw => h.out w (hw.weak fun _ hF => ⟨fun _ => False, ⟨[], rfl, by simp, rfl, a, 0, rfl, by simp, by simp, .inl ⟨rfl, rfl⟩⟩, fun _ h => h.elim, hF.mono fun _ hb => ⟨hb, fun h => h⟩⟩)⟩
theorem eqNilL {P : Program} {q : Bool} {ops : Array Oper} {f : FuncId} {R : Ending → World → Prop} {k : List Item} {n : Nat} {fr : Nat → Value} {w0 : World} {M : Nat → Prop} {σ : PH} {K : List HP} {rest : List Oper} {d : Nat} {ty : TypeId} {pos : String} {aft : Array Edge} {x y : Operand} {t t' e : TypeId} {a : Option Addr} {m c : Nat} [ht : TSlice P t e]
    (h : LS P q ops f R k rest n (upd fr d (.bool a.isNone)) w0 M σ K) (hx : ev n fr x = .slice a m c := by rfl) (hy : ev n fr y = .slice none 0 0 := by rfl) :
    LS P q ops f R k (⟨some d, .binOp .eql t x y t', ty, pos, aft, none⟩ :: rest) n fr w0 M σ K :=
  LS.val rfl rfl (fun w _ => by
    have e : (Op.equal t (.slice a m c) (.slice none 0 0)).run P w = .ok a.isNone w := run_equal_slice_nil w t e a m c ht.eq
    simp only [execOp, hx, hy, eqGuard, Sem.run_bind]
    simp [binOp, e]) h
theorem CellsL.places {σ σ' : PH} : ∀ {l : List PlaceD} {cs : List Value}, CellsL σ cs l → CellsL σ' cs l := by
  intro l
  induction l with
  | nil => intro cs h; exact h
  | cons x l ih => rintro cs ⟨c1, c2, rfl, h1, h2⟩; exact ⟨c1, c2, rfl, h1, ih h2⟩
def SmallN (n : NodeD) : Prop := n.marks.length ≤ 1000 ∧ n.taints.length ≤ 1000
theorem nown_c (cs : List Value) (n : NodeD) (w : World) (hr : Rep.rep (hp w) cs n) (hb : SmallN n) : Calls Tryd.prog 19 #[.agg cs.toArray] w fun e w' => ∃ v, e = .returned v ∧ Below w.heap.size w w' ∧ RepA (since w w') v n := by
  obtain ⟨vm, vt, rfl, hn, hc, hm, hm1, ht1⟩ := hr
  obtain ⟨am, cm, rfl⟩ := hm1.form
  obtain ⟨at_, ct, rfl⟩ := ht1.form
  refine RS.enter Tryd.func19 Tryd.ntmps19 rfl rfl ?_
  (repeat (first | refine RS.seq ?_ | refine RS.region ?_ | refine RS.regionQ ?_ (by kernel_rfl) (by kernel_rfl) | refine RS.skip ?_ | refine RS.inBlock ?_ | refine RS.block ?_ | refine RS.exit ?_)); refine box_ (v := .agg _) (cs := [_, _, _, _, _, _]) (fun b1 => ?_); refine alloc_ (fun b2 => ?_); refine LS.done ?_
  (repeat (first | refine RS.seq ?_ | refine RS.region ?_ | refine RS.skip ?_ | refine RS.inBlock ?_ | refine RS.block ?_ | refine RS.exit ?_)); refine RS.drawK [.free, .ex, .eff, .free, .ex, .eff, .free, .st, .free, .st] ?_ (by kernel_rfl) (by kernel_rfl); refine D.fld ?_; refine D.ld1 (v := .slice _ _ _) ?_
  refine D.callD w.heap.size 9 n.marks ?_ (hc := fun _ _ w' hle _ hw => clone_c _ _ w.heap.size w' (hm1.mono (PH.le_trans hle hw.imm)) hb.1)
  refine D.fld ?_; refine D.ld1 (v := .slice _ _ _) ?_
  refine D.callD w.heap.size 9 n.taints ?_ (hc := fun _ _ w' hle _ hw => clone_c _ _ w.heap.size w' (ht1.mono (PH.le_trans hle hw.imm)) hb.2)
  refine D.fld ?_
  refine D.stV 5 (fun _ => nodeC n (.slice am n.marks.length cm) (.slice at_ n.taints.length ct)) (fun us => nodeC n (us 5) (.slice at_ n.taints.length ct)) ?_
  refine D.fld ?_
  refine D.stV 8 (fun us => nodeC n (us 5) (.slice at_ n.taints.length ct)) (fun us => nodeC n (us 5) (us 8)) ?_
  refine D.done (fun us σ1 hle1 hfs => ?_)
  refine RS.to (K' := [rowD w.heap.size 9 (us 5) n.marks, rowD w.heap.size 9 (us 8) n.taints, blk b2 (.cells (List.toArray [.string ⟨#[]⟩, .int .i64 0, .int .i64 0, .slice none 0 0, .slice none 0 0, .bool false]) 33 (0, 0)), blk b1 (.cells (List.toArray (nodeC n (us 5) (us 8))) 33 (0, 0))]) ?_ ⟨fun h => h.swap⟩
  generalize us 5 = v5
  generalize us 8 = v8
  have hl1 := hb.1
  have hl2 := hb.2
  refine RS.freezeD (l := n.marks) v5 (fun σ2 hle2 hr5 => ?_)
  refine RS.freezeD (l := n.taints) v8 (fun σ3 hle3 hr8 => ?_)
  obtain ⟨a5, c5, rfl⟩ := hr5.form
  obtain ⟨a8, c8, rfl⟩ := hr8.form
  (repeat (first | refine RS.seq ?_ | refine RS.region ?_ | refine RS.regionQ ?_ (by kernel_rfl) (by kernel_rfl) | refine RS.skip ?_ | refine RS.inBlock ?_ | refine RS.block ?_ | refine RS.exit ?_)); refine ldA [_, _, _, _, _, _] ?_; refine st (.agg _) _ ?_; refine LS.done ?_; (repeat (first | refine RS.seq ?_ | refine RS.region ?_ | refine RS.regionQ ?_ (by kernel_rfl) (by kernel_rfl) | refine RS.skip ?_ | refine RS.inBlock ?_ | refine RS.block ?_ | refine RS.exit ?_)); refine RS.retC (ty := 33) Tryd.func19 [_, _, _, _, _, _] fun w hw => ?_
  exact ⟨_, rfl, hw.below, _, rfl, _, _, rfl, hn, hc, hm, (hr5.mono (fromN_up hle3)).mono hw.since_le, hr8.mono hw.since_le⟩
theorem cloneP_c (v : Value) (l : List PlaceD) (w : World) (h : RepL (hp w) v l) (hb : l.length ≤ 1000) : Calls Tryd.prog 35 #[v] w fun r w' => ∃ v', r = .returned v' ∧ Below w.heap.size w w' ∧ RepL (since w w') v' l := by
  obtain ⟨a, c, rfl⟩ := h.form
  refine RS.enter Tryd.func35 Tryd.ntmps35 rfl rfl ?_
  (repeat (first | refine RS.seq ?_ | refine RS.region ?_ | refine RS.regionQ ?_ (by kernel_rfl) (by kernel_rfl) | refine RS.skip ?_ | refine RS.inBlock ?_ | refine RS.block ?_ | refine RS.exit ?_)); refine asL ?_; refine LS.done ?_
  (repeat (first | refine RS.seq ?_ | refine RS.region ?_ | refine RS.regionQ ?_ (by kernel_rfl) (by kernel_rfl) | refine RS.skip ?_ | refine RS.inBlock ?_ | refine RS.block ?_ | refine RS.exit ?_)); refine mvL ?_; refine eqNilL ?_; refine LS.done ?_
  (repeat (first | refine RS.seq ?_ | refine RS.region ?_ | refine RS.regionQ ?_ (by kernel_rfl) (by kernel_rfl) | refine RS.skip ?_ | refine RS.inBlock ?_ | refine RS.block ?_ | refine RS.exit ?_))
  refine RS.cond (fun z => ?_) (fun z => ?_)
  · (repeat (first | refine RS.seq ?_ | refine RS.region ?_ | refine RS.regionQ ?_ (by kernel_rfl) (by kernel_rfl) | refine RS.skip ?_ | refine RS.inBlock ?_ | refine RS.block ?_ | refine RS.exit ?_)); refine asL ?_; refine LS.done ?_; (repeat (first | refine RS.seq ?_ | refine RS.region ?_ | refine RS.regionQ ?_ (by kernel_rfl) (by kernel_rfl) | refine RS.skip ?_ | refine RS.inBlock ?_ | refine RS.block ?_ | refine RS.exit ?_)); refine RS.ret1 (v := .slice _ _ _) Tryd.func35 fun w hw => ?_
    have hn : l = [] := Classical.byContradiction fun hn => by obtain ⟨b, o, e, _⟩ := h.addr hn; rw [e] at z; cases z
    subst hn
    exact ⟨_, rfl, hw.below, RepL.nil _ _ _⟩
  · (repeat (first | refine RS.seq ?_ | refine RS.region ?_ | refine RS.regionQ ?_ (by kernel_rfl) (by kernel_rfl) | refine RS.skip ?_ | refine RS.inBlock ?_ | refine RS.block ?_ | refine RS.exit ?_)); refine bldS [] [] (fun b5 => ?_); refine LS.zeroD w.heap.size PlaceD 41 (some ⟨b5, 0, none⟩) ?_; refine mvL ?_; refine appD (v := .slice (some ⟨b5, 0, none⟩) 0 0) (l' := l) (vy := .slice a l.length c) (fun w' hw => (srcD hw TSlice.eq (h.mono (fun _ _ h => h)) (PH.le_refl _)).imp fun news h => ⟨h.1, CellsL.places h.2⟩) (fun v7 => ?_) (hb := by simp; omega) (hm := by simp; omega); refine as_ (v := v7) ?_; refine LS.done ?_
    (repeat (first | refine RS.seq ?_ | refine RS.region ?_ | refine RS.regionQ ?_ (by kernel_rfl) (by kernel_rfl) | refine RS.skip ?_ | refine RS.inBlock ?_ | refine RS.block ?_ | refine RS.exit ?_))
    refine RS.formD (l := [] ++ l) v7 (fun a7 c7 e7 _ => ?_); subst e7
    refine RS.ret1 (v := .slice _ _ _) Tryd.func35 fun w hw => ?_
    exact ⟨_, rfl, hw.below, hw.rowNewD (l := l) (Nat.le_refl _) (by omega)⟩
end Go.Proofs.YthnoaapghcadgaaDoor
