/- Contracts for LedgerOwn: what is handed out may be written. -/
import Derived.Test.YtbinkokafbpnoaaLaw7
namespace Go.Proofs.Ytbinkokafbpnoaa
open Go.JW Go.RowKit
theorem rowNilA {α : Type} [Rep α] (N : Nat) (g : VH) (e : Nat) (a : Option Addr) : (rowD N e (.slice a 0 0) ([] : List α)).h g (fun _ => False) := ⟨[], rfl, by simp, rfl, a, 0, rfl, by simp, by simp, .inl ⟨rfl, rfl⟩⟩
theorem lsetO_c (n : Int) (w : World) : Calls Try.prog 39 #[.int .i64 n] w fun e w' => ∃ v τ, e = .returned v ∧ Post τ [rowD 0 9 v (setOf n)] w w' := by
  refine RS.enter Try.func39 Try.ntmps39 rfl rfl ?_
  (repeat (first | refine RS.seq ?_ | refine RS.region ?_ | refine RS.regionQ ?_ (by kernel_rfl) (by kernel_rfl) | refine RS.skip ?_ | refine RS.inBlock ?_ | refine RS.block ?_ | refine RS.exit ?_)); refine asL ?_; refine LS.done ?_
  (repeat (first | refine RS.seq ?_ | refine RS.region ?_ | refine RS.regionQ ?_ (by kernel_rfl) (by kernel_rfl) | refine RS.skip ?_ | refine RS.inBlock ?_ | refine RS.block ?_ | refine RS.exit ?_)); refine bldS [.string _, .string _, .string _, .string _] [.string _, .string _, .string _, .string _] (fun b6 => ?_); refine asL ?_; refine LS.done ?_
  (repeat (first | refine RS.seq ?_ | refine RS.region ?_ | refine RS.regionQ ?_ (by kernel_rfl) (by kernel_rfl) | refine RS.skip ?_ | refine RS.inBlock ?_ | refine RS.block ?_ | refine RS.exit ?_)); refine asL ?_; refine LS.done ?_
  (repeat (first | refine RS.seq ?_ | refine RS.region ?_ | refine RS.regionQ ?_ (by kernel_rfl) (by kernel_rfl) | refine RS.skip ?_ | refine RS.inBlock ?_ | refine RS.block ?_ | refine RS.exit ?_)); refine asI ?_; refine LS.done ?_
  refine RS.nilRow 9 1 ?_
  (repeat (first | refine RS.seq ?_ | refine RS.region ?_ | refine RS.regionQ ?_ (by kernel_rfl) (by kernel_rfl) | refine RS.skip ?_ | refine RS.inBlock ?_ | refine RS.block ?_ | refine RS.exit ?_))
  refine RS.loopF (X := Nat × Value) 4 24 (fun x => x.1 ≤ 4) (fun x => [(4, x.2), (5, .int .i64 x.1)]) (fun _ => hp w) (fun x => [rowH 9 1 x.2 (setN n x.1).length ((setN n x.1).map Value.string), blk b6 (.cells (List.toArray (marks4.map Value.string)) 9 (0, 0))]) (fun x => 4 - x.1) (0, .slice none 0 0) (by simp) ⟨rfl, rfl, trivial⟩ rfl ⟨fun h => h⟩ ?_
  rintro ⟨k, v⟩ g hk ih
  simp only at hk ih ⊢
  (repeat (first | refine RS.seq ?_ | refine RS.region ?_ | refine RS.regionQ ?_ (by kernel_rfl) (by kernel_rfl) | refine RS.skip ?_ | refine RS.inBlock ?_ | refine RS.block ?_ | refine RS.exit ?_)); refine mvI ?_; refine ltI ?_; refine LS.done ?_
  (repeat (first | refine RS.seq ?_ | refine RS.region ?_ | refine RS.regionQ ?_ (by kernel_rfl) (by kernel_rfl) | refine RS.skip ?_ | refine RS.inBlock ?_ | refine RS.block ?_ | refine RS.exit ?_))
  by_cases hlt : k < 4
  · refine RS.condT ?_ (h := by simp; omega)
    (repeat (first | refine RS.seq ?_ | refine RS.region ?_ | refine RS.regionQ ?_ (by kernel_rfl) (by kernel_rfl) | refine RS.skip ?_ | refine RS.inBlock ?_ | refine RS.block ?_ | refine RS.exit ?_)); refine mvI ?_; refine mvI ?_; refine cvU ?_; refine shrI ?_
    refine callP ?_ (hc := fun w _ => w2_c _ _ (by omega) (by omega) w)
    refine eqI ?_; refine LS.done ?_
    (repeat (first | refine RS.seq ?_ | refine RS.region ?_ | refine RS.regionQ ?_ (by kernel_rfl) (by kernel_rfl) | refine RS.skip ?_ | refine RS.inBlock ?_ | refine RS.block ?_ | refine RS.exit ?_))
    have hN := setN_size n k (by omega)
    refine RS.cond (fun c => ?_) (fun c => ?_)
    · simp only [decide_eq_true_eq] at c
      (repeat (first | refine RS.seq ?_ | refine RS.region ?_ | refine RS.regionQ ?_ (by kernel_rfl) (by kernel_rfl) | refine RS.skip ?_ | refine RS.inBlock ?_ | refine RS.block ?_ | refine RS.exit ?_)); refine mv (v := v) ?_; refine mvL ?_; refine mvI ?_; refine idx (i := k) ?_; refine ld1 (v := .string (marks4.getD k ⟨#[]⟩)) ?_ (hv := nth_str marks4 k (by simp [marks4]; omega)); refine bldS [.string _] [.string _] (fun b22 => ?_); refine appR (v := v) (kk := 1) (vy := .slice (some ⟨b22, 0, none⟩) 1 1) (news := [.string _]) (fun w hw => srcB hw (TSlice.eq (P := Try.prog))) (fun v23 => ?_); refine as_ (v := v23) ?_; refine LS.done ?_
      (repeat (first | refine RS.seq ?_ | refine RS.region ?_ | refine RS.regionQ ?_ (by kernel_rfl) (by kernel_rfl) | refine RS.skip ?_ | refine RS.inBlock ?_ | refine RS.block ?_ | refine RS.exit ?_)); refine mvI ?_; (first | refine addN ?_ | refine addI ?_); refine asI ?_; refine LS.done ?_; (repeat (first | refine RS.seq ?_ | refine RS.region ?_ | refine RS.regionQ ?_ (by kernel_rfl) (by kernel_rfl) | refine RS.skip ?_ | refine RS.inBlock ?_ | refine RS.block ?_ | refine RS.exit ?_))
      have e : setN n (k + 1) = setN n k ++ [marks4.getD k ⟨#[]⟩] := by rw [setN, if_pos (show bitOf n k = 1 from c)]
      refine ih (k + 1, v23) hlt (by omega) ⟨rfl, rfl, trivial⟩ (by repeat (first | with_reducible exact Out.refl _ _ _ | exact Out.hv | refine Out.upd ?_ | refine Out.hvIn ?_)) ?_ rfl
      simp only [e, List.length_append, List.map_append, List.map_cons, List.map_nil, List.length_singleton]
      infer_instance
    · simp only [decide_eq_false_iff_not] at c
      (repeat (first | refine RS.seq ?_ | refine RS.region ?_ | refine RS.regionQ ?_ (by kernel_rfl) (by kernel_rfl) | refine RS.skip ?_ | refine RS.inBlock ?_ | refine RS.block ?_ | refine RS.exit ?_)); refine mvI ?_; (first | refine addN ?_ | refine addI ?_); refine asI ?_; refine LS.done ?_; (repeat (first | refine RS.seq ?_ | refine RS.region ?_ | refine RS.regionQ ?_ (by kernel_rfl) (by kernel_rfl) | refine RS.skip ?_ | refine RS.inBlock ?_ | refine RS.block ?_ | refine RS.exit ?_))
      have e : setN n (k + 1) = setN n k := by rw [setN, if_neg (show ¬ bitOf n k = 1 from c), List.append_nil]
      refine ih (k + 1, v) hlt (by omega) ⟨rfl, rfl, trivial⟩ (by repeat (first | with_reducible exact Out.refl _ _ _ | exact Out.hv | refine Out.upd ?_ | refine Out.hvIn ?_)) ?_ rfl
      simp only [e]
      infer_instance
  · refine RS.condF ?_ (h := by simp; omega)
    obtain rfl : k = 4 := by omega
    (repeat (first | refine RS.seq ?_ | refine RS.region ?_ | refine RS.regionQ ?_ (by kernel_rfl) (by kernel_rfl) | refine RS.skip ?_ | refine RS.inBlock ?_ | refine RS.block ?_ | refine RS.exit ?_)); refine mv (v := v) ?_; refine as_ (v := v) ?_; refine LS.done ?_; (repeat (first | refine RS.seq ?_ | refine RS.region ?_ | refine RS.regionQ ?_ (by kernel_rfl) (by kernel_rfl) | refine RS.skip ?_ | refine RS.inBlock ?_ | refine RS.block ?_ | refine RS.exit ?_))
    refine RS.ret1 (v := v) Try.func39 fun w hw => ?_
    have hN := setN_size n 4 (by omega)
    exact ⟨v, fun _ => none, rfl, hw.post (fun _ _ => rfl) (fun _ _ h => by cases h) fun F ⟨F1, h1, h2, _⟩ => ⟨F1, ⟨_, cellsStr _ hN.1, h1⟩, h2, trivial⟩⟩
theorem lnodeO_c (a n : Int) (hn : I64 n) (w : World) : Calls Try.prog 17 #[.int .i64 a, .int .i64 n] w fun e w' =>
    ∃ (x : Value × Value) (τ : PH), e = .returned (.agg (List.toArray (nodeC (nodeOf a n) x.1 x.2))) ∧ Post τ [rowD 0 9 x.1 (nodeOf a n).marks] w w' ∧ RepL τ x.2 (nodeOf a n).taints := by
  obtain ⟨a1, a2⟩ := wmod n 12 (by omega)
  obtain ⟨b1, b2⟩ := wmod (n.tdiv 12) 12 (by omega)
  refine RS.enter Try.func17 Try.ntmps17 rfl rfl ?_
  (repeat (first | refine RS.seq ?_ | refine RS.region ?_ | refine RS.regionQ ?_ (by kernel_rfl) (by kernel_rfl) | refine RS.skip ?_ | refine RS.inBlock ?_ | refine RS.block ?_ | refine RS.exit ?_)); refine alloc_ (fun b4 => ?_); refine LS.done ?_
  (repeat (first | refine RS.seq ?_ | refine RS.region ?_ | refine RS.regionQ ?_ (by kernel_rfl) (by kernel_rfl) | refine RS.skip ?_ | refine RS.inBlock ?_ | refine RS.block ?_ | refine RS.exit ?_)); refine mvI ?_
  refine callP ?_ (hc := fun w _ => lname_c _ w)
  refine mvI ?_
  refine callP ?_ (hc := fun w _ => w3_c _ _ (by omega) (by omega) w)
  refine mvI ?_; refine quoN ?_
  refine callP ?_ (hc := fun w _ => w3_c _ _ (by omega) (by omega) w)
  refine bld (vals := [(0, .int _ _), (1, .int _ _)]) [_, _] ?_; refine mvI ?_; refine quoN ?_
  refine callO (X := Value) (fun x => x) (fun x => [rowD 0 9 x (setOf (n.tdiv 144))]) (fun _ _ => True) (fun v τ1 σ2 _ hN1 hle2 hτ1 => ?_) (fun w _ => (lsetO_c _ w).mono fun _ _ ⟨v, τ, he, h⟩ => ⟨v, τ, he, h, trivial⟩)
  refine LS.to (K' := [rowD 0 9 v (setOf (n.tdiv 144)), blk b4 (.cells (List.toArray [.string ⟨#[]⟩, .int .i64 0, .int .i64 0, .slice none 0 0, .slice none 0 0, .bool false]) 33 (0, 0))]) ?_ ⟨fun h => h⟩
  refine LS.formD (l := setOf (n.tdiv 144)) v (fun a1' c1' e1 _ => ?_); subst e1
  refine mvI ?_; refine quoN ?_
  refine callP ?_ (hc := fun w _ => w3_c _ _ (by omega) (by omega) w)
  refine eqI ?_; refine bld (vals := [(0, .string _), (1, .agg (List.toArray [_, _])), (2, .slice _ _ _), (4, .bool _)]) [_, _, _, _, _, _] ?_; refine alloc_ (fun b5 => ?_); refine st (.agg _) _ ?_; refine LS.done ?_
  (repeat (first | refine RS.seq ?_ | refine RS.region ?_ | refine RS.regionQ ?_ (by kernel_rfl) (by kernel_rfl) | refine RS.skip ?_ | refine RS.inBlock ?_ | refine RS.block ?_ | refine RS.exit ?_)); refine mvI ?_; refine quoN ?_
  refine callP ?_ (hc := fun w _ => w3_c _ _ (by omega) (by omega) w)
  refine eqI ?_; refine LS.done ?_; (repeat (first | refine RS.seq ?_ | refine RS.region ?_ | refine RS.regionQ ?_ (by kernel_rfl) (by kernel_rfl) | refine RS.skip ?_ | refine RS.inBlock ?_ | refine RS.block ?_ | refine RS.exit ?_))
  refine RS.cond (fun e => ?_) (fun e => ?_)
  all_goals simp only [decide_eq_true_eq, decide_eq_false_iff_not] at e
  · (repeat (first | refine RS.seq ?_ | refine RS.region ?_ | refine RS.regionQ ?_ (by kernel_rfl) (by kernel_rfl) | refine RS.skip ?_ | refine RS.inBlock ?_ | refine RS.block ?_ | refine RS.exit ?_)); refine mvI ?_; refine quoN ?_
    refine callT (fun v τ => RepL τ v (setOf (n.tdiv 31))) (fun v τ2 σ3 hq2 hN2 hle3 hτ2 => ?_) (fun w _ => lset_c _ w)
    obtain ⟨a2', c2', rfl⟩ := hq2.form
    refine fld ?_; refine st (.slice _ _ _) _ ?_; refine LS.done ?_
    (repeat (first | refine RS.seq ?_ | refine RS.region ?_ | refine RS.regionQ ?_ (by kernel_rfl) (by kernel_rfl) | refine RS.skip ?_ | refine RS.inBlock ?_ | refine RS.block ?_ | refine RS.exit ?_)); refine ldA [_, _, _, _, _, _] ?_; refine st (.agg _) _ ?_; refine LS.done ?_; (repeat (first | refine RS.seq ?_ | refine RS.region ?_ | refine RS.regionQ ?_ (by kernel_rfl) (by kernel_rfl) | refine RS.skip ?_ | refine RS.inBlock ?_ | refine RS.block ?_ | refine RS.exit ?_)); refine RS.retC (ty := 33) Try.func17 [_, _, _, _, _, _] fun w hw => ?_
    refine ⟨(_, _), τ2, rfl, hw.post hN2 hτ2 fun F h => ?_, ?_⟩
    · obtain ⟨F1, h1, h2, _⟩ := h.tail
      exact ⟨F1, rowD_str h1 (fun _ _ => rfl), h2, trivial⟩
    · show RepL _ _ (if n.tdiv 23 % 3 = 0 then setOf (n.tdiv 31) else []); rw [if_pos e]; exact hq2
  · (repeat (first | refine RS.seq ?_ | refine RS.region ?_ | refine RS.regionQ ?_ (by kernel_rfl) (by kernel_rfl) | refine RS.skip ?_ | refine RS.inBlock ?_ | refine RS.block ?_ | refine RS.exit ?_))
    (repeat (first | refine RS.seq ?_ | refine RS.region ?_ | refine RS.regionQ ?_ (by kernel_rfl) (by kernel_rfl) | refine RS.skip ?_ | refine RS.inBlock ?_ | refine RS.block ?_ | refine RS.exit ?_)); refine ldA [_, _, _, _, _, _] ?_; refine st (.agg _) _ ?_; refine LS.done ?_; (repeat (first | refine RS.seq ?_ | refine RS.region ?_ | refine RS.regionQ ?_ (by kernel_rfl) (by kernel_rfl) | refine RS.skip ?_ | refine RS.inBlock ?_ | refine RS.block ?_ | refine RS.exit ?_)); refine RS.retC (ty := 33) Try.func17 [_, _, _, _, _, _] fun w hw => ?_
    refine ⟨(_, _), fun _ => none, rfl, hw.post (fun _ _ => rfl) (fun _ _ h => by cases h) fun F h => ?_, ?_⟩
    · obtain ⟨F1, h1, h2, _⟩ := h.tail
      exact ⟨F1, rowD_str h1 (fun _ _ => rfl), h2, trivial⟩
    · show RepL _ _ (if n.tdiv 23 % 3 = 0 then setOf (n.tdiv 31) else []); rw [if_neg e]; exact RepL.nil _ _ _
theorem nownO_c (cs : List Value) (n : NodeD) (w : World) (hr : Rep.rep (hp w) cs n) (hb : SmallN n) : Calls Try.prog 37 #[.agg cs.toArray] w fun e w' => ∃ (x : Value × Value) (τ : PH), e = .returned (.agg (List.toArray (nodeC n x.1 x.2))) ∧ Post τ [rowD 0 9 x.1 n.marks] w w' ∧ RepL τ x.2 n.taints := by
  obtain ⟨vm, vt, rfl, hn, hc, hm, hm1, ht1⟩ := hr
  obtain ⟨am, cm, rfl⟩ := hm1.form
  obtain ⟨at_, ct, rfl⟩ := ht1.form
  refine RS.enter Try.func37 Try.ntmps37 rfl rfl ?_
  (repeat (first | refine RS.seq ?_ | refine RS.region ?_ | refine RS.regionQ ?_ (by kernel_rfl) (by kernel_rfl) | refine RS.skip ?_ | refine RS.inBlock ?_ | refine RS.block ?_ | refine RS.exit ?_)); refine box_ (v := .agg _) (cs := [_, _, _, _, _, _]) (fun b1 => ?_); refine alloc_ (fun b2 => ?_); refine LS.done ?_
  (repeat (first | refine RS.seq ?_ | refine RS.region ?_ | refine RS.skip ?_ | refine RS.inBlock ?_ | refine RS.block ?_ | refine RS.exit ?_)); refine RS.drawK [.free, .ex, .eff, .free, .ex, .eff, .free, .st, .free, .st] ?_ (by kernel_rfl) (by kernel_rfl); refine D.fld ?_; refine D.ld1 (v := .slice _ _ _) ?_
  refine D.callD w.heap.size 9 n.marks ?_ (hc := fun _ _ w' hle _ hw => clone_c _ _ w.heap.size w' (hm1.mono (PH.le_trans hle hw.imm)) hb.1)
  refine D.fld ?_; refine D.ld1 (v := .slice _ _ _) ?_
  refine D.callD w.heap.size 9 n.taints ?_ (hc := fun _ _ w' hle _ hw => clone_c _ _ w.heap.size w' (ht1.mono (PH.le_trans hle hw.imm)) hb.2)
  refine D.fld ?_
  refine D.stV 5 (fun _ => nodeC n (.slice am n.marks.length cm) (.slice at_ n.taints.length ct)) (fun us => nodeC n (us 5) (.slice at_ n.taints.length ct)) ?_
  refine D.fld ?_
  refine D.stV 8 (fun us => nodeC n (us 5) (.slice at_ n.taints.length ct)) (fun us => nodeC n (us 5) (us 8)) ?_
  refine D.done (fun us σ1 hle1 hfs => ?_)
  refine RS.to (K' := [rowD w.heap.size 9 (us 5) n.marks, rowD w.heap.size 9 (us 8) n.taints, blk b2 (.cells (List.toArray [.string ⟨#[]⟩, .int .i64 0, .int .i64 0, .slice none 0 0, .slice none 0 0, .bool false]) 33 (0, 0)), blk b1 (.cells (List.toArray (nodeC n (us 5) (us 8))) 33 (0, 0))]) ?_ ⟨fun h => h.swap⟩
  generalize us 5 = v5
  generalize us 8 = v8
  have hl1 := hb.1
  have hl2 := hb.2
  refine RS.formD (l := n.marks) v5 (fun a5 c5 e5 _ => ?_); subst e5
  refine RS.freezeD (l := n.taints) v8 (fun σ3 hle3 hr8 => ?_)
  obtain ⟨a8, c8, rfl⟩ := hr8.form
  (repeat (first | refine RS.seq ?_ | refine RS.region ?_ | refine RS.regionQ ?_ (by kernel_rfl) (by kernel_rfl) | refine RS.skip ?_ | refine RS.inBlock ?_ | refine RS.block ?_ | refine RS.exit ?_)); refine ldA [_, _, _, _, _, _] ?_; refine st (.agg _) _ ?_; refine LS.done ?_; (repeat (first | refine RS.seq ?_ | refine RS.region ?_ | refine RS.regionQ ?_ (by kernel_rfl) (by kernel_rfl) | refine RS.skip ?_ | refine RS.inBlock ?_ | refine RS.block ?_ | refine RS.exit ?_)); refine RS.retC (ty := 33) Try.func37 [_, _, _, _, _, _] fun w hw => ?_
  refine ⟨(_, _), _, rfl, hw.post (fromN_new _ σ3) (fromN_le _ _) fun F h => ?_, hr8⟩
  obtain ⟨F1, h1, h2, _⟩ := h
  exact ⟨F1, rowD_str h1 (fun _ _ => rfl), h2, trivial⟩
theorem clonePO_c (v : Value) (l : List PlaceD) (w : World) (h : RepL (hp w) v l) (hb : l.length ≤ 1000) : Calls Try.prog 42 #[v] w fun r w' => ∃ v' τ, r = .returned v' ∧ Post τ [rowD 0 43 v' l] w w' := by
  obtain ⟨a, c, rfl⟩ := h.form
  refine RS.enter Try.func42 Try.ntmps42 rfl rfl ?_
  (repeat (first | refine RS.seq ?_ | refine RS.region ?_ | refine RS.regionQ ?_ (by kernel_rfl) (by kernel_rfl) | refine RS.skip ?_ | refine RS.inBlock ?_ | refine RS.block ?_ | refine RS.exit ?_)); refine asL ?_; refine LS.done ?_
  (repeat (first | refine RS.seq ?_ | refine RS.region ?_ | refine RS.regionQ ?_ (by kernel_rfl) (by kernel_rfl) | refine RS.skip ?_ | refine RS.inBlock ?_ | refine RS.block ?_ | refine RS.exit ?_)); refine mvL ?_; refine eqNilL ?_; refine LS.done ?_
  (repeat (first | refine RS.seq ?_ | refine RS.region ?_ | refine RS.regionQ ?_ (by kernel_rfl) (by kernel_rfl) | refine RS.skip ?_ | refine RS.inBlock ?_ | refine RS.block ?_ | refine RS.exit ?_))
  refine RS.cond (fun z => ?_) (fun z => ?_)
  · (repeat (first | refine RS.seq ?_ | refine RS.region ?_ | refine RS.regionQ ?_ (by kernel_rfl) (by kernel_rfl) | refine RS.skip ?_ | refine RS.inBlock ?_ | refine RS.block ?_ | refine RS.exit ?_)); refine asL ?_; refine LS.done ?_; (repeat (first | refine RS.seq ?_ | refine RS.region ?_ | refine RS.regionQ ?_ (by kernel_rfl) (by kernel_rfl) | refine RS.skip ?_ | refine RS.inBlock ?_ | refine RS.block ?_ | refine RS.exit ?_)); refine RS.ret1 (v := .slice _ _ _) Try.func42 fun w hw => ?_
    have hn : l = [] := Classical.byContradiction fun hn => by obtain ⟨b, o, e, _⟩ := h.addr hn; rw [e] at z; cases z
    subst hn
    exact ⟨_, fun _ => none, rfl, hw.post (fun _ _ => rfl) (fun _ _ h => by cases h) fun F h => ⟨fun _ => False, rowNilA _ _ _ _, fun _ h => h.elim, trivial⟩⟩
  · (repeat (first | refine RS.seq ?_ | refine RS.region ?_ | refine RS.regionQ ?_ (by kernel_rfl) (by kernel_rfl) | refine RS.skip ?_ | refine RS.inBlock ?_ | refine RS.block ?_ | refine RS.exit ?_)); refine bldS [] [] (fun b5 => ?_); refine LS.zeroD w.heap.size PlaceD 43 (some ⟨b5, 0, none⟩) ?_; refine mvL ?_; refine appD (v := .slice (some ⟨b5, 0, none⟩) 0 0) (l' := l) (vy := .slice a l.length c) (fun w' hw => (srcD hw TSlice.eq (h.mono (fun _ _ h => h)) (PH.le_refl _)).imp fun news h => ⟨h.1, CellsL.places h.2⟩) (fun v7 => ?_) (hb := by simp; omega) (hm := by simp; omega); refine as_ (v := v7) ?_; refine LS.done ?_
    (repeat (first | refine RS.seq ?_ | refine RS.region ?_ | refine RS.regionQ ?_ (by kernel_rfl) (by kernel_rfl) | refine RS.skip ?_ | refine RS.inBlock ?_ | refine RS.block ?_ | refine RS.exit ?_))
    refine RS.formD (l := [] ++ l) v7 (fun a7 c7 e7 _ => ?_); subst e7
    refine RS.ret1 (v := .slice _ _ _) Try.func42 fun w hw => ?_
    exact ⟨_, _, rfl, (Sat.postD (l := l) hw rfl).rowN (Nat.zero_le _)⟩
/-- A node's cells, told as they stand. -/
structure NodeRaw where
  nd : NodeD
  vm : Value
  vt : Value
instance : Rep NodeRaw where
  sz := 6
  rep _ cs x := cs = nodeC x.nd x.vm x.vt ∧ (∃ a m c, x.vm = .slice a m c) ∧ ∃ a m c, x.vt = .slice a m c
  len h := by rw [h.1]; rfl
  one h := by obtain ⟨h1, ⟨_, _, _, h2⟩, _, _, _, h3⟩ := h; rw [h1, h2, h3]; rfl
  mono h _ := h
theorem rawRep (σ : PH) (nd : NodeD) (a1 a2 : Option Addr) (m1 m2 c1 c2 : Nat) : Rep.rep σ (nodeC nd (.slice a1 m1 c1) (.slice a2 m2 c2)) (⟨nd, .slice a1 m1 c1, .slice a2 m2 c2⟩ : NodeRaw) := ⟨rfl, ⟨_, _, _, rfl⟩, ⟨_, _, _, rfl⟩⟩
section
variable {w0 : World} {M : Nat → Prop} {σ : PH} {K : List HP} {bl b1 b2 c1 c2 : Nat} {es1 es2 : Array MapEntry} {S : LedD}
theorem cloneR_c (v : Value) (l : List NodeRaw) (h : RepL σ v l) (hb : l.length ≤ 1000) (w : World) (hw : Sat w0 M σ K w) : Calls Try.prog 45 #[v] w (Ans w0 M σ K fun v' σ' => RepL σ' v' l) := by
  obtain ⟨a, c, rfl⟩ := h.form
  refine RS.enterK Try.func45 Try.ntmps45 rfl rfl hw ?_
  (repeat (first | refine RS.seq ?_ | refine RS.region ?_ | refine RS.regionQ ?_ (by kernel_rfl) (by kernel_rfl) | refine RS.skip ?_ | refine RS.inBlock ?_ | refine RS.block ?_ | refine RS.exit ?_)); refine asL ?_; refine LS.done ?_
  (repeat (first | refine RS.seq ?_ | refine RS.region ?_ | refine RS.regionQ ?_ (by kernel_rfl) (by kernel_rfl) | refine RS.skip ?_ | refine RS.inBlock ?_ | refine RS.block ?_ | refine RS.exit ?_)); refine mvL ?_; refine eqNilL ?_; refine LS.done ?_
  (repeat (first | refine RS.seq ?_ | refine RS.region ?_ | refine RS.regionQ ?_ (by kernel_rfl) (by kernel_rfl) | refine RS.skip ?_ | refine RS.inBlock ?_ | refine RS.block ?_ | refine RS.exit ?_))
  refine RS.cond (fun z => ?_) (fun z => ?_)
  · (repeat (first | refine RS.seq ?_ | refine RS.region ?_ | refine RS.regionQ ?_ (by kernel_rfl) (by kernel_rfl) | refine RS.skip ?_ | refine RS.inBlock ?_ | refine RS.block ?_ | refine RS.exit ?_)); refine asL ?_; refine LS.done ?_; (repeat (first | refine RS.seq ?_ | refine RS.region ?_ | refine RS.regionQ ?_ (by kernel_rfl) (by kernel_rfl) | refine RS.skip ?_ | refine RS.inBlock ?_ | refine RS.block ?_ | refine RS.exit ?_)); refine RS.ret1 (v := .slice _ _ _) Try.func45 fun w hw => ?_
    have hn : l = [] := Classical.byContradiction fun hn => by obtain ⟨b, o, e, _⟩ := h.addr hn; rw [e] at z; cases z
    subst hn
    exact ⟨_, σ, PH.le_refl _, RepL.nil _ _ _, rfl, hw⟩
  · (repeat (first | refine RS.seq ?_ | refine RS.region ?_ | refine RS.regionQ ?_ (by kernel_rfl) (by kernel_rfl) | refine RS.skip ?_ | refine RS.inBlock ?_ | refine RS.block ?_ | refine RS.exit ?_)); refine bldS [] [] (fun b5 => ?_); refine LS.zeroD 0 NodeRaw 33 (some ⟨b5, 0, none⟩) ?_; refine mvL ?_; refine appD (v := .slice (some ⟨b5, 0, none⟩) 0 0) (l' := l) (vy := .slice a l.length c) (fun w' hw => by rw [fromN_zero]; exact srcD hw TSlice.eq h (PH.le_refl _)) (fun v7 => ?_) (hb := by simp; omega) (hm := by simp; omega); refine as_ (v := v7) ?_; refine LS.done ?_
    (repeat (first | refine RS.seq ?_ | refine RS.region ?_ | refine RS.regionQ ?_ (by kernel_rfl) (by kernel_rfl) | refine RS.skip ?_ | refine RS.inBlock ?_ | refine RS.block ?_ | refine RS.exit ?_))
    refine RS.freeze0 (l := [] ++ l) v7 (fun σ' hle hr => ?_) (hl := by rw [List.nil_append]; omega)
    rw [List.nil_append] at hr
    obtain ⟨a7, c7, rfl⟩ := hr.form
    refine RS.ret1 (v := .slice _ _ _) Try.func45 fun w hw => ?_
    exact ⟨_, σ', hle, hr, rfl, hw.to ⟨fun h => h.tail⟩⟩
theorem sortK_one {α : Type} (nm : ByteArray) (x : α) : sortK [(nm, x)] = [(nm, x)] := List.perm_singleton.1 (sortK_perm _)
theorem nodes1_c {nm : ByteArray} {nd : NodeD} (h1 : MapOk σ es1 c1 [(nm, nd)]) (hok : NodesOk [(nm, nd)]) (w : World) (hw : Sat w0 M σ (LK bl b1 b2 es1 c1 es2 c2 ++ K) w) :
    Calls Try.prog 21 #[.pointer (some ⟨bl, 0, none⟩)] w fun e w' => ∃ (x : Value × Value × Value) (σ' : PH), PH.le σ σ' ∧ RepL σ' x.1 [(⟨nd, x.2.1, x.2.2⟩ : NodeRaw)] ∧ RepL σ' x.2.2 nd.taints ∧ e = .returned x.1 ∧ Sat w0 M σ' (rowD 0 9 x.2.1 nd.marks :: (LK bl b1 b2 es1 c1 es2 c2 ++ K)) w' := by
  refine RS.enterK Try.func21 Try.ntmps21 rfl rfl hw ?_
  refine RS.to (K' := blk bl (.cells (List.toArray [.map (some b1), .map (some b2)]) 74 (0, 0)) :: blk b1 (.map es1 c1) :: blk b2 (.map es2 c2) :: K) ?_ ⟨fun h => h⟩
  (repeat (first | refine RS.seq ?_ | refine RS.region ?_ | refine RS.regionQ ?_ (by kernel_rfl) (by kernel_rfl) | refine RS.skip ?_ | refine RS.inBlock ?_ | refine RS.block ?_ | refine RS.exit ?_)); refine asL ?_; refine LS.done ?_
  (repeat (first | refine RS.seq ?_ | refine RS.region ?_ | refine RS.regionQ ?_ (by kernel_rfl) (by kernel_rfl) | refine RS.skip ?_ | refine RS.inBlock ?_ | refine RS.block ?_ | refine RS.exit ?_)); refine asL ?_; refine LS.done ?_
  refine RS.nilD 0 NodeRaw 33 ?_
  (repeat (first | refine RS.seq ?_ | refine RS.region ?_ | refine RS.regionQ ?_ (by kernel_rfl) (by kernel_rfl) | refine RS.skip ?_ | refine RS.inBlock ?_ | refine RS.block ?_ | refine RS.exit ?_)); refine mvP ?_; refine nilck ?_; refine fld ?_; refine ld1 (v := .map _) ?_
  refine keysM (fun w => mkeys_c _ w) (fun B => ?_)
  refine callT (fun v τ => RepL τ v [nm]) (fun v11 τ1 σ1 hq1 hN1 hle1 hτ1 => ?_) (fun w' hw => by
    have := sorted_c h1 hok.nodup hok.size (by simp) B b1 w' (hw.get (b := B)) (hw.get (b := b1))
    rw [sortK_one] at this; exact this)
  obtain ⟨a11, c11, rfl⟩ := hq1.form
  have h11 := hq1.mono hτ1
  obtain ⟨ba, oa, rfl, hrow⟩ := h11.addr (by simp)
  have hcell := (hrow.str 0 (by simp)).1
  have hget : asg [(nm, nd)] nm = some nd := by simp [asg, eqb_self]
  have hfine := hok.fine (nm, nd) (by simp)
  rw [show ([nm] : List ByteArray).length = 1 from rfl] at *
  refine lenL ?_; refine mvI ?_; refine LS.done ?_
  (repeat (first | refine RS.seq ?_ | refine RS.region ?_ | refine RS.regionQ ?_ (by kernel_rfl) (by kernel_rfl) | refine RS.skip ?_ | refine RS.inBlock ?_ | refine RS.block ?_ | refine RS.exit ?_))
  refine RS.loopF (X := Nat × Value × PH × List NodeRaw × List HP) 3 30 (fun x => PH.le σ1 x.2.2.1 ∧ ((x.1 = 0 ∧ x.2.2.2.1 = [] ∧ x.2.2.2.2 = []) ∨ (x.1 = 1 ∧ ∃ vm vt, x.2.2.2.1 = [⟨nd, vm, vt⟩] ∧ x.2.2.2.2 = [rowD 0 9 vm nd.marks] ∧ RepL x.2.2.1 vt nd.taints))) (fun x => [(3, x.2.1), (11, .slice (some ⟨ba, oa, none⟩) 1 c11), (12, .int .i64 1), (13, .int .i64 x.1)]) (fun x => x.2.2.1) (fun x => rowD 0 33 x.2.1 x.2.2.2.1 :: (x.2.2.2.2 ++ (blk bl (.cells (List.toArray [.map (some b1), .map (some b2)]) 74 (0, 0)) :: blk b1 (.map es1 c1) :: blk b2 (.map es2 c2) :: K))) (fun x => 1 - x.1) (0, .slice none 0 0, σ1, [], []) ⟨PH.le_refl _, .inl ⟨rfl, rfl, rfl⟩⟩ ⟨rfl, rfl, rfl, rfl, trivial⟩ rfl ⟨fun h => h.tail⟩ ?_
  rintro ⟨k, v3, σ2, raws, own⟩ g ⟨hle2, hcase⟩ ih
  simp only at hle2 hcase ih ⊢
  (repeat (first | refine RS.seq ?_ | refine RS.region ?_ | refine RS.regionQ ?_ (by kernel_rfl) (by kernel_rfl) | refine RS.skip ?_ | refine RS.inBlock ?_ | refine RS.block ?_ | refine RS.exit ?_)); refine ltI ?_; refine LS.done ?_
  (repeat (first | refine RS.seq ?_ | refine RS.region ?_ | refine RS.regionQ ?_ (by kernel_rfl) (by kernel_rfl) | refine RS.skip ?_ | refine RS.inBlock ?_ | refine RS.block ?_ | refine RS.exit ?_))
  rcases hcase with ⟨rfl, rfl, rfl⟩ | ⟨rfl, vm, vt, rfl, rfl, hvt⟩
  · refine RS.condT ?_ (h := by simp)
    obtain ⟨vs, vm0, vt0, v1, v2, vz, hv, ⟨a1, d1, rfl⟩, ⟨a2, d2, rfl⟩, hrn⟩ := look_n (h1.mono (PH.le_trans hle1 hle2)) nm
    have hrep := hrn _ hget
    refine RS.to (K' := rowD 0 33 v3 ([] : List NodeRaw) :: blk bl (.cells (List.toArray [.map (some b1), .map (some b2)]) 74 (0, 0)) :: blk b1 (.map es1 c1) :: blk b2 (.map es2 c2) :: K) ?_ ⟨fun h => h⟩
    (repeat (first | refine RS.seq ?_ | refine RS.region ?_ | refine RS.regionQ ?_ (by kernel_rfl) (by kernel_rfl) | refine RS.skip ?_ | refine RS.inBlock ?_ | refine RS.block ?_ | refine RS.exit ?_)); refine idx (i := 0) ?_; refine ldS (PH.cell_mono hle2 hcell) ?_; refine asS ?_; refine LS.done ?_
    (repeat (first | refine RS.seq ?_ | refine RS.region ?_ | refine RS.regionQ ?_ (by kernel_rfl) (by kernel_rfl) | refine RS.skip ?_ | refine RS.inBlock ?_ | refine RS.block ?_ | refine RS.exit ?_)); refine mv (v := v3) ?_; refine mvP ?_; refine nilck ?_; refine fld ?_; refine ld1 (v := .map _) ?_; refine mvS ?_; refine lk (bm := b1) nm (h1.mono (PH.le_trans hle1 hle2)) ?_; rw [hv]
    refine callO (X := Value × Value) (fun x => .agg (List.toArray (nodeC nd x.1 x.2))) (fun x => [rowD 0 9 x.1 nd.marks]) (fun x τ => RepL τ x.2 nd.taints) (fun x τ3 σ3 hq3 hN3 hle3 hτ3 => ?_) (fun w' hw => (nownO_c _ nd w' (Rep.mono hrep hw.imm) (fine_small hfine)).mono fun _ _ ⟨x, τ, he, h, hq⟩ => ⟨x, τ, he, h, hq⟩)
    obtain ⟨vm, vt⟩ := x
    simp only at hq3 ⊢
    refine LS.to (K' := rowD 0 9 vm nd.marks :: rowD 0 33 v3 ([] : List NodeRaw) :: blk bl (.cells (List.toArray [.map (some b1), .map (some b2)]) 74 (0, 0)) :: blk b1 (.map es1 c1) :: blk b2 (.map es2 c2) :: K) ?_ ⟨fun h => h⟩
    refine LS.formD (l := nd.marks) vm (fun ap cp ep _ => ?_); subst ep
    obtain ⟨ab, cb, rfl⟩ := hq3.form
    refine bldS [.agg (List.toArray (nodeC nd (.slice ap nd.marks.length cp) (.slice ab nd.taints.length cb)))] (nodeC nd (.slice ap nd.marks.length cp) (.slice ab nd.taints.length cb)) (fun b25 => ?_); refine appD (v := v3) (l' := [(⟨nd, .slice ap nd.marks.length cp, .slice ab nd.taints.length cb⟩ : NodeRaw)]) (vy := .slice (some ⟨b25, 0, none⟩) 1 1) (fun w' hw => ⟨_, srcB hw TSlice.eq, CellsL.one_ (rawRep _ nd _ _ _ _ _ _)⟩) (fun v26 => ?_) (hb := by simp) (hm := by simp); refine as_ (v := v26) ?_; refine LS.done ?_
    (repeat (first | refine RS.seq ?_ | refine RS.region ?_ | refine RS.regionQ ?_ (by kernel_rfl) (by kernel_rfl) | refine RS.skip ?_ | refine RS.inBlock ?_ | refine RS.block ?_ | refine RS.exit ?_)); (first | refine addN ?_ | refine addI ?_); refine mvI ?_; refine LS.done ?_; (repeat (first | refine RS.seq ?_ | refine RS.region ?_ | refine RS.regionQ ?_ (by kernel_rfl) (by kernel_rfl) | refine RS.skip ?_ | refine RS.inBlock ?_ | refine RS.block ?_ | refine RS.exit ?_))
    refine ih (1, v26, σ3, [⟨nd, .slice ap nd.marks.length cp, .slice ab nd.taints.length cb⟩], [rowD 0 9 (.slice ap nd.marks.length cp) nd.marks]) ⟨PH.le_trans hle2 hle3, .inr ⟨rfl, _, _, rfl, rfl, hq3.mono hτ3⟩⟩ (by simp) ⟨rfl, rfl, rfl, rfl, trivial⟩ (by repeat (first | with_reducible exact Out.refl _ _ _ | exact Out.hv | refine Out.upd ?_ | refine Out.hvIn ?_)) ⟨fun h => ?_⟩ rfl
    exact h.tail.swap
  · refine RS.condF ?_ (h := by simp)
    refine RS.to (K' := rowD 0 33 v3 [(⟨nd, vm, vt⟩ : NodeRaw)] :: rowD 0 9 vm nd.marks :: blk bl (.cells (List.toArray [.map (some b1), .map (some b2)]) 74 (0, 0)) :: blk b1 (.map es1 c1) :: blk b2 (.map es2 c2) :: K) ?_ ⟨fun h => h⟩
    (repeat (first | refine RS.seq ?_ | refine RS.region ?_ | refine RS.regionQ ?_ (by kernel_rfl) (by kernel_rfl) | refine RS.skip ?_ | refine RS.inBlock ?_ | refine RS.block ?_ | refine RS.exit ?_))
    refine LS.freeze0 (l := [(⟨nd, vm, vt⟩ : NodeRaw)]) v3 (fun σ3 hle3 hr3 => ?_) (hl := by simp) (hf := FindD.head)
    obtain ⟨a3, c3, rfl⟩ := hr3.form
    refine mvL ?_
    refine callA (fun v σ' => RepL σ' v [(⟨nd, vm, vt⟩ : NodeRaw)]) (fun v29 σ4 hle4 hr4 => ?_) (hc := fun w' hw => cloneR_c _ _ hr3 (by simp) w' hw)
    obtain ⟨a29, c29, rfl⟩ := hr4.form
    refine asL ?_; refine LS.done ?_
    (repeat (first | refine RS.seq ?_ | refine RS.region ?_ | refine RS.regionQ ?_ (by kernel_rfl) (by kernel_rfl) | refine RS.skip ?_ | refine RS.inBlock ?_ | refine RS.block ?_ | refine RS.exit ?_)); refine RS.ret1 (v := .slice _ _ _) Try.func21 fun w hw => ?_
    exact ⟨(_, vm, vt), σ4, PH.le_trans hle1 (PH.le_trans hle2 (PH.le_trans hle3 hle4)), hr4, hvt.mono (PH.le_trans hle3 hle4), rfl, hw⟩
theorem placesO_c (g : Int) (h2 : MapOk σ es2 c2 S.taken) (hl : (tk S.taken g).length ≤ 1000) (w : World) (hw : Sat w0 M σ (LK bl b1 b2 es1 c1 es2 c2 ++ K) w) :
    Calls Try.prog 22 #[.pointer (some ⟨bl, 0, none⟩), .int .i64 g] w fun e w' => ∃ (v : Value) (σ' : PH), PH.le σ σ' ∧ e = .returned v ∧ Sat w0 M σ' (rowD 0 43 v (tk S.taken g) :: (LK bl b1 b2 es1 c1 es2 c2 ++ K)) w' := by
  obtain ⟨a, cap, hv, hrep⟩ := look_t h2 g
  refine RS.enterK Try.func22 Try.ntmps22 rfl rfl hw ?_
  refine RS.to (K' := blk bl (.cells (List.toArray [.map (some b1), .map (some b2)]) 74 (0, 0)) :: blk b1 (.map es1 c1) :: blk b2 (.map es2 c2) :: K) ?_ ⟨fun h => h⟩
  (repeat (first | refine RS.seq ?_ | refine RS.region ?_ | refine RS.regionQ ?_ (by kernel_rfl) (by kernel_rfl) | refine RS.skip ?_ | refine RS.inBlock ?_ | refine RS.block ?_ | refine RS.exit ?_)); refine asL ?_; refine LS.done ?_
  (repeat (first | refine RS.seq ?_ | refine RS.region ?_ | refine RS.regionQ ?_ (by kernel_rfl) (by kernel_rfl) | refine RS.skip ?_ | refine RS.inBlock ?_ | refine RS.block ?_ | refine RS.exit ?_)); refine mvP ?_; refine nilck ?_; refine fld ?_; refine ld1 (v := .map _) ?_; refine mvI ?_; refine lk (bm := b2) g h2 ?_; rw [hv]
  refine callO (X := Value) (fun x => x) (fun x => [rowD 0 43 x (tk S.taken g)]) (fun _ _ => True) (fun v τ1 σ1 _ hN1 hle1 hτ1 => ?_) (fun w' hw => (clonePO_c _ _ w' (hrep.mono hw.imm) hl).mono fun _ _ ⟨v, τ, he, h⟩ => ⟨v, τ, he, h, trivial⟩)
  refine LS.to (K' := rowD 0 43 v (tk S.taken g) :: blk bl (.cells (List.toArray [.map (some b1), .map (some b2)]) 74 (0, 0)) :: blk b1 (.map es1 c1) :: blk b2 (.map es2 c2) :: K) ?_ ⟨fun h => h⟩
  refine LS.formD (l := tk S.taken g) v (fun a11 c11 e11 _ => ?_); subst e11
  refine asL ?_; refine LS.done ?_
  (repeat (first | refine RS.seq ?_ | refine RS.region ?_ | refine RS.regionQ ?_ (by kernel_rfl) (by kernel_rfl) | refine RS.skip ?_ | refine RS.inBlock ?_ | refine RS.block ?_ | refine RS.exit ?_)); refine RS.ret1 (v := .slice _ _ _) Try.func22 fun w hw => ?_
  exact ⟨_, σ1, hle1, rfl, hw⟩
end
end Go.Proofs.Ytbinkokafbpnoaa
