/- Contracts: pods and nodes that may be, made of numbers. -/
import Derived.Test.YthnoaapghcadgaaDoorMade
namespace Go.Proofs.YthnoaapghcadgaaDoor
open Go.JW Go.RowKit

def letter (p : ByteArray) (at_ : Int) : ByteArray := p ++ (List.foldl (fun (r : ByteArray) (n : Int) => r.push (UInt8.ofNat n.toNat)) ByteArray.empty [IntKind.u8.wrap (97 + at_)])
def podOf (at_ n s : Int) : PodD :=
  { name := letter ⟨#[112]⟩ at_, shard := 1 + n % s, cpu := n.tdiv 4 % 5, mem := n.tdiv 20 % 5, picks := if n.tdiv 100 % 5 = 0 then setOf (n.tdiv 500) else [], bears := if n.tdiv 7 % 3 = 0 then setOf (n.tdiv 11) else [], alone := decide (n.tdiv 13 % 6 = 0) }
theorem letter_size (p : ByteArray) (a : Int) : (letter p a).size = p.size + 1 := by
  simp only [letter, ByteArray.size_append, List.foldl]; rw [ByteArray.size_push]; rfl

theorem lpod_c (at_ n s : Int) (ha : 0 ≤ at_ ∧ at_ ≤ 1000) (hn : I64 n) (hs : 0 < s ∧ s ≤ 1000) (w : World) : Calls Tryd.prog 28 #[.int .i64 at_, .int .i64 n, .int .i64 s] w fun e w' =>
    ∃ v, e = .returned v ∧ Below w.heap.size w w' ∧ ∃ cs, v = .agg (List.toArray cs) ∧ Rep.rep (since w w') cs (podOf at_ n s) := by
  obtain ⟨a1, a2⟩ := wmod n s hs.1
  obtain ⟨b1, b2⟩ := wmod (n.tdiv 4) 5 (by omega)
  obtain ⟨c1, c2⟩ := wmod (n.tdiv 20) 5 (by omega)
  have hp1 : (⟨#[112]⟩ : ByteArray).size = 1 := rfl
  have hf1 : (List.foldl (fun (r : ByteArray) (n : Int) => r.push (UInt8.ofNat n.toNat)) ByteArray.empty [IntKind.u8.wrap (97 + at_)]).size = 1 := by simp only [List.foldl]; rw [ByteArray.size_push]; rfl
  refine RS.enter Tryd.func28 Tryd.ntmps28 rfl rfl ?_
  (repeat (first | refine RS.seq ?_ | refine RS.region ?_ | refine RS.regionQ ?_ (by kernel_rfl) (by kernel_rfl) | refine RS.skip ?_ | refine RS.inBlock ?_ | refine RS.block ?_ | refine RS.exit ?_)); refine alloc_ (fun b6 => ?_); refine LS.done ?_
  (repeat (first | refine RS.seq ?_ | refine RS.region ?_ | refine RS.skip ?_ | refine RS.inBlock ?_ | refine RS.block ?_ | refine RS.exit ?_)); refine RS.drawK [.free, .free, .free, .ex, .ex, .free, .free, .free, .ex, .free, .free, .free, .ex, .free, .free, .ex, .free, .free, .own, .st] ?_ (by kernel_rfl) (by kernel_rfl); refine D.mvI ?_; (first | refine D.addN ?_ | refine D.addI ?_); refine D.cvI ?_
  refine D.bldL [.int .u8 _] [.int .u8 _] ?_
  refine D.b2s (c0 := 1) [IntKind.u8.wrap (97 + at_)] 11 ?_ (fun us σ' _ ⟨⟨b, h1, h2⟩, _⟩ => ⟨b, h1, fun j hj => by simp [PH.cell, h2]⟩); refine D.addS ?_; refine D.mvI ?_; refine D.mvI ?_
  refine D.callP ?_ (hc := fun _ _ w _ _ _ => w3_c _ _ (by omega) (by omega) w)
  (first | refine D.addN ?_ | refine D.addI ?_); refine D.mvI ?_; refine D.quoN ?_
  refine D.callP ?_ (hc := fun _ _ w _ _ _ => w3_c _ _ (by omega) (by omega) w)
  refine D.mvI ?_; refine D.quoN ?_
  refine D.callP ?_ (hc := fun _ _ w _ _ _ => w3_c _ _ (by omega) (by omega) w)
  refine D.bld (vals := [(0, .int _ _), (1, .int _ _)]) [_, _] ?_; refine D.bld (vals := [(0, .string _), (1, .int _ _), (2, .agg (List.toArray [_, _]))]) [_, _, _, _, _, _, _] ?_; refine D.alloc_ ?_
  refine D.stO (fun _ => podC { podOf at_ n s with picks := [], bears := [], alone := false } (.slice none 0 0) (.slice none 0 0)) ?_ (fun _ _ _ _ => ⟨rfl, rfl, rfl⟩)
  refine D.done (fun us σ1 hle1 hfs => ?_)
  refine RS.openOwn (fun b7 h7 => ?_); refine RS.as 7 (.pointer (some ⟨b7, 0, none⟩)) h7 ?_
  (repeat (first | refine RS.seq ?_ | refine RS.region ?_ | refine RS.skip ?_ | refine RS.inBlock ?_ | refine RS.block ?_ | refine RS.exit ?_)); refine mvI ?_; refine quoN ?_
  refine callP ?_ (hc := fun w _ => w3_c _ _ (by omega) (by omega) w)
  refine eqI ?_; refine LS.done ?_; (repeat (first | refine RS.seq ?_ | refine RS.region ?_ | refine RS.regionQ ?_ (by kernel_rfl) (by kernel_rfl) | refine RS.skip ?_ | refine RS.inBlock ?_ | refine RS.block ?_ | refine RS.exit ?_))
  refine RS.cond (fun c => ?_) (fun c => ?_)
  all_goals simp only [decide_eq_true_eq, decide_eq_false_iff_not] at c
  · (repeat (first | refine RS.seq ?_ | refine RS.region ?_ | refine RS.regionQ ?_ (by kernel_rfl) (by kernel_rfl) | refine RS.skip ?_ | refine RS.inBlock ?_ | refine RS.block ?_ | refine RS.exit ?_)); refine mvI ?_; refine quoN ?_
    refine callT (fun v τ => RepL τ v (setOf (n.tdiv 500))) (fun v τ1 σ2 hq1 hN1 hle2 hτ1 => ?_) (fun w _ => lset_c _ w)
    obtain ⟨a1', c1', rfl⟩ := hq1.form
    refine fld ?_; refine st (.slice _ _ _) _ ?_; refine LS.done ?_
    (repeat (first | refine RS.seq ?_ | refine RS.region ?_ | refine RS.regionQ ?_ (by kernel_rfl) (by kernel_rfl) | refine RS.skip ?_ | refine RS.inBlock ?_ | refine RS.block ?_ | refine RS.exit ?_)); refine mvI ?_; refine quoN ?_
    refine callP ?_ (hc := fun w _ => w3_c _ _ (by omega) (by omega) w)
    refine eqI ?_; refine LS.done ?_; (repeat (first | refine RS.seq ?_ | refine RS.region ?_ | refine RS.regionQ ?_ (by kernel_rfl) (by kernel_rfl) | refine RS.skip ?_ | refine RS.inBlock ?_ | refine RS.block ?_ | refine RS.exit ?_))
    refine RS.cond (fun e => ?_) (fun e => ?_)
    all_goals simp only [decide_eq_true_eq, decide_eq_false_iff_not] at e
    · (repeat (first | refine RS.seq ?_ | refine RS.region ?_ | refine RS.regionQ ?_ (by kernel_rfl) (by kernel_rfl) | refine RS.skip ?_ | refine RS.inBlock ?_ | refine RS.block ?_ | refine RS.exit ?_)); refine mvI ?_; refine quoN ?_
      refine callT (fun v τ => RepL τ v (setOf (n.tdiv 11))) (fun v τ2 σ3 hq2 hN2 hle3 hτ2 => ?_) (fun w _ => lset_c _ w)
      obtain ⟨a2', c2', rfl⟩ := hq2.form
      refine fld ?_; refine st (.slice _ _ _) _ ?_; refine LS.done ?_
      (repeat (first | refine RS.seq ?_ | refine RS.region ?_ | refine RS.regionQ ?_ (by kernel_rfl) (by kernel_rfl) | refine RS.skip ?_ | refine RS.inBlock ?_ | refine RS.block ?_ | refine RS.exit ?_)); refine mvI ?_; refine quoN ?_
      refine callP ?_ (hc := fun w _ => w3_c _ _ (by omega) (by omega) w)
      refine eqI ?_; refine fld ?_; refine st (.bool _) _ ?_; refine LS.done ?_
      (repeat (first | refine RS.seq ?_ | refine RS.region ?_ | refine RS.regionQ ?_ (by kernel_rfl) (by kernel_rfl) | refine RS.skip ?_ | refine RS.inBlock ?_ | refine RS.block ?_ | refine RS.exit ?_)); refine ldA [_, _, _, _, _, _, _] ?_; refine st (.agg _) _ ?_; refine LS.done ?_; (repeat (first | refine RS.seq ?_ | refine RS.region ?_ | refine RS.regionQ ?_ (by kernel_rfl) (by kernel_rfl) | refine RS.skip ?_ | refine RS.inBlock ?_ | refine RS.block ?_ | refine RS.exit ?_)); refine RS.retC (ty := 36) Tryd.func28 [_, _, _, _, _, _, _] fun w hw => ?_
      refine ⟨_, rfl, hw.below, _, rfl, _, _, rfl, by show (letter _ _).size ≤ _; rw [letter_size]; decide, by show I64 (1 + n % s); omega, by show I64 (n.tdiv 4 % 5); omega, by show I64 (n.tdiv 20 % 5); omega, ?_, ?_⟩
      · show RepL _ _ (if n.tdiv 100 % 5 = 0 then setOf (n.tdiv 500) else []); rw [if_pos c]; exact hq1.mono (hN1.le_since (PH.le_trans hτ1 hle3) hw)
      · show RepL _ _ (if n.tdiv 7 % 3 = 0 then setOf (n.tdiv 11) else []); rw [if_pos e]; exact hq2.mono (hN2.le_since hτ2 hw)
    · (repeat (first | refine RS.seq ?_ | refine RS.region ?_ | refine RS.regionQ ?_ (by kernel_rfl) (by kernel_rfl) | refine RS.skip ?_ | refine RS.inBlock ?_ | refine RS.block ?_ | refine RS.exit ?_))
      (repeat (first | refine RS.seq ?_ | refine RS.region ?_ | refine RS.regionQ ?_ (by kernel_rfl) (by kernel_rfl) | refine RS.skip ?_ | refine RS.inBlock ?_ | refine RS.block ?_ | refine RS.exit ?_)); refine mvI ?_; refine quoN ?_
      refine callP ?_ (hc := fun w _ => w3_c _ _ (by omega) (by omega) w)
      refine eqI ?_; refine fld ?_; refine st (.bool _) _ ?_; refine LS.done ?_
      (repeat (first | refine RS.seq ?_ | refine RS.region ?_ | refine RS.regionQ ?_ (by kernel_rfl) (by kernel_rfl) | refine RS.skip ?_ | refine RS.inBlock ?_ | refine RS.block ?_ | refine RS.exit ?_)); refine ldA [_, _, _, _, _, _, _] ?_; refine st (.agg _) _ ?_; refine LS.done ?_; (repeat (first | refine RS.seq ?_ | refine RS.region ?_ | refine RS.regionQ ?_ (by kernel_rfl) (by kernel_rfl) | refine RS.skip ?_ | refine RS.inBlock ?_ | refine RS.block ?_ | refine RS.exit ?_)); refine RS.retC (ty := 36) Tryd.func28 [_, _, _, _, _, _, _] fun w hw => ?_
      refine ⟨_, rfl, hw.below, _, rfl, _, _, rfl, by show (letter _ _).size ≤ _; rw [letter_size]; decide, by show I64 (1 + n % s); omega, by show I64 (n.tdiv 4 % 5); omega, by show I64 (n.tdiv 20 % 5); omega, ?_, ?_⟩
      · show RepL _ _ (if n.tdiv 100 % 5 = 0 then setOf (n.tdiv 500) else []); rw [if_pos c]; exact hq1.mono (hN1.le_since hτ1 hw)
      · show RepL _ _ (if n.tdiv 7 % 3 = 0 then setOf (n.tdiv 11) else []); rw [if_neg e]; exact RepL.nil _ _ _
  · (repeat (first | refine RS.seq ?_ | refine RS.region ?_ | refine RS.regionQ ?_ (by kernel_rfl) (by kernel_rfl) | refine RS.skip ?_ | refine RS.inBlock ?_ | refine RS.block ?_ | refine RS.exit ?_))
    (repeat (first | refine RS.seq ?_ | refine RS.region ?_ | refine RS.regionQ ?_ (by kernel_rfl) (by kernel_rfl) | refine RS.skip ?_ | refine RS.inBlock ?_ | refine RS.block ?_ | refine RS.exit ?_)); refine mvI ?_; refine quoN ?_
    refine callP ?_ (hc := fun w _ => w3_c _ _ (by omega) (by omega) w)
    refine eqI ?_; refine LS.done ?_; (repeat (first | refine RS.seq ?_ | refine RS.region ?_ | refine RS.regionQ ?_ (by kernel_rfl) (by kernel_rfl) | refine RS.skip ?_ | refine RS.inBlock ?_ | refine RS.block ?_ | refine RS.exit ?_))
    refine RS.cond (fun e => ?_) (fun e => ?_)
    all_goals simp only [decide_eq_true_eq, decide_eq_false_iff_not] at e
    · (repeat (first | refine RS.seq ?_ | refine RS.region ?_ | refine RS.regionQ ?_ (by kernel_rfl) (by kernel_rfl) | refine RS.skip ?_ | refine RS.inBlock ?_ | refine RS.block ?_ | refine RS.exit ?_)); refine mvI ?_; refine quoN ?_
      refine callT (fun v τ => RepL τ v (setOf (n.tdiv 11))) (fun v τ2 σ3 hq2 hN2 hle3 hτ2 => ?_) (fun w _ => lset_c _ w)
      obtain ⟨a2', c2', rfl⟩ := hq2.form
      refine fld ?_; refine st (.slice _ _ _) _ ?_; refine LS.done ?_
      (repeat (first | refine RS.seq ?_ | refine RS.region ?_ | refine RS.regionQ ?_ (by kernel_rfl) (by kernel_rfl) | refine RS.skip ?_ | refine RS.inBlock ?_ | refine RS.block ?_ | refine RS.exit ?_)); refine mvI ?_; refine quoN ?_
      refine callP ?_ (hc := fun w _ => w3_c _ _ (by omega) (by omega) w)
      refine eqI ?_; refine fld ?_; refine st (.bool _) _ ?_; refine LS.done ?_
      (repeat (first | refine RS.seq ?_ | refine RS.region ?_ | refine RS.regionQ ?_ (by kernel_rfl) (by kernel_rfl) | refine RS.skip ?_ | refine RS.inBlock ?_ | refine RS.block ?_ | refine RS.exit ?_)); refine ldA [_, _, _, _, _, _, _] ?_; refine st (.agg _) _ ?_; refine LS.done ?_; (repeat (first | refine RS.seq ?_ | refine RS.region ?_ | refine RS.regionQ ?_ (by kernel_rfl) (by kernel_rfl) | refine RS.skip ?_ | refine RS.inBlock ?_ | refine RS.block ?_ | refine RS.exit ?_)); refine RS.retC (ty := 36) Tryd.func28 [_, _, _, _, _, _, _] fun w hw => ?_
      refine ⟨_, rfl, hw.below, _, rfl, _, _, rfl, by show (letter _ _).size ≤ _; rw [letter_size]; decide, by show I64 (1 + n % s); omega, by show I64 (n.tdiv 4 % 5); omega, by show I64 (n.tdiv 20 % 5); omega, ?_, ?_⟩
      · show RepL _ _ (if n.tdiv 100 % 5 = 0 then setOf (n.tdiv 500) else []); rw [if_neg c]; exact RepL.nil _ _ _
      · show RepL _ _ (if n.tdiv 7 % 3 = 0 then setOf (n.tdiv 11) else []); rw [if_pos e]; exact hq2.mono (hN2.le_since hτ2 hw)
    · (repeat (first | refine RS.seq ?_ | refine RS.region ?_ | refine RS.regionQ ?_ (by kernel_rfl) (by kernel_rfl) | refine RS.skip ?_ | refine RS.inBlock ?_ | refine RS.block ?_ | refine RS.exit ?_))
      (repeat (first | refine RS.seq ?_ | refine RS.region ?_ | refine RS.regionQ ?_ (by kernel_rfl) (by kernel_rfl) | refine RS.skip ?_ | refine RS.inBlock ?_ | refine RS.block ?_ | refine RS.exit ?_)); refine mvI ?_; refine quoN ?_
      refine callP ?_ (hc := fun w _ => w3_c _ _ (by omega) (by omega) w)
      refine eqI ?_; refine fld ?_; refine st (.bool _) _ ?_; refine LS.done ?_
      (repeat (first | refine RS.seq ?_ | refine RS.region ?_ | refine RS.regionQ ?_ (by kernel_rfl) (by kernel_rfl) | refine RS.skip ?_ | refine RS.inBlock ?_ | refine RS.block ?_ | refine RS.exit ?_)); refine ldA [_, _, _, _, _, _, _] ?_; refine st (.agg _) _ ?_; refine LS.done ?_; (repeat (first | refine RS.seq ?_ | refine RS.region ?_ | refine RS.regionQ ?_ (by kernel_rfl) (by kernel_rfl) | refine RS.skip ?_ | refine RS.inBlock ?_ | refine RS.block ?_ | refine RS.exit ?_)); refine RS.retC (ty := 36) Tryd.func28 [_, _, _, _, _, _, _] fun w hw => ?_
      refine ⟨_, rfl, hw.below, _, rfl, _, _, rfl, by show (letter _ _).size ≤ _; rw [letter_size]; decide, by show I64 (1 + n % s); omega, by show I64 (n.tdiv 4 % 5); omega, by show I64 (n.tdiv 20 % 5); omega, ?_, ?_⟩
      · show RepL _ _ (if n.tdiv 100 % 5 = 0 then setOf (n.tdiv 500) else []); rw [if_neg c]; exact RepL.nil _ _ _
      · show RepL _ _ (if n.tdiv 7 % 3 = 0 then setOf (n.tdiv 11) else []); rw [if_neg e]; exact RepL.nil _ _ _

def nodeOf (a n : Int) : NodeD :=
  { name := nameOf a, cpu := n % 12, mem := n.tdiv 12 % 12, marks := setOf (n.tdiv 144), taints := if n.tdiv 23 % 3 = 0 then setOf (n.tdiv 31) else [], closed := decide (n.tdiv 17 % 9 = 0) }
theorem nameOf_size (a : Int) : (nameOf a).size ≤ 16 := by
  unfold nameOf
  rcases Nat.lt_or_ge (a % 8).toNat 8 with h | h
  · have : ∀ i : Fin 8, (names8.getD i.val ⟨#[]⟩).size ≤ 16 := by decide
    exact this ⟨_, h⟩
  · have := wmod a 8 (by omega); omega
theorem lnode_c (a n : Int) (hn : I64 n) (w : World) : Calls Tryd.prog 24 #[.int .i64 a, .int .i64 n] w fun e w' =>
    ∃ v, e = .returned v ∧ Below w.heap.size w w' ∧ ∃ cs, v = .agg (List.toArray cs) ∧ Rep.rep (since w w') cs (nodeOf a n) := by
  obtain ⟨a1, a2⟩ := wmod n 12 (by omega)
  obtain ⟨b1, b2⟩ := wmod (n.tdiv 12) 12 (by omega)
  refine RS.enter Tryd.func24 Tryd.ntmps24 rfl rfl ?_
  (repeat (first | refine RS.seq ?_ | refine RS.region ?_ | refine RS.regionQ ?_ (by kernel_rfl) (by kernel_rfl) | refine RS.skip ?_ | refine RS.inBlock ?_ | refine RS.block ?_ | refine RS.exit ?_)); refine alloc_ (fun b4 => ?_); refine LS.done ?_
  (repeat (first | refine RS.seq ?_ | refine RS.region ?_ | refine RS.regionQ ?_ (by kernel_rfl) (by kernel_rfl) | refine RS.skip ?_ | refine RS.inBlock ?_ | refine RS.block ?_ | refine RS.exit ?_)); refine mvI ?_
  refine callP ?_ (hc := fun w _ => lname_c _ w)
  refine mvI ?_
  refine callP ?_ (hc := fun w _ => w3_c _ _ (by omega) (by omega) w)
  refine mvI ?_; refine quoN ?_
  refine callP ?_ (hc := fun w _ => w3_c _ _ (by omega) (by omega) w)
  refine bld (vals := [(0, .int _ _), (1, .int _ _)]) [_, _] ?_; refine mvI ?_; refine quoN ?_
  refine callT (fun v τ => RepL τ v (setOf (n.tdiv 144))) (fun v τ1 σ2 hq1 hN1 hle2 hτ1 => ?_) (fun w _ => lset_c _ w)
  obtain ⟨a1', c1', rfl⟩ := hq1.form
  refine mvI ?_; refine quoN ?_
  refine callP ?_ (hc := fun w _ => w3_c _ _ (by omega) (by omega) w)
  refine eqI ?_; refine bld (vals := [(0, .string _), (1, .agg (List.toArray [_, _])), (2, .slice _ _ _), (4, .bool _)]) [_, _, _, _, _, _] ?_; refine alloc_ (fun b5 => ?_); refine st (.agg _) _ ?_; refine LS.done ?_
  (repeat (first | refine RS.seq ?_ | refine RS.region ?_ | refine RS.regionQ ?_ (by kernel_rfl) (by kernel_rfl) | refine RS.skip ?_ | refine RS.inBlock ?_ | refine RS.block ?_ | refine RS.exit ?_)); refine mvI ?_; refine quoN ?_
  refine callP ?_ (hc := fun w _ => w3_c _ _ (by omega) (by omega) w)
  refine eqI ?_; refine LS.done ?_; (repeat (first | refine RS.seq ?_ | refine RS.region ?_ | refine RS.regionQ ?_ (by kernel_rfl) (by kernel_rfl) | refine RS.skip ?_ | refine RS.inBlock ?_ | refine RS.block ?_ | refine RS.exit ?_))
  refine RS.cond (fun e => ?_) (fun e => ?_)
  all_goals simp only [decide_eq_true_eq, decide_eq_false_iff_not] at e
  · (repeat (first | refine RS.seq ?_ | refine RS.region ?_ | refine RS.regionQ ?_ (by kernel_rfl) (by kernel_rfl) | refine RS.skip ?_ | refine RS.inBlock ?_ | refine RS.block ?_ | refine RS.exit ?_)); refine mvI ?_; refine quoN ?_
    refine callT (fun v τ => RepL τ v (setOf (n.tdiv 31))) (fun v τ2 σ3 hq2 hN2 hle3 hτ2 => ?_) (fun w _ => lset_c _ w)
    obtain ⟨a2', c2', rfl⟩ := hq2.form
    refine fld ?_; refine st (.slice _ _ _) _ ?_; refine LS.done ?_
    (repeat (first | refine RS.seq ?_ | refine RS.region ?_ | refine RS.regionQ ?_ (by kernel_rfl) (by kernel_rfl) | refine RS.skip ?_ | refine RS.inBlock ?_ | refine RS.block ?_ | refine RS.exit ?_)); refine ldA [_, _, _, _, _, _] ?_; refine st (.agg _) _ ?_; refine LS.done ?_; (repeat (first | refine RS.seq ?_ | refine RS.region ?_ | refine RS.regionQ ?_ (by kernel_rfl) (by kernel_rfl) | refine RS.skip ?_ | refine RS.inBlock ?_ | refine RS.block ?_ | refine RS.exit ?_)); refine RS.retC (ty := 33) Tryd.func24 [_, _, _, _, _, _] fun w hw => ?_
    refine ⟨_, rfl, hw.below, _, rfl, _, _, rfl, by show (nameOf a).size ≤ _; have := nameOf_size a; omega, by show I64 (n % 12); omega, by show I64 (n.tdiv 12 % 12); omega, ?_, ?_⟩
    · exact hq1.mono (hN1.le_since (PH.le_trans hτ1 hle3) hw)
    · show RepL _ _ (if n.tdiv 23 % 3 = 0 then setOf (n.tdiv 31) else []); rw [if_pos e]; exact hq2.mono (hN2.le_since hτ2 hw)
  · (repeat (first | refine RS.seq ?_ | refine RS.region ?_ | refine RS.regionQ ?_ (by kernel_rfl) (by kernel_rfl) | refine RS.skip ?_ | refine RS.inBlock ?_ | refine RS.block ?_ | refine RS.exit ?_))
    (repeat (first | refine RS.seq ?_ | refine RS.region ?_ | refine RS.regionQ ?_ (by kernel_rfl) (by kernel_rfl) | refine RS.skip ?_ | refine RS.inBlock ?_ | refine RS.block ?_ | refine RS.exit ?_)); refine ldA [_, _, _, _, _, _] ?_; refine st (.agg _) _ ?_; refine LS.done ?_; (repeat (first | refine RS.seq ?_ | refine RS.region ?_ | refine RS.regionQ ?_ (by kernel_rfl) (by kernel_rfl) | refine RS.skip ?_ | refine RS.inBlock ?_ | refine RS.block ?_ | refine RS.exit ?_)); refine RS.retC (ty := 33) Tryd.func24 [_, _, _, _, _, _] fun w hw => ?_
    refine ⟨_, rfl, hw.below, _, rfl, _, _, rfl, by show (nameOf a).size ≤ _; have := nameOf_size a; omega, by show I64 (n % 12); omega, by show I64 (n.tdiv 12 % 12); omega, ?_, ?_⟩
    · exact hq1.mono (hN1.le_since hτ1 hw)
    · show RepL _ _ (if n.tdiv 23 % 3 = 0 then setOf (n.tdiv 31) else []); rw [if_neg e]; exact RepL.nil _ _ _
end Go.Proofs.YthnoaapghcadgaaDoor
