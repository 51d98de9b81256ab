/- Contracts: pods and nodes that may be, made of numbers. -/
import Derived.Test.YtbinkokafbpnoaaMade
namespace Go.Proofs.Ytbinkokafbpnoaa
open Go.JW Go.RowKit

def letter (p : ByteArray) (at_ : Int) : ByteArray := p ++ (List.foldl (fun (r : ByteArray) (n : Int) => r.push (UInt8.ofNat n.toNat)) ByteArray.empty [IntKind.u8.wrap (97 + at_)])
def podOf (at_ n s : Int) : PodD :=
  { name := letter ⟨#[112]⟩ at_, shard := 1 + n % s, cpu := n.tdiv 4 % 5, mem := n.tdiv 20 % 5, picks := if n.tdiv 100 % 5 = 0 then setOf (n.tdiv 500) else [], bears := if n.tdiv 7 % 3 = 0 then setOf (n.tdiv 11) else [], alone := decide (n.tdiv 13 % 6 = 0) }
theorem letter_size (p : ByteArray) (a : Int) : (letter p a).size = p.size + 1 := by
  simp only [letter, ByteArray.size_append, List.foldl]; rw [ByteArray.size_push]; rfl

def nodeOf (a n : Int) : NodeD :=
  { name := nameOf a, cpu := n % 12, mem := n.tdiv 12 % 12, marks := setOf (n.tdiv 144), taints := if n.tdiv 23 % 3 = 0 then setOf (n.tdiv 31) else [], closed := decide (n.tdiv 17 % 9 = 0) }
theorem nameOf_size (a : Int) : (nameOf a).size ≤ 16 := by
  unfold nameOf
  rcases Nat.lt_or_ge (a % 8).toNat 8 with h | h
  · have : ∀ i : Fin 8, (names8.getD i.val ⟨#[]⟩).size ≤ 16 := by decide
    exact this ⟨_, h⟩
  · have := wmod a 8 (by omega); omega
theorem lnode_c (a n : Int) (hn : I64 n) (w : World) : Calls Try.prog 17 #[.int .i64 a, .int .i64 n] w fun e w' =>
    ∃ v, e = .returned v ∧ Below w.heap.size w w' ∧ ∃ cs, v = .agg (List.toArray cs) ∧ Rep.rep (since w w') cs (nodeOf a n) := by
  obtain ⟨a1, a2⟩ := wmod n 12 (by omega)
  obtain ⟨b1, b2⟩ := wmod (n.tdiv 12) 12 (by omega)
  refine RS.enter Try.func17 Try.ntmps17 rfl rfl ?_
  (repeat (first | refine RS.seq ?_ | refine RS.region ?_ | refine RS.regionQ ?_ (by kernel_rfl) (by kernel_rfl) | refine RS.skip ?_ | refine RS.inBlock ?_ | refine RS.block ?_ | refine RS.exit ?_)); refine alloc_ (fun b4 => ?_); refine LS.done ?_
  (repeat (first | refine RS.seq ?_ | refine RS.region ?_ | refine RS.regionQ ?_ (by kernel_rfl) (by kernel_rfl) | refine RS.skip ?_ | refine RS.inBlock ?_ | refine RS.block ?_ | refine RS.exit ?_)); refine mvI ?_
  refine callP ?_ (hc := fun w _ => lname_c _ w)
  refine mvI ?_
  refine callP ?_ (hc := fun w _ => w3_c _ _ (by omega) (by omega) w)
  refine mvI ?_; refine quoN ?_
  refine callP ?_ (hc := fun w _ => w3_c _ _ (by omega) (by omega) w)
  refine bld (vals := [(0, .int _ _), (1, .int _ _)]) [_, _] ?_; refine mvI ?_; refine quoN ?_
  refine callT (fun v τ => RepL τ v (setOf (n.tdiv 144))) (fun v τ1 σ2 hq1 hN1 hle2 hτ1 => ?_) (fun w _ => lset_c _ w)
  obtain ⟨a1', c1', rfl⟩ := hq1.form
  refine mvI ?_; refine quoN ?_
  refine callP ?_ (hc := fun w _ => w3_c _ _ (by omega) (by omega) w)
  refine eqI ?_; refine bld (vals := [(0, .string _), (1, .agg (List.toArray [_, _])), (2, .slice _ _ _), (4, .bool _)]) [_, _, _, _, _, _] ?_; refine alloc_ (fun b5 => ?_); refine st (.agg _) _ ?_; refine LS.done ?_
  (repeat (first | refine RS.seq ?_ | refine RS.region ?_ | refine RS.regionQ ?_ (by kernel_rfl) (by kernel_rfl) | refine RS.skip ?_ | refine RS.inBlock ?_ | refine RS.block ?_ | refine RS.exit ?_)); refine mvI ?_; refine quoN ?_
  refine callP ?_ (hc := fun w _ => w3_c _ _ (by omega) (by omega) w)
  refine eqI ?_; refine LS.done ?_; (repeat (first | refine RS.seq ?_ | refine RS.region ?_ | refine RS.regionQ ?_ (by kernel_rfl) (by kernel_rfl) | refine RS.skip ?_ | refine RS.inBlock ?_ | refine RS.block ?_ | refine RS.exit ?_))
  refine RS.cond (fun e => ?_) (fun e => ?_)
  all_goals simp only [decide_eq_true_eq, decide_eq_false_iff_not] at e
  · (repeat (first | refine RS.seq ?_ | refine RS.region ?_ | refine RS.regionQ ?_ (by kernel_rfl) (by kernel_rfl) | refine RS.skip ?_ | refine RS.inBlock ?_ | refine RS.block ?_ | refine RS.exit ?_)); refine mvI ?_; refine quoN ?_
    refine callT (fun v τ => RepL τ v (setOf (n.tdiv 31))) (fun v τ2 σ3 hq2 hN2 hle3 hτ2 => ?_) (fun w _ => lset_c _ w)
    obtain ⟨a2', c2', rfl⟩ := hq2.form
    refine fld ?_; refine st (.slice _ _ _) _ ?_; refine LS.done ?_
    (repeat (first | refine RS.seq ?_ | refine RS.region ?_ | refine RS.regionQ ?_ (by kernel_rfl) (by kernel_rfl) | refine RS.skip ?_ | refine RS.inBlock ?_ | refine RS.block ?_ | refine RS.exit ?_)); refine ldA [_, _, _, _, _, _] ?_; refine st (.agg _) _ ?_; refine LS.done ?_; (repeat (first | refine RS.seq ?_ | refine RS.region ?_ | refine RS.regionQ ?_ (by kernel_rfl) (by kernel_rfl) | refine RS.skip ?_ | refine RS.inBlock ?_ | refine RS.block ?_ | refine RS.exit ?_)); refine RS.retC (ty := 33) Try.func17 [_, _, _, _, _, _] fun w hw => ?_
    refine ⟨_, rfl, hw.below, _, rfl, _, _, rfl, by show (nameOf a).size ≤ _; have := nameOf_size a; omega, by show I64 (n % 12); omega, by show I64 (n.tdiv 12 % 12); omega, ?_, ?_⟩
    · exact hq1.mono (hN1.le_since (PH.le_trans hτ1 hle3) hw)
    · show RepL _ _ (if n.tdiv 23 % 3 = 0 then setOf (n.tdiv 31) else []); rw [if_pos e]; exact hq2.mono (hN2.le_since hτ2 hw)
  · (repeat (first | refine RS.seq ?_ | refine RS.region ?_ | refine RS.regionQ ?_ (by kernel_rfl) (by kernel_rfl) | refine RS.skip ?_ | refine RS.inBlock ?_ | refine RS.block ?_ | refine RS.exit ?_))
    (repeat (first | refine RS.seq ?_ | refine RS.region ?_ | refine RS.regionQ ?_ (by kernel_rfl) (by kernel_rfl) | refine RS.skip ?_ | refine RS.inBlock ?_ | refine RS.block ?_ | refine RS.exit ?_)); refine ldA [_, _, _, _, _, _] ?_; refine st (.agg _) _ ?_; refine LS.done ?_; (repeat (first | refine RS.seq ?_ | refine RS.region ?_ | refine RS.regionQ ?_ (by kernel_rfl) (by kernel_rfl) | refine RS.skip ?_ | refine RS.inBlock ?_ | refine RS.block ?_ | refine RS.exit ?_)); refine RS.retC (ty := 33) Try.func17 [_, _, _, _, _, _] fun w hw => ?_
    refine ⟨_, rfl, hw.below, _, rfl, _, _, rfl, by show (nameOf a).size ≤ _; have := nameOf_size a; omega, by show I64 (n % 12); omega, by show I64 (n.tdiv 12 % 12); omega, ?_, ?_⟩
    · exact hq1.mono (hN1.le_since hτ1 hw)
    · show RepL _ _ (if n.tdiv 23 % 3 = 0 then setOf (n.tdiv 31) else []); rw [if_neg e]; exact RepL.nil _ _ _
end Go.Proofs.Ytbinkokafbpnoaa
