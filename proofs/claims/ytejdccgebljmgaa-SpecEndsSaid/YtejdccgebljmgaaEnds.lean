/- The law SpecEnds answers true. -/
import Derived.Test.YtejdccgebljmgaaKnown
namespace Go.Proofs.Ytejdccgebljmgaa
open Go.JW Go.RowKit

theorem podP (c : ByteArray) (hn : isName c = true) (sh cp m s : Int) : podErr ⟨c, sh, cp, m, [], [], false⟩ s = if 1 ≤ sh ∧ sh ≤ s ∧ 0 ≤ cp ∧ cp ≤ 1099511627776 ∧ 0 ≤ m ∧ m ≤ 1099511627776 then 0 else 2 := by
  have h0 : isSet [] = true := by decide
  simp only [podErr, hn, h0]
  by_cases h : 1 ≤ sh ∧ sh ≤ s ∧ 0 ≤ cp ∧ cp ≤ 1099511627776 ∧ 0 ≤ m ∧ m ≤ 1099511627776
  · rw [if_pos h]
    have e : (decide (sh < 1) || decide (s < sh) || !sizeOk cp m) = false := by
      simp only [sizeOk, size1, Bool.or_eq_false_iff, decide_eq_false_iff_not, Bool.not_eq_false', Bool.and_eq_true, decide_eq_true_eq]; omega
    rw [e]; simp
  · rw [if_neg h]
    have e : (decide (sh < 1) || decide (s < sh) || !sizeOk cp m) = true := by
      simp only [sizeOk, size1, Bool.or_eq_true, decide_eq_true_eq, Bool.not_eq_true', Bool.and_eq_false_iff, decide_eq_false_iff_not]; omega
    rw [e]; simp
theorem nodeP (c : ByteArray) (hn : isName c = true) (cp m : Int) : nodeErr ⟨c, cp, m, [], [], false⟩ = if 0 ≤ cp ∧ cp ≤ 1099511627776 ∧ 0 ≤ m ∧ m ≤ 1099511627776 then 0 else 2 := by
  have h0 : isSet [] = true := by decide
  simp only [nodeErr, hn, h0]
  by_cases h : 0 ≤ cp ∧ cp ≤ 1099511627776 ∧ 0 ≤ m ∧ m ≤ 1099511627776
  · rw [if_pos h]
    have e : sizeOk cp m = true := by
      simp only [sizeOk, size1, Bool.and_eq_true, decide_eq_true_eq]; omega
    rw [e]; simp
  · rw [if_neg h]
    have e : sizeOk cp m = false := by
      simp only [sizeOk, size1, Bool.and_eq_false_iff, decide_eq_false_iff_not]; omega
    rw [e]; simp
theorem pod0 (w : World) (c : ByteArray) (sh cp m : Int) (hc : c.size ≤ 140737488355328) (h1 : I64 sh) (h2 : I64 cp) (h3 : I64 m) :
    Rep.rep (hp w) [.string c, .int .i64 sh, .int .i64 cp, .int .i64 m, .slice none 0 0, .slice none 0 0, .bool false] (⟨c, sh, cp, m, [], [], false⟩ : PodD) := ⟨_, _, rfl, hc, h1, h2, h3, RepL.nil _ _ _, RepL.nil _ _ _⟩
theorem node0 (w : World) (c : ByteArray) (cp m : Int) (hc : c.size ≤ 140737488355328) (h2 : I64 cp) (h3 : I64 m) :
    Rep.rep (hp w) [.string c, .int .i64 cp, .int .i64 m, .slice none 0 0, .slice none 0 0, .bool false] (⟨c, cp, m, [], [], false⟩ : NodeD) := ⟨_, _, rfl, hc, h2, h3, RepL.nil _ _ _, RepL.nil _ _ _⟩
theorem ends_c (which shards : Int) (w : World) : Calls Try.prog 5 #[.int .i64 which, .int .i64 shards] w fun e w' => e = .returned (.bool true) ∧ Below w.heap.size w w' := by
  have hnp : isName ⟨#[112]⟩ = true := by decide
  have hnn : isName ⟨#[110]⟩ = true := by decide
  obtain ⟨a1, a2⟩ := wmod shards 4 (by omega)
  obtain ⟨b1, b2⟩ := wmod which 5 (by omega)
  refine RS.enter Try.func5 Try.ntmps5 rfl rfl ?_
  (repeat (first | refine RS.seq ?_ | refine RS.region ?_ | refine RS.regionQ ?_ (by kernel_rfl) (by kernel_rfl) | refine RS.skip ?_ | refine RS.inBlock ?_ | refine RS.block ?_ | refine RS.exit ?_)); refine asB ?_; refine LS.done ?_
  (repeat (first | refine RS.seq ?_ | refine RS.region ?_ | refine RS.regionQ ?_ (by kernel_rfl) (by kernel_rfl) | refine RS.skip ?_ | refine RS.inBlock ?_ | refine RS.block ?_ | refine RS.exit ?_)); skip
  refine callP ?_ (hc := fun w _ => known_c w)
  refine not_ ?_; refine LS.done ?_
  (repeat (first | refine RS.seq ?_ | refine RS.region ?_ | refine RS.regionQ ?_ (by kernel_rfl) (by kernel_rfl) | refine RS.skip ?_ | refine RS.inBlock ?_ | refine RS.block ?_ | refine RS.exit ?_)); refine RS.condF ?_
  (repeat (first | refine RS.seq ?_ | refine RS.region ?_ | refine RS.regionQ ?_ (by kernel_rfl) (by kernel_rfl) | refine RS.skip ?_ | refine RS.inBlock ?_ | refine RS.block ?_ | refine RS.exit ?_)); refine mvI ?_
  refine callP ?_ (hc := fun w _ => w3_c _ _ (by omega) (by omega) w)
  (first | refine addN ?_ | refine addI ?_); refine asI ?_; refine LS.done ?_
  (repeat (first | refine RS.seq ?_ | refine RS.region ?_ | refine RS.regionQ ?_ (by kernel_rfl) (by kernel_rfl) | refine RS.skip ?_ | refine RS.inBlock ?_ | refine RS.block ?_ | refine RS.exit ?_)); refine bld (vals := [(0, .string _), (1, .int _ _)]) [_, _, _, _, _, _, _] ?_; refine alloc_ (fun b6 => ?_); refine st (.agg _) _ ?_; refine LS.done ?_; (repeat (first | refine RS.seq ?_ | refine RS.region ?_ | refine RS.regionQ ?_ (by kernel_rfl) (by kernel_rfl) | refine RS.skip ?_ | refine RS.inBlock ?_ | refine RS.block ?_ | refine RS.exit ?_)); refine ldA [_, _, _, _, _, _, _] ?_; refine alloc_ (fun b7 => ?_); refine st (.agg _) _ ?_; refine LS.done ?_; (repeat (first | refine RS.seq ?_ | refine RS.region ?_ | refine RS.regionQ ?_ (by kernel_rfl) (by kernel_rfl) | refine RS.skip ?_ | refine RS.inBlock ?_ | refine RS.block ?_ | refine RS.exit ?_)); refine bld (vals := [(0, .string _)]) [_, _, _, _, _, _] ?_; refine alloc_ (fun b8 => ?_); refine st (.agg _) _ ?_; refine LS.done ?_; (repeat (first | refine RS.seq ?_ | refine RS.region ?_ | refine RS.regionQ ?_ (by kernel_rfl) (by kernel_rfl) | refine RS.skip ?_ | refine RS.inBlock ?_ | refine RS.block ?_ | refine RS.exit ?_)); refine ldA [_, _, _, _, _, _] ?_; refine alloc_ (fun b9 => ?_); refine st (.agg _) _ ?_; refine LS.done ?_; (repeat (first | refine RS.seq ?_ | refine RS.region ?_ | refine RS.regionQ ?_ (by kernel_rfl) (by kernel_rfl) | refine RS.skip ?_ | refine RS.inBlock ?_ | refine RS.block ?_ | refine RS.exit ?_)); refine mvI ?_
  refine callP ?_ (hc := fun w _ => w3_c _ _ (by omega) (by omega) w)
  refine LS.done ?_
  (repeat (first | refine RS.seq ?_ | refine RS.region ?_ | refine RS.regionQ ?_ (by kernel_rfl) (by kernel_rfl) | refine RS.skip ?_ | refine RS.inBlock ?_ | refine RS.block ?_ | refine RS.exit ?_)); refine eqI ?_; refine asB ?_; refine LS.done ?_; (repeat (first | refine RS.seq ?_ | refine RS.region ?_ | refine RS.regionQ ?_ (by kernel_rfl) (by kernel_rfl) | refine RS.skip ?_ | refine RS.inBlock ?_ | refine RS.block ?_ | refine RS.exit ?_))
  refine RS.cond (fun c0 => ?_) (fun c0 => ?_)
  · (repeat (first | refine RS.seq ?_ | refine RS.region ?_ | refine RS.regionQ ?_ (by kernel_rfl) (by kernel_rfl) | refine RS.skip ?_ | refine RS.inBlock ?_ | refine RS.block ?_ | refine RS.exit ?_)); refine mvI ?_; refine mvI ?_; (first | refine addN ?_ | refine addI ?_); refine fld ?_; refine st (.int _ _) _ ?_; refine fld ?_; refine st (.int _ _) _ ?_; refine LS.done ?_; (repeat (first | refine RS.seq ?_ | refine RS.region ?_ | refine RS.regionQ ?_ (by kernel_rfl) (by kernel_rfl) | refine RS.skip ?_ | refine RS.inBlock ?_ | refine RS.block ?_ | refine RS.exit ?_))
    refine ldA [_, _, _, _, _, _, _] ?_; refine mvI ?_
    refine callP ?_ (hc := fun w _ => pod_c _ ⟨⟨#[112]⟩, 1 + shards % 4, 0, 0, [], [], false⟩ (1 + shards % 4) w (pod0 w _ _ _ _ (by decide) (by constructor <;> omega) (by constructor <;> omega) (by constructor <;> omega)))
    refine eqI ?_; refine mvB ?_
    refine LS.part 61 (fun g1 => ?_) (fun g1 => ?_)
    · refine LS.on ?_; refine ldA [_, _, _, _, _, _, _] ?_; refine LS.on ?_; refine mvI ?_; refine LS.on ?_
      refine callP ?_ (hc := fun w _ => pod_c _ ⟨⟨#[112]⟩, 1 + shards % 4 + 1, 0, 0, [], [], false⟩ (1 + shards % 4) w (pod0 w _ _ _ _ (by decide) (by constructor <;> omega) (by constructor <;> omega) (by constructor <;> omega)))
      refine LS.on ?_; refine eqI ?_; refine pk (v := .bool _) ?_; refine asB ?_; refine LS.done ?_
      (repeat (first | refine RS.seq ?_ | refine RS.region ?_ | refine RS.regionQ ?_ (by kernel_rfl) (by kernel_rfl) | refine RS.skip ?_ | refine RS.inBlock ?_ | refine RS.block ?_ | refine RS.exit ?_)); refine RS.ret1 (v := .bool _) Try.func5 fun w hw => ?_
      exact ⟨retB (by rw [podP _ hnp, if_neg (by omega)]; rfl), hw.below⟩
    · exfalso; rw [podP _ hnp, if_pos (by omega)] at g1; simp at g1
  (repeat (first | refine RS.seq ?_ | refine RS.region ?_ | refine RS.regionQ ?_ (by kernel_rfl) (by kernel_rfl) | refine RS.skip ?_ | refine RS.inBlock ?_ | refine RS.block ?_ | refine RS.exit ?_)); refine eqI ?_; refine asB ?_; refine LS.done ?_; (repeat (first | refine RS.seq ?_ | refine RS.region ?_ | refine RS.regionQ ?_ (by kernel_rfl) (by kernel_rfl) | refine RS.skip ?_ | refine RS.inBlock ?_ | refine RS.block ?_ | refine RS.exit ?_))
  refine RS.cond (fun c1 => ?_) (fun c1 => ?_)
  · (repeat (first | refine RS.seq ?_ | refine RS.region ?_ | refine RS.regionQ ?_ (by kernel_rfl) (by kernel_rfl) | refine RS.skip ?_ | refine RS.inBlock ?_ | refine RS.block ?_ | refine RS.exit ?_)); refine fld ?_; refine st (.int _ _) _ ?_; refine LS.done ?_; (repeat (first | refine RS.seq ?_ | refine RS.region ?_ | refine RS.regionQ ?_ (by kernel_rfl) (by kernel_rfl) | refine RS.skip ?_ | refine RS.inBlock ?_ | refine RS.block ?_ | refine RS.exit ?_))
    refine ldA [_, _, _, _, _, _, _] ?_; refine mvI ?_
    refine callP ?_ (hc := fun w _ => pod_c _ ⟨⟨#[112]⟩, 1, 0, 0, [], [], false⟩ (1 + shards % 4) w (pod0 w _ _ _ _ (by decide) (by constructor <;> omega) (by constructor <;> omega) (by constructor <;> omega)))
    refine eqI ?_; refine mvB ?_
    refine LS.part 61 (fun g1 => ?_) (fun g1 => ?_)
    · refine LS.on ?_; refine ldA [_, _, _, _, _, _, _] ?_; refine LS.on ?_; refine mvI ?_; refine LS.on ?_
      refine callP ?_ (hc := fun w _ => pod_c _ ⟨⟨#[112]⟩, 0, 0, 0, [], [], false⟩ (1 + shards % 4) w (pod0 w _ _ _ _ (by decide) (by constructor <;> omega) (by constructor <;> omega) (by constructor <;> omega)))
      refine LS.on ?_; refine eqI ?_; refine pk (v := .bool _) ?_; refine asB ?_; refine LS.done ?_
      (repeat (first | refine RS.seq ?_ | refine RS.region ?_ | refine RS.regionQ ?_ (by kernel_rfl) (by kernel_rfl) | refine RS.skip ?_ | refine RS.inBlock ?_ | refine RS.block ?_ | refine RS.exit ?_)); refine RS.ret1 (v := .bool _) Try.func5 fun w hw => ?_
      exact ⟨retB (by rw [podP _ hnp, if_neg (by omega)]; rfl), hw.below⟩
    · exfalso; rw [podP _ hnp, if_pos (by omega)] at g1; simp at g1
  (repeat (first | refine RS.seq ?_ | refine RS.region ?_ | refine RS.regionQ ?_ (by kernel_rfl) (by kernel_rfl) | refine RS.skip ?_ | refine RS.inBlock ?_ | refine RS.block ?_ | refine RS.exit ?_)); refine eqI ?_; refine asB ?_; refine LS.done ?_; (repeat (first | refine RS.seq ?_ | refine RS.region ?_ | refine RS.regionQ ?_ (by kernel_rfl) (by kernel_rfl) | refine RS.skip ?_ | refine RS.inBlock ?_ | refine RS.block ?_ | refine RS.exit ?_))
  refine RS.cond (fun c2 => ?_) (fun c2 => ?_)
  · (repeat (first | refine RS.seq ?_ | refine RS.region ?_ | refine RS.regionQ ?_ (by kernel_rfl) (by kernel_rfl) | refine RS.skip ?_ | refine RS.inBlock ?_ | refine RS.block ?_ | refine RS.exit ?_)); refine bld (vals := [(0, .int _ _), (1, .int _ _)]) [_, _] ?_; refine bld (vals := [(0, .int _ _)]) [_, _] ?_; refine fld ?_; refine st (.agg _) _ ?_; refine fld ?_; refine st (.agg _) _ ?_; refine LS.done ?_; (repeat (first | refine RS.seq ?_ | refine RS.region ?_ | refine RS.regionQ ?_ (by kernel_rfl) (by kernel_rfl) | refine RS.skip ?_ | refine RS.inBlock ?_ | refine RS.block ?_ | refine RS.exit ?_))
    refine ldA [_, _, _, _, _, _, _] ?_; refine mvI ?_
    refine callP ?_ (hc := fun w _ => pod_c _ ⟨⟨#[112]⟩, 1, 1099511627776, 1099511627776, [], [], false⟩ (1 + shards % 4) w (pod0 w _ _ _ _ (by decide) (by constructor <;> omega) (by constructor <;> omega) (by constructor <;> omega)))
    refine eqI ?_; refine mvB ?_
    refine LS.part 61 (fun g1 => ?_) (fun g1 => ?_)
    · refine LS.on ?_; refine ldA [_, _, _, _, _, _, _] ?_; refine LS.on ?_; refine mvI ?_; refine LS.on ?_
      refine callP ?_ (hc := fun w _ => pod_c _ ⟨⟨#[112]⟩, 1, 1099511627777, 0, [], [], false⟩ (1 + shards % 4) w (pod0 w _ _ _ _ (by decide) (by constructor <;> omega) (by constructor <;> omega) (by constructor <;> omega)))
      refine LS.on ?_; refine eqI ?_; refine pk (v := .bool _) ?_; refine asB ?_; refine LS.done ?_
      (repeat (first | refine RS.seq ?_ | refine RS.region ?_ | refine RS.regionQ ?_ (by kernel_rfl) (by kernel_rfl) | refine RS.skip ?_ | refine RS.inBlock ?_ | refine RS.block ?_ | refine RS.exit ?_)); refine RS.ret1 (v := .bool _) Try.func5 fun w hw => ?_
      exact ⟨retB (by rw [podP _ hnp, if_neg (by omega)]; rfl), hw.below⟩
    · exfalso; rw [podP _ hnp, if_pos (by omega)] at g1; simp at g1
  (repeat (first | refine RS.seq ?_ | refine RS.region ?_ | refine RS.regionQ ?_ (by kernel_rfl) (by kernel_rfl) | refine RS.skip ?_ | refine RS.inBlock ?_ | refine RS.block ?_ | refine RS.exit ?_)); refine eqI ?_; refine asB ?_; refine LS.done ?_; (repeat (first | refine RS.seq ?_ | refine RS.region ?_ | refine RS.regionQ ?_ (by kernel_rfl) (by kernel_rfl) | refine RS.skip ?_ | refine RS.inBlock ?_ | refine RS.block ?_ | refine RS.exit ?_))
  refine RS.cond (fun c3 => ?_) (fun c3 => ?_)
  · (repeat (first | refine RS.seq ?_ | refine RS.region ?_ | refine RS.regionQ ?_ (by kernel_rfl) (by kernel_rfl) | refine RS.skip ?_ | refine RS.inBlock ?_ | refine RS.block ?_ | refine RS.exit ?_)); refine bld (vals := []) [_, _] ?_; refine bld (vals := [(1, .int _ _)]) [_, _] ?_; refine fld ?_; refine st (.agg _) _ ?_; refine fld ?_; refine st (.agg _) _ ?_; refine LS.done ?_; (repeat (first | refine RS.seq ?_ | refine RS.region ?_ | refine RS.regionQ ?_ (by kernel_rfl) (by kernel_rfl) | refine RS.skip ?_ | refine RS.inBlock ?_ | refine RS.block ?_ | refine RS.exit ?_))
    refine ldA [_, _, _, _, _, _, _] ?_; refine mvI ?_
    refine callP ?_ (hc := fun w _ => pod_c _ ⟨⟨#[112]⟩, 1, 0, 0, [], [], false⟩ (1 + shards % 4) w (pod0 w _ _ _ _ (by decide) (by constructor <;> omega) (by constructor <;> omega) (by constructor <;> omega)))
    refine eqI ?_; refine mvB ?_
    refine LS.part 61 (fun g1 => ?_) (fun g1 => ?_)
    · refine LS.on ?_; refine ldA [_, _, _, _, _, _, _] ?_; refine LS.on ?_; refine mvI ?_; refine LS.on ?_
      refine callP ?_ (hc := fun w _ => pod_c _ ⟨⟨#[112]⟩, 1, 0, -1, [], [], false⟩ (1 + shards % 4) w (pod0 w _ _ _ _ (by decide) (by constructor <;> omega) (by constructor <;> omega) (by constructor <;> omega)))
      refine LS.on ?_; refine eqI ?_; refine pk (v := .bool _) ?_; refine asB ?_; refine LS.done ?_
      (repeat (first | refine RS.seq ?_ | refine RS.region ?_ | refine RS.regionQ ?_ (by kernel_rfl) (by kernel_rfl) | refine RS.skip ?_ | refine RS.inBlock ?_ | refine RS.block ?_ | refine RS.exit ?_)); refine RS.ret1 (v := .bool _) Try.func5 fun w hw => ?_
      exact ⟨retB (by rw [podP _ hnp, if_neg (by omega)]; rfl), hw.below⟩
    · exfalso; rw [podP _ hnp, if_pos (by omega)] at g1; simp at g1
  (repeat (first | refine RS.seq ?_ | refine RS.region ?_ | refine RS.regionQ ?_ (by kernel_rfl) (by kernel_rfl) | refine RS.skip ?_ | refine RS.inBlock ?_ | refine RS.block ?_ | refine RS.exit ?_)); refine eqI ?_; refine asB ?_; refine LS.done ?_; (repeat (first | refine RS.seq ?_ | refine RS.region ?_ | refine RS.regionQ ?_ (by kernel_rfl) (by kernel_rfl) | refine RS.skip ?_ | refine RS.inBlock ?_ | refine RS.block ?_ | refine RS.exit ?_))
  refine RS.cond (fun c4 => ?_) (fun c4 => ?_)
  · (repeat (first | refine RS.seq ?_ | refine RS.region ?_ | refine RS.regionQ ?_ (by kernel_rfl) (by kernel_rfl) | refine RS.skip ?_ | refine RS.inBlock ?_ | refine RS.block ?_ | refine RS.exit ?_)); refine bld (vals := [(0, .int _ _), (1, .int _ _)]) [_, _] ?_; refine bld (vals := [(1, .int _ _)]) [_, _] ?_; refine fld ?_; refine st (.agg _) _ ?_; refine fld ?_; refine st (.agg _) _ ?_; refine LS.done ?_; (repeat (first | refine RS.seq ?_ | refine RS.region ?_ | refine RS.regionQ ?_ (by kernel_rfl) (by kernel_rfl) | refine RS.skip ?_ | refine RS.inBlock ?_ | refine RS.block ?_ | refine RS.exit ?_)); refine ldA [_, _, _, _, _, _] ?_
    refine callP ?_ (hc := fun w _ => node_c _ ⟨⟨#[110]⟩, 1099511627776, 1099511627776, [], [], false⟩ w (node0 w _ _ _ (by decide) (by decide) (by decide)))
    refine eqI ?_; refine mvB ?_
    refine LS.part 52 (fun g1 => ?_) (fun g1 => ?_)
    · refine LS.on ?_; refine ldA [_, _, _, _, _, _] ?_; refine LS.on ?_
      refine callP ?_ (hc := fun w _ => node_c _ ⟨⟨#[110]⟩, 0, 1099511627777, [], [], false⟩ w (node0 w _ _ _ (by decide) (by decide) (by decide)))
      refine LS.on ?_; refine eqI ?_; refine pk (v := .bool _) ?_; refine asB ?_; refine LS.done ?_
      (repeat (first | refine RS.seq ?_ | refine RS.region ?_ | refine RS.regionQ ?_ (by kernel_rfl) (by kernel_rfl) | refine RS.skip ?_ | refine RS.inBlock ?_ | refine RS.block ?_ | refine RS.exit ?_)); refine RS.ret1 (v := .bool _) Try.func5 fun w hw => ?_
      exact ⟨retB (by rw [nodeP _ hnn, if_neg (by omega)]; rfl), hw.below⟩
    · exfalso; rw [nodeP _ hnn, if_pos (by omega)] at g1; simp at g1
  · exfalso; simp at c0 c1 c2 c3 c4; omega
end Go.Proofs.Ytejdccgebljmgaa
