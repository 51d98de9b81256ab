/- Contracts: what is known at once. -/
import Derived.Test.YtejdccgebljmgaaMadePod
import Derived.Test.YtejdccgebljmgaaShelf
namespace Go.Proofs.Ytejdccgebljmgaa
open Go.JW Go.RowKit

theorem shards0_c (w : World) : Calls Try.prog 26 #[.agg #[.int .i64 0, .slice none 0 0]] w fun e w' => e = .returned (.slice none 0 0) ∧ Below w.heap.size w w' := by
  refine RS.enter Try.func26 Try.ntmps26 rfl rfl ?_
  (repeat (first | refine RS.seq ?_ | refine RS.region ?_ | refine RS.regionQ ?_ (by kernel_rfl) (by kernel_rfl) | refine RS.skip ?_ | refine RS.inBlock ?_ | refine RS.block ?_ | refine RS.exit ?_)); refine box_ (v := .agg _) (cs := [_, _]) (fun b1 => ?_); refine asL ?_; refine LS.done ?_
  (repeat (first | refine RS.seq ?_ | refine RS.region ?_ | refine RS.regionQ ?_ (by kernel_rfl) (by kernel_rfl) | refine RS.skip ?_ | refine RS.inBlock ?_ | refine RS.block ?_ | refine RS.exit ?_)); refine asL ?_; refine LS.done ?_
  (repeat (first | refine RS.seq ?_ | refine RS.region ?_ | refine RS.regionQ ?_ (by kernel_rfl) (by kernel_rfl) | refine RS.skip ?_ | refine RS.inBlock ?_ | refine RS.block ?_ | refine RS.exit ?_)); refine fld ?_; refine ld1 (v := .slice _ _ _) ?_; refine lenL ?_; refine mvI ?_; refine LS.done ?_
  (repeat (first | refine RS.seq ?_ | refine RS.region ?_ | refine RS.regionQ ?_ (by kernel_rfl) (by kernel_rfl) | refine RS.skip ?_ | refine RS.inBlock ?_ | refine RS.block ?_ | refine RS.exit ?_))
  refine RS.loopF (X := Unit) 10 19 (fun _ => True) (fun _ => []) (fun _ => hp w) (fun _ => []) (fun _ => 0) () trivial trivial rfl inferInstance ?_
  rintro ⟨⟩ g _ _
  (repeat (first | refine RS.seq ?_ | refine RS.region ?_ | refine RS.regionQ ?_ (by kernel_rfl) (by kernel_rfl) | refine RS.skip ?_ | refine RS.inBlock ?_ | refine RS.block ?_ | refine RS.exit ?_)); refine ltI ?_; refine LS.done ?_
  (repeat (first | refine RS.seq ?_ | refine RS.region ?_ | refine RS.regionQ ?_ (by kernel_rfl) (by kernel_rfl) | refine RS.skip ?_ | refine RS.inBlock ?_ | refine RS.block ?_ | refine RS.exit ?_))
  refine RS.condF ?_ (h := by simp)
  (repeat (first | refine RS.seq ?_ | refine RS.region ?_ | refine RS.regionQ ?_ (by kernel_rfl) (by kernel_rfl) | refine RS.skip ?_ | refine RS.inBlock ?_ | refine RS.block ?_ | refine RS.exit ?_)); refine mvL ?_
  refine callP ?_ (hc := fun w _ => (Try.slices_Sort_int_none none 0 w).mono fun _ _ ⟨h1, h2⟩ => ⟨h1, by rw [h2]; exact Below.refl _ _⟩)
  refine LS.done ?_
  (repeat (first | refine RS.seq ?_ | refine RS.region ?_ | refine RS.regionQ ?_ (by kernel_rfl) (by kernel_rfl) | refine RS.skip ?_ | refine RS.inBlock ?_ | refine RS.block ?_ | refine RS.exit ?_)); refine mvL ?_
  refine callP ?_ (hc := fun w _ => (Try.slices_Compact_int_empty none 0 w).mono fun _ _ ⟨h1, h2⟩ => ⟨h1, by rw [h2]; exact Below.refl _ _⟩)
  refine asL ?_; refine LS.done ?_
  (repeat (first | refine RS.seq ?_ | refine RS.region ?_ | refine RS.regionQ ?_ (by kernel_rfl) (by kernel_rfl) | refine RS.skip ?_ | refine RS.inBlock ?_ | refine RS.block ?_ | refine RS.exit ?_)); refine mvL ?_; refine mvL ?_; refine lenL ?_; refine mvL ?_; refine lenL ?_
  refine slc 0 0 0 ?_ (hb := fun w => by rfl)
  refine asL ?_; refine LS.done ?_
  (repeat (first | refine RS.seq ?_ | refine RS.region ?_ | refine RS.regionQ ?_ (by kernel_rfl) (by kernel_rfl) | refine RS.skip ?_ | refine RS.inBlock ?_ | refine RS.block ?_ | refine RS.exit ?_)); refine RS.ret1 (v := .slice _ _ _) Try.func26 fun w hw => ?_
  exact ⟨rfl, hw.below⟩
theorem known_c (w : World) : Calls Try.prog 12 #[] w fun e w' => e = .returned (.bool true) ∧ Below w.heap.size w w' := by
  have hn : isName ⟨#[97]⟩ = true := by decide
  refine RS.enter Try.func12 Try.ntmps12 rfl rfl ?_
  (repeat (first | refine RS.seq ?_ | refine RS.region ?_ | refine RS.regionQ ?_ (by kernel_rfl) (by kernel_rfl) | refine RS.skip ?_ | refine RS.inBlock ?_ | refine RS.block ?_ | refine RS.exit ?_)); refine asB ?_; refine LS.done ?_
  (repeat (first | refine RS.seq ?_ | refine RS.region ?_ | refine RS.regionQ ?_ (by kernel_rfl) (by kernel_rfl) | refine RS.skip ?_ | refine RS.inBlock ?_ | refine RS.block ?_ | refine RS.exit ?_)); refine bld (vals := []) [_, _] ?_
  refine callP ?_ (hc := fun w _ => shards0_c w)
  refine lenL ?_; refine eqI ?_; refine mvB ?_
  refine LS.part 5 (fun g1 => ?_) (fun g1 => ?_)
  · refine LS.on ?_; refine bld (vals := [(0, .string _), (1, .int _ _)]) [_, _, _, _, _, _, _] ?_; refine LS.on ?_
    refine callP ?_ (hc := fun w _ => pod_c _ ⟨⟨#[97]⟩, 1, 0, 0, [], [], false⟩ 1 w ⟨_, _, rfl, by decide, by decide, by decide, by decide, RepL.nil _ _ _, RepL.nil _ _ _⟩)
    refine LS.on ?_; refine eqI ?_; refine pk (v := .bool _) ?_; refine mvB ?_
    refine LS.part 10 (fun g2 => ?_) (fun g2 => ?_)
    · refine LS.on ?_; refine bld (vals := [(0, .string _), (1, .int _ _)]) [_, _, _, _, _, _, _] ?_; refine LS.on ?_
      refine callP ?_ (hc := fun w _ => pod_c _ ⟨⟨#[97]⟩, 2, 0, 0, [], [], false⟩ 1 w ⟨_, _, rfl, by decide, by decide, by decide, by decide, RepL.nil _ _ _, RepL.nil _ _ _⟩)
      refine LS.on ?_; refine eqI ?_; refine pk (v := .bool _) ?_; refine asB ?_; refine LS.done ?_
      (repeat (first | refine RS.seq ?_ | refine RS.region ?_ | refine RS.regionQ ?_ (by kernel_rfl) (by kernel_rfl) | refine RS.skip ?_ | refine RS.inBlock ?_ | refine RS.block ?_ | refine RS.exit ?_)); refine RS.ret1 (v := .bool _) Try.func12 fun w hw => ?_
      exact ⟨retB (by simp [podErr, hn]), hw.below⟩
    · exfalso; simp [podErr, hn, isSet, setTo, sizeOk, size1] at g2
  · exfalso; simp at g1
end Go.Proofs.Ytejdccgebljmgaa
