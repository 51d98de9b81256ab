/- Contracts: raw gangs that are not too much. -/
import Derived.Test.YtejdccgebljmgaaGang2
namespace Go.Proofs.Ytejdccgebljmgaa
open Go.JW Go.RowKit

def fewGang (g : GangD) : Bool := g.pods.all fewPod && decide (g.pods.length ≤ 14)
theorem fewGang_c (cs : List Value) (g : GangD) (w : World) (hr : Rep.rep (hp w) cs g) : Calls Try.prog 24 #[.agg cs.toArray] w fun e w' => e = .returned (.bool (fewGang g)) ∧ Below w.heap.size w w' := by
  obtain ⟨v, rfl, hid, hl⟩ := hr
  obtain ⟨a, cap, rfl⟩ := hl.form
  have hlen : g.pods.length ≤ 140737488355328 := hl.1
  refine RS.enter Try.func24 Try.ntmps24 rfl rfl ?_
  (repeat (first | refine RS.seq ?_ | refine RS.region ?_ | refine RS.regionQ ?_ (by kernel_rfl) (by kernel_rfl) | refine RS.skip ?_ | refine RS.inBlock ?_ | refine RS.block ?_ | refine RS.exit ?_)); refine box_ (v := .agg _) (cs := [_, _]) (fun b1 => ?_); refine asB ?_; refine LS.done ?_
  (repeat (first | refine RS.seq ?_ | refine RS.region ?_ | refine RS.regionQ ?_ (by kernel_rfl) (by kernel_rfl) | refine RS.skip ?_ | refine RS.inBlock ?_ | refine RS.block ?_ | refine RS.exit ?_)); refine asI ?_; refine LS.done ?_
  (repeat (first | refine RS.seq ?_ | refine RS.region ?_ | refine RS.regionQ ?_ (by kernel_rfl) (by kernel_rfl) | refine RS.skip ?_ | refine RS.inBlock ?_ | refine RS.block ?_ | refine RS.exit ?_))
  refine RS.loopF (X := Nat) 3 22 (fun k => k ≤ g.pods.length ∧ (g.pods.take k).all fewPod = true) (fun k => [(3, .int .i64 k)]) (fun _ => hp w) (fun _ => [blk b1 (.cells (List.toArray [.int .i64 g.id, .slice a g.pods.length cap]) 48 (0, 0))]) (fun k => g.pods.length - k) 0 ⟨by omega, rfl⟩ ⟨rfl, trivial⟩ rfl ⟨fun h => h⟩ ?_
  rintro k gg ⟨hk, hs⟩ ih
  (repeat (first | refine RS.seq ?_ | refine RS.region ?_ | refine RS.regionQ ?_ (by kernel_rfl) (by kernel_rfl) | refine RS.skip ?_ | refine RS.inBlock ?_ | refine RS.block ?_ | refine RS.exit ?_)); refine mvI ?_; refine fld ?_; refine ld1 (v := .slice _ _ _) ?_; refine lenL ?_; refine ltI ?_; refine LS.done ?_
  (repeat (first | refine RS.seq ?_ | refine RS.region ?_ | refine RS.regionQ ?_ (by kernel_rfl) (by kernel_rfl) | refine RS.skip ?_ | refine RS.inBlock ?_ | refine RS.block ?_ | refine RS.exit ?_))
  by_cases hlt : k < g.pods.length
  · refine RS.condT ?_ (h := by simp; exact hlt)
    obtain ⟨b, o, rfl, hrow⟩ := hl.addr (fun h => by simp [h] at hlt)
    obtain ⟨vs, hvr, hvl, hvc⟩ := RowAt.pod hrow k hlt
    (repeat (first | refine RS.seq ?_ | refine RS.region ?_ | refine RS.regionQ ?_ (by kernel_rfl) (by kernel_rfl) | refine RS.skip ?_ | refine RS.inBlock ?_ | refine RS.block ?_ | refine RS.exit ?_)); refine fld ?_; refine ld1 (v := .slice _ _ _) ?_; refine mvI ?_; refine idx (i := k) ?_; refine ldSA (vs := vs) hvl hvc ?_
    refine callP ?_ (hc := fun w hw => fewPod_c _ g.pods[k] w (Rep.mono hvr hw.imm))
    refine not_ ?_; refine LS.done ?_
    (repeat (first | refine RS.seq ?_ | refine RS.region ?_ | refine RS.regionQ ?_ (by kernel_rfl) (by kernel_rfl) | refine RS.skip ?_ | refine RS.inBlock ?_ | refine RS.block ?_ | refine RS.exit ?_))
    refine RS.cond (fun c => ?_) (fun c => ?_)
    · (repeat (first | refine RS.seq ?_ | refine RS.region ?_ | refine RS.regionQ ?_ (by kernel_rfl) (by kernel_rfl) | refine RS.skip ?_ | refine RS.inBlock ?_ | refine RS.block ?_ | refine RS.exit ?_)); refine asB ?_; refine LS.done ?_; (repeat (first | refine RS.seq ?_ | refine RS.region ?_ | refine RS.regionQ ?_ (by kernel_rfl) (by kernel_rfl) | refine RS.skip ?_ | refine RS.inBlock ?_ | refine RS.block ?_ | refine RS.exit ?_)); refine RS.ret1 (v := .bool _) Try.func24 fun w hw => ?_
      refine ⟨retB ?_, hw.below⟩
      simp at c
      symm; rw [fewGang, Bool.and_eq_false_iff]; left
      rw [List.all_eq_false]; exact ⟨g.pods[k], List.getElem_mem _, by simp [c]⟩
    · (repeat (first | refine RS.seq ?_ | refine RS.region ?_ | refine RS.regionQ ?_ (by kernel_rfl) (by kernel_rfl) | refine RS.skip ?_ | refine RS.inBlock ?_ | refine RS.block ?_ | refine RS.exit ?_)); refine mvI ?_; (first | refine addN ?_ | refine addI ?_); refine asI ?_; refine LS.done ?_; (repeat (first | refine RS.seq ?_ | refine RS.region ?_ | refine RS.regionQ ?_ (by kernel_rfl) (by kernel_rfl) | refine RS.skip ?_ | refine RS.inBlock ?_ | refine RS.block ?_ | refine RS.exit ?_))
      simp at c
      exact ih (k + 1) ⟨hlt, by rw [List.take_add_one, List.all_append, hs, List.getElem?_eq_getElem hlt]; simp [c]⟩ (by omega) ⟨rfl, trivial⟩ (by repeat (first | with_reducible exact Out.refl _ _ _ | exact Out.hv | refine Out.upd ?_ | refine Out.hvIn ?_)) ⟨fun h => h⟩ rfl
  · refine RS.condF ?_ (h := by simp; omega)
    obtain rfl : k = g.pods.length := by omega
    (repeat (first | refine RS.seq ?_ | refine RS.region ?_ | refine RS.regionQ ?_ (by kernel_rfl) (by kernel_rfl) | refine RS.skip ?_ | refine RS.inBlock ?_ | refine RS.block ?_ | refine RS.exit ?_)); refine fld ?_; refine ld1 (v := .slice _ _ _) ?_; refine lenL ?_; refine leI ?_; refine asB ?_; refine LS.done ?_; (repeat (first | refine RS.seq ?_ | refine RS.region ?_ | refine RS.regionQ ?_ (by kernel_rfl) (by kernel_rfl) | refine RS.skip ?_ | refine RS.inBlock ?_ | refine RS.block ?_ | refine RS.exit ?_)); refine RS.ret1 (v := .bool _) Try.func24 fun w hw => ?_
    rw [List.take_length] at hs
    exact ⟨retB (by rw [fewGang, hs]; simp; omega), hw.below⟩
end Go.Proofs.Ytejdccgebljmgaa
