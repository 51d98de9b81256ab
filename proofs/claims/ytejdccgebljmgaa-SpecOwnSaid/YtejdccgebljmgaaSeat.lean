/- Contracts: names that stand twice, by the library's search with a function value. -/
import Derived.Test.YtejdccgebljmgaaGang
import Derived.Test.YtejdccgebljmgaaFun
namespace Go.Proofs.Ytejdccgebljmgaa
open Go.JW Go.RowKit

theorem eq_seat (a b : ByteArray) (w : World) : (Op.equalIn 10000 79 (.agg #[.string a]) (.agg #[.string b])).run Try.prog w = .ok (decide (a = b)) w := by
  have ht : Try.prog.underlying 79 = some (.struct (Try.prog.fieldsOf 79)) := by kernel_rfl
  have hf : (Try.prog.fieldsOf 79).toList = [⟨"name", 9, 0, false, "", "joinery/spec", 0⟩] := by kernel_rfl
  have hs := run_underlying (P := Try.prog) (t := 9) TStr.eq w
  rw [run_equalIn_agg w 9999 _ _ _ ht (by kernel_rfl), hf]
  have hag := run_agg (P := Try.prog) (t := 9) w TOne.agg
  simp [Op.eqFields, part, hag, run_equalIn_string w 9998 9 a b TStr.eq]
  have := str_beq a b
  by_cases h : a = b <;> simp_all
def hasN (x : ByteArray) (l : List ByteArray) : Bool := l.any fun y => decide (x = y)
theorem hasN_iff {x : ByteArray} {l : List ByteArray} : hasN x l = true ↔ x ∈ l := by simp [hasN]
theorem same_c (x y : ByteArray) (b : Nat) (w : World) (hb : (hp w) b = some (.cells (List.toArray [.string x]) 79 (0, 0))) : Calls Try.prog 51 #[.agg #[.string y], .pointer (some ⟨b, 0, none⟩)] w fun e w' => e = .returned (.bool (decide (x = y))) ∧ Below w.heap.size w w' := by
  have hcell : ∀ j, j < 1 → (hp w).cell b (0 + j) = [Value.string x][j]? := by
    intro j hj
    obtain rfl : j = 0 := by omega
    simp [PH.cell, hb]
  refine RS.enter Try.func51 Try.ntmps51 rfl rfl ?_
  (repeat (first | refine RS.seq ?_ | refine RS.region ?_ | refine RS.regionQ ?_ (by kernel_rfl) (by kernel_rfl) | refine RS.skip ?_ | refine RS.inBlock ?_ | refine RS.block ?_ | refine RS.exit ?_)); refine box_ (v := .agg _) (cs := [_]) (fun b2 => ?_); refine asB ?_; refine LS.done ?_
  (repeat (first | refine RS.seq ?_ | refine RS.region ?_ | refine RS.regionQ ?_ (by kernel_rfl) (by kernel_rfl) | refine RS.skip ?_ | refine RS.inBlock ?_ | refine RS.block ?_ | refine RS.exit ?_)); refine ldSA (vs := [.string x]) rfl hcell ?_; refine ldA [_] ?_; refine eqA (us1 := [.string x]) (us2 := [.string y]) (eq_seat x y) (by kernel_rfl) ?_; refine asB ?_; refine LS.done ?_
  (repeat (first | refine RS.seq ?_ | refine RS.region ?_ | refine RS.regionQ ?_ (by kernel_rfl) (by kernel_rfl) | refine RS.skip ?_ | refine RS.inBlock ?_ | refine RS.block ?_ | refine RS.exit ?_)); refine RS.ret1 (v := .bool _) Try.func51 fun w hw => ?_
  exact ⟨rfl, hw.below⟩
theorem index_c (l : List ByteArray) (v : Value) (x : ByteArray) (b : Nat) (w : World) (h : RepL (hp w) v l) (hb : (hp w) b = some (.cells (List.toArray [.string x]) 79 (0, 0))) :
    Calls Try.prog 59 #[v, .func (.func 51) #[] #[.pointer (some ⟨b, 0, none⟩)]] w fun e w' => ∃ v, e = .returned v ∧ Below w.heap.size w w' ∧ ∃ m : Int, v = .int .i64 m ∧ (0 ≤ m ↔ x ∈ l) := by
  obtain ⟨a, cap, rfl⟩ := h.form
  have hlen : l.length ≤ 140737488355328 := h.1
  refine RS.enter Try.func59 Try.ntmps59 rfl rfl ?_
  (repeat (first | refine RS.seq ?_ | refine RS.region ?_ | refine RS.regionQ ?_ (by kernel_rfl) (by kernel_rfl) | refine RS.skip ?_ | refine RS.inBlock ?_ | refine RS.block ?_ | refine RS.exit ?_)); refine asI ?_; refine LS.done ?_
  (repeat (first | refine RS.seq ?_ | refine RS.region ?_ | refine RS.regionQ ?_ (by kernel_rfl) (by kernel_rfl) | refine RS.skip ?_ | refine RS.inBlock ?_ | refine RS.block ?_ | refine RS.exit ?_)); refine mvL ?_; refine lenL ?_; refine mvI ?_; refine LS.done ?_
  (repeat (first | refine RS.seq ?_ | refine RS.region ?_ | refine RS.regionQ ?_ (by kernel_rfl) (by kernel_rfl) | refine RS.skip ?_ | refine RS.inBlock ?_ | refine RS.block ?_ | refine RS.exit ?_))
  refine RS.loopF (X := Nat) 5 19 (fun k => k ≤ l.length ∧ x ∉ l.take k) (fun k => [(7, .int .i64 l.length), (8, .int .i64 k)]) (fun _ => hp w) (fun _ => []) (fun k => l.length - k) 0 ⟨by omega, by simp⟩ ⟨rfl, rfl, trivial⟩ rfl inferInstance ?_
  rintro k g ⟨hk, hs⟩ ih
  (repeat (first | refine RS.seq ?_ | refine RS.region ?_ | refine RS.regionQ ?_ (by kernel_rfl) (by kernel_rfl) | refine RS.skip ?_ | refine RS.inBlock ?_ | refine RS.block ?_ | refine RS.exit ?_)); refine ltI ?_; refine LS.done ?_
  (repeat (first | refine RS.seq ?_ | refine RS.region ?_ | refine RS.regionQ ?_ (by kernel_rfl) (by kernel_rfl) | refine RS.skip ?_ | refine RS.inBlock ?_ | refine RS.block ?_ | refine RS.exit ?_))
  by_cases hlt : k < l.length
  · refine RS.condT ?_ (h := by simp; exact hlt)
    obtain ⟨b', o, rfl, hr⟩ := h.addr (fun h => by simp [h] at hlt)
    obtain ⟨hc, hsz⟩ := hr.str k hlt
    have hcell : ∀ j, j < 1 → (hp w).cell b' (o + k * 1 + j) = [Value.string l[k]][j]? := by
      intro j hj
      obtain rfl : j = 0 := by omega
      exact hc
    (repeat (first | refine RS.seq ?_ | refine RS.region ?_ | refine RS.regionQ ?_ (by kernel_rfl) (by kernel_rfl) | refine RS.skip ?_ | refine RS.inBlock ?_ | refine RS.block ?_ | refine RS.exit ?_)); refine mvI ?_; refine asI ?_; refine LS.done ?_
    (repeat (first | refine RS.seq ?_ | refine RS.region ?_ | refine RS.regionQ ?_ (by kernel_rfl) (by kernel_rfl) | refine RS.skip ?_ | refine RS.inBlock ?_ | refine RS.block ?_ | refine RS.exit ?_)); refine mvF ?_; refine mvL ?_; refine mvI ?_; refine idx (i := k) ?_; refine ldSA (vs := [.string l[k]]) rfl hcell ?_
    refine callVP (v := .bool (decide (x = l[k]))) (g := 51) (args := [.agg (List.toArray [.string l[k]])]) (caps := [.pointer (some ⟨b, 0, none⟩)]) ?_ (hc := fun w hw => by simpa using same_c x l[k] b w (hw.imm _ _ hb))
    refine LS.done ?_
    (repeat (first | refine RS.seq ?_ | refine RS.region ?_ | refine RS.regionQ ?_ (by kernel_rfl) (by kernel_rfl) | refine RS.skip ?_ | refine RS.inBlock ?_ | refine RS.block ?_ | refine RS.exit ?_))
    refine RS.cond (fun c => ?_) (fun c => ?_)
    · (repeat (first | refine RS.seq ?_ | refine RS.region ?_ | refine RS.regionQ ?_ (by kernel_rfl) (by kernel_rfl) | refine RS.skip ?_ | refine RS.inBlock ?_ | refine RS.block ?_ | refine RS.exit ?_)); refine mvI ?_; refine asI ?_; refine LS.done ?_; (repeat (first | refine RS.seq ?_ | refine RS.region ?_ | refine RS.regionQ ?_ (by kernel_rfl) (by kernel_rfl) | refine RS.skip ?_ | refine RS.inBlock ?_ | refine RS.block ?_ | refine RS.exit ?_)); refine RS.ret1 (v := .int _ _) Try.func59 fun w hw => ?_
      simp at c
      exact ⟨_, rfl, hw.below, k, rfl, by subst c; simp⟩
    · (repeat (first | refine RS.seq ?_ | refine RS.region ?_ | refine RS.regionQ ?_ (by kernel_rfl) (by kernel_rfl) | refine RS.skip ?_ | refine RS.inBlock ?_ | refine RS.block ?_ | refine RS.exit ?_)); (first | refine addN ?_ | refine addI ?_); refine mvI ?_; refine LS.done ?_; (repeat (first | refine RS.seq ?_ | refine RS.region ?_ | refine RS.regionQ ?_ (by kernel_rfl) (by kernel_rfl) | refine RS.skip ?_ | refine RS.inBlock ?_ | refine RS.block ?_ | refine RS.exit ?_))
      simp at c
      refine ih (k + 1) ⟨hlt, ?_⟩ (by omega) ⟨rfl, rfl, trivial⟩ (by repeat (first | with_reducible exact Out.refl _ _ _ | exact Out.hv | refine Out.upd ?_ | refine Out.hvIn ?_)) inferInstance rfl
      rw [List.take_add_one, List.getElem?_eq_getElem hlt, List.mem_append]
      simp; exact ⟨hs, c⟩
  · refine RS.condF ?_ (h := by simp; omega)
    obtain rfl : k = l.length := by omega
    (repeat (first | refine RS.seq ?_ | refine RS.region ?_ | refine RS.regionQ ?_ (by kernel_rfl) (by kernel_rfl) | refine RS.skip ?_ | refine RS.inBlock ?_ | refine RS.block ?_ | refine RS.exit ?_)); refine asI ?_; refine LS.done ?_; (repeat (first | refine RS.seq ?_ | refine RS.region ?_ | refine RS.regionQ ?_ (by kernel_rfl) (by kernel_rfl) | refine RS.skip ?_ | refine RS.inBlock ?_ | refine RS.block ?_ | refine RS.exit ?_)); refine RS.ret1 (v := .int _ _) Try.func59 fun w hw => ?_
    rw [List.take_length] at hs
    exact ⟨_, rfl, hw.below, -1, rfl, by simp [hs]⟩
theorem contains_c (l : List ByteArray) (v : Value) (x : ByteArray) (b : Nat) (w : World) (h : RepL (hp w) v l) (hb : (hp w) b = some (.cells (List.toArray [.string x]) 79 (0, 0))) :
    Calls Try.prog 50 #[v, .func (.func 51) #[] #[.pointer (some ⟨b, 0, none⟩)]] w fun e w' => e = .returned (.bool (hasN x l)) ∧ Below w.heap.size w w' := by
  obtain ⟨a, cap, rfl⟩ := h.form
  refine RS.enter Try.func50 Try.ntmps50 rfl rfl ?_
  (repeat (first | refine RS.seq ?_ | refine RS.region ?_ | refine RS.regionQ ?_ (by kernel_rfl) (by kernel_rfl) | refine RS.skip ?_ | refine RS.inBlock ?_ | refine RS.block ?_ | refine RS.exit ?_)); refine asB ?_; refine LS.done ?_
  (repeat (first | refine RS.seq ?_ | refine RS.region ?_ | refine RS.regionQ ?_ (by kernel_rfl) (by kernel_rfl) | refine RS.skip ?_ | refine RS.inBlock ?_ | refine RS.block ?_ | refine RS.exit ?_)); refine mvL ?_; refine mvF ?_
  refine callT (fun v _ => ∃ m : Int, v = .int .i64 m ∧ (0 ≤ m ↔ x ∈ l)) (fun v τ1 σ2 hq hN hle hτ => ?_) (fun w hw => index_c l _ x b w (h.mono hw.imm) (hw.imm _ _ hb))
  obtain ⟨m, rfl, hm⟩ := hq
  refine geI ?_; refine asB ?_; refine LS.done ?_
  (repeat (first | refine RS.seq ?_ | refine RS.region ?_ | refine RS.regionQ ?_ (by kernel_rfl) (by kernel_rfl) | refine RS.skip ?_ | refine RS.inBlock ?_ | refine RS.block ?_ | refine RS.exit ?_)); refine RS.ret1 (v := .bool _) Try.func50 fun w hw => ?_
  exact ⟨retB (by rw [Bool.eq_iff_iff, hasN_iff, decide_eq_true_eq]; exact hm), hw.below⟩
end Go.Proofs.Ytejdccgebljmgaa
