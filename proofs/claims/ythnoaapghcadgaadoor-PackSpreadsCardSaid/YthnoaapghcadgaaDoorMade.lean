/- Contracts: the statements' own data, made of numbers: sets, pods, nodes. -/
import Derived.Test.YthnoaapghcadgaaDoorGen
import Derived.Test.YthnoaapghcadgaaDoorCells
namespace Go.Proofs.YthnoaapghcadgaaDoor
open Go.JW Go.RowKit

theorem cellsStr (τ : PH) : ∀ {l : List ByteArray}, (∀ s ∈ l, s.size ≤ 140737488355328) → CellsL τ (l.map Value.string) l := by
  intro l
  induction l with
  | nil => intro _; rfl
  | cons s l ih => intro h; exact ⟨[.string s], l.map Value.string, rfl, ⟨rfl, h s (by simp)⟩, ih fun x hx => h x (by simp [hx])⟩
def marks4 : List ByteArray := [⟨#[98, 105, 103]⟩, ⟨#[115, 115, 100]⟩, ⟨#[119, 101, 115, 116]⟩, ⟨#[206, 179]⟩]
def bitOf (n : Int) (k : Nat) : Int := n.fdiv (2 ^ min (k : Int).toNat IntKind.i64.bits) % 2
def setN (n : Int) : Nat → List ByteArray
  | 0 => []
  | k + 1 => setN n k ++ (if bitOf n k = 1 then [marks4.getD k ⟨#[]⟩] else [])
def setOf (n : Int) : List ByteArray := setN n 4
theorem setN_size (n : Int) : ∀ k, k ≤ 4 → (∀ s ∈ setN n k, s.size ≤ 140737488355328) ∧ (setN n k).length ≤ k := by
  intro k
  induction k with
  | zero => intro _; simp [setN]
  | succ k ih =>
    intro hk
    obtain ⟨h1, h2⟩ := ih (by omega)
    have h3 : ∀ i : Fin 4, (marks4.getD i.val ⟨#[]⟩).size ≤ 140737488355328 := by decide
    refine ⟨fun s hs => ?_, ?_⟩
    · simp only [setN, List.mem_append] at hs
      rcases hs with hs | hs
      · exact h1 s hs
      · split at hs
        · simp at hs; subst hs; exact h3 ⟨k, by omega⟩
        · simp at hs
    · simp only [setN, List.length_append]
      split <;> simp <;> omega
theorem lset_c (n : Int) (w : World) : Calls Tryd.prog 44 #[.int .i64 n] w fun e w' => ∃ v, e = .returned v ∧ Below w.heap.size w w' ∧ RepL (since w w') v (setOf n) := by
  refine RS.enter Tryd.func44 Tryd.ntmps44 rfl rfl ?_
  (repeat (first | refine RS.seq ?_ | refine RS.region ?_ | refine RS.regionQ ?_ (by kernel_rfl) (by kernel_rfl) | refine RS.skip ?_ | refine RS.inBlock ?_ | refine RS.block ?_ | refine RS.exit ?_)); refine asL ?_; refine LS.done ?_
  (repeat (first | refine RS.seq ?_ | refine RS.region ?_ | refine RS.regionQ ?_ (by kernel_rfl) (by kernel_rfl) | refine RS.skip ?_ | refine RS.inBlock ?_ | refine RS.block ?_ | refine RS.exit ?_)); refine bldS [.string _, .string _, .string _, .string _] [.string _, .string _, .string _, .string _] (fun b6 => ?_); refine asL ?_; refine LS.done ?_
  (repeat (first | refine RS.seq ?_ | refine RS.region ?_ | refine RS.regionQ ?_ (by kernel_rfl) (by kernel_rfl) | refine RS.skip ?_ | refine RS.inBlock ?_ | refine RS.block ?_ | refine RS.exit ?_)); refine asL ?_; refine LS.done ?_
  (repeat (first | refine RS.seq ?_ | refine RS.region ?_ | refine RS.regionQ ?_ (by kernel_rfl) (by kernel_rfl) | refine RS.skip ?_ | refine RS.inBlock ?_ | refine RS.block ?_ | refine RS.exit ?_)); refine asI ?_; refine LS.done ?_
  refine RS.nilRow 9 1 ?_
  (repeat (first | refine RS.seq ?_ | refine RS.region ?_ | refine RS.regionQ ?_ (by kernel_rfl) (by kernel_rfl) | refine RS.skip ?_ | refine RS.inBlock ?_ | refine RS.block ?_ | refine RS.exit ?_))
  refine RS.loopF (X := Nat × Value) 4 24 (fun x => x.1 ≤ 4) (fun x => [(4, x.2), (5, .int .i64 x.1)]) (fun _ => hp w) (fun x => [rowH 9 1 x.2 (setN n x.1).length ((setN n x.1).map Value.string), blk b6 (.cells (List.toArray (marks4.map Value.string)) 9 (0, 0))]) (fun x => 4 - x.1) (0, .slice none 0 0) (by simp) ⟨rfl, rfl, trivial⟩ rfl ⟨fun h => h⟩ ?_
  rintro ⟨k, v⟩ g hk ih
  simp only at hk ih ⊢
  (repeat (first | refine RS.seq ?_ | refine RS.region ?_ | refine RS.regionQ ?_ (by kernel_rfl) (by kernel_rfl) | refine RS.skip ?_ | refine RS.inBlock ?_ | refine RS.block ?_ | refine RS.exit ?_)); refine mvI ?_; refine ltI ?_; refine LS.done ?_
  (repeat (first | refine RS.seq ?_ | refine RS.region ?_ | refine RS.regionQ ?_ (by kernel_rfl) (by kernel_rfl) | refine RS.skip ?_ | refine RS.inBlock ?_ | refine RS.block ?_ | refine RS.exit ?_))
  by_cases hlt : k < 4
  · refine RS.condT ?_ (h := by simp; omega)
    (repeat (first | refine RS.seq ?_ | refine RS.region ?_ | refine RS.regionQ ?_ (by kernel_rfl) (by kernel_rfl) | refine RS.skip ?_ | refine RS.inBlock ?_ | refine RS.block ?_ | refine RS.exit ?_)); refine mvI ?_; refine mvI ?_; refine cvU ?_; refine shrI ?_
    refine callP ?_ (hc := fun w _ => w2_c _ _ (by omega) (by omega) w)
    refine eqI ?_; refine LS.done ?_
    (repeat (first | refine RS.seq ?_ | refine RS.region ?_ | refine RS.regionQ ?_ (by kernel_rfl) (by kernel_rfl) | refine RS.skip ?_ | refine RS.inBlock ?_ | refine RS.block ?_ | refine RS.exit ?_))
    have hN := setN_size n k (by omega)
    refine RS.cond (fun c => ?_) (fun c => ?_)
    · simp only [decide_eq_true_eq] at c
      (repeat (first | refine RS.seq ?_ | refine RS.region ?_ | refine RS.regionQ ?_ (by kernel_rfl) (by kernel_rfl) | refine RS.skip ?_ | refine RS.inBlock ?_ | refine RS.block ?_ | refine RS.exit ?_)); refine mv (v := v) ?_; refine mvL ?_; refine mvI ?_; refine idx (i := k) ?_; refine ld1 (v := .string (marks4.getD k ⟨#[]⟩)) ?_ (hv := nth_str marks4 k (by simp [marks4]; omega)); refine bldS [.string _] [.string _] (fun b22 => ?_); refine appR (v := v) (kk := 1) (vy := .slice (some ⟨b22, 0, none⟩) 1 1) (news := [.string _]) (fun w hw => srcB hw (TSlice.eq (P := Tryd.prog))) (fun v23 => ?_); refine as_ (v := v23) ?_; refine LS.done ?_
      (repeat (first | refine RS.seq ?_ | refine RS.region ?_ | refine RS.regionQ ?_ (by kernel_rfl) (by kernel_rfl) | refine RS.skip ?_ | refine RS.inBlock ?_ | refine RS.block ?_ | refine RS.exit ?_)); refine mvI ?_; (first | refine addN ?_ | refine addI ?_); refine asI ?_; refine LS.done ?_; (repeat (first | refine RS.seq ?_ | refine RS.region ?_ | refine RS.regionQ ?_ (by kernel_rfl) (by kernel_rfl) | refine RS.skip ?_ | refine RS.inBlock ?_ | refine RS.block ?_ | refine RS.exit ?_))
      have e : setN n (k + 1) = setN n k ++ [marks4.getD k ⟨#[]⟩] := by rw [setN, if_pos (show bitOf n k = 1 from c)]
      refine ih (k + 1, v23) hlt (by omega) ⟨rfl, rfl, trivial⟩ (by repeat (first | with_reducible exact Out.refl _ _ _ | exact Out.hv | refine Out.upd ?_ | refine Out.hvIn ?_)) ?_ rfl
      simp only [e, List.length_append, List.map_append, List.map_cons, List.map_nil, List.length_singleton]
      infer_instance
    · simp only [decide_eq_false_iff_not] at c
      (repeat (first | refine RS.seq ?_ | refine RS.region ?_ | refine RS.regionQ ?_ (by kernel_rfl) (by kernel_rfl) | refine RS.skip ?_ | refine RS.inBlock ?_ | refine RS.block ?_ | refine RS.exit ?_)); refine mvI ?_; (first | refine addN ?_ | refine addI ?_); refine asI ?_; refine LS.done ?_; (repeat (first | refine RS.seq ?_ | refine RS.region ?_ | refine RS.regionQ ?_ (by kernel_rfl) (by kernel_rfl) | refine RS.skip ?_ | refine RS.inBlock ?_ | refine RS.block ?_ | refine RS.exit ?_))
      have e : setN n (k + 1) = setN n k := by rw [setN, if_neg (show ¬ bitOf n k = 1 from c), List.append_nil]
      refine ih (k + 1, v) hlt (by omega) ⟨rfl, rfl, trivial⟩ (by repeat (first | with_reducible exact Out.refl _ _ _ | exact Out.hv | refine Out.upd ?_ | refine Out.hvIn ?_)) ?_ rfl
      simp only [e]
      infer_instance
  · refine RS.condF ?_ (h := by simp; omega)
    obtain rfl : k = 4 := by omega
    (repeat (first | refine RS.seq ?_ | refine RS.region ?_ | refine RS.regionQ ?_ (by kernel_rfl) (by kernel_rfl) | refine RS.skip ?_ | refine RS.inBlock ?_ | refine RS.block ?_ | refine RS.exit ?_)); refine mv (v := v) ?_; refine as_ (v := v) ?_; refine LS.done ?_; (repeat (first | refine RS.seq ?_ | refine RS.region ?_ | refine RS.regionQ ?_ (by kernel_rfl) (by kernel_rfl) | refine RS.skip ?_ | refine RS.inBlock ?_ | refine RS.block ?_ | refine RS.exit ?_))
    refine RS.ret1 (v := v) Tryd.func44 fun w hw => ?_
    have hN := setN_size n 4 (by omega)
    exact ⟨v, rfl, hw.below, hw.rowNew (cellsStr (since _ _) hN.1) (PH.le_refl _) (by unfold setOf; omega)⟩
end Go.Proofs.YthnoaapghcadgaaDoor
