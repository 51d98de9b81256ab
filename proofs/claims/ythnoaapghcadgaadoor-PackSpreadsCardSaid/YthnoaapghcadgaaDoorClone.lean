/- Contracts: strings cloned by the library. -/
import Derived.Test.YthnoaapghcadgaaDoorDOwn
import Derived.Test.YthnoaapghcadgaaDoorMade
namespace Go.Proofs.YthnoaapghcadgaaDoor
open Go.JW Go.RowKit

theorem clone_post {w w' : World} {v : Value} {l : List ByteArray} (N : Nat) (h : w'.ownsRow w.heap.size 9 1 v l.length (l.map Value.string)) (hb : Below w.heap.size w w') (hl : ∀ s ∈ l, s.size ≤ 140737488355328) : Post (fun _ => none) [rowD N 9 v l] w w' := by
  obtain ⟨h1, h2⟩ := h
  refine ⟨hb, fun _ _ => rfl, fun b o h => (by cases h), ?_⟩
  have hcl : CellsL (fromN N (fun _ => none)) (l.map Value.string) l := cellsStr _ hl
  have h47 : l.length ≤ l.length := Nat.le_refl _
  rcases h2 with ⟨rfl, h3⟩ | ⟨g, cap, cur, rfl, h3, h4, h5, h6, h7, h8⟩
  · exact ⟨fun _ => False, ⟨_, hcl, hcl.len, hcl.one, none, 0, by rw [h3], by omega, by omega, .inl ⟨h3, rfl⟩⟩, fun _ h => h.elim, trivial⟩
  · refine ⟨fun b => b = g, ⟨_, hcl, hcl.len, hcl.one, _, cap, rfl, h5, by simpa [maxLen] using h6, .inr ⟨g, cur.toList, rfl, rfl, by show hp w' g = _; rw [Array.toArray_toList]; exact h4, by rw [Array.length_toList, h7]; exact Nat.le_refl _, h8⟩⟩, ?_, trivial⟩
    rintro b rfl
    exact ⟨h3, hp_lt h4, rfl⟩
theorem RepL.strs {σ : PH} {v : Value} {l : List ByteArray} (h : RepL σ v l) : ∀ s ∈ l, s.size ≤ 140737488355328 := fun s hs => by
  obtain ⟨i, hi, rfl⟩ := List.mem_iff_getElem.1 hs
  obtain ⟨a, c, rfl⟩ := h.form
  obtain ⟨b, o, _, r⟩ := h.addr (fun h0 => by simp [h0] at hi)
  exact (r.str i hi).2
theorem clone_c (l : List ByteArray) (v : Value) (N : Nat) (w : World) (h : RepL (hp w) v l) (hb : l.length ≤ 1000) : Calls Tryd.prog 34 #[v] w fun r w' => ∃ v' τ, r = .returned v' ∧ Post τ [rowD N 9 v' l] w w' ∧ True := by
  have hs := RepL.strs h
  obtain ⟨a, c, rfl⟩ := h.form
  cases a with
  | none =>
    have hn : l = [] := Classical.byContradiction fun hn => by obtain ⟨b, o, e, _⟩ := h.addr hn; cases e
    subst hn
    refine (Tryd.slices_Clone_string_nil 0 c w).mono fun r w' ⟨h1, h2⟩ => ⟨_, (fun _ => none), h1, ?_, trivial⟩
    subst h2
    exact clone_post N ⟨rfl, .inl ⟨rfl, rfl⟩⟩ (Below.refl _ _) hs
  | some ad =>
    by_cases hn : l = []
    · subst hn
      refine (Tryd.slices_Clone_string_zero ad c w).mono fun r w' ⟨v', h1, h2, _, h3⟩ => ⟨v', _, h1, clone_post N h2 h3 hs, trivial⟩
    · obtain ⟨b, o, e, hr⟩ := h.addr hn
      injection e with e; subst e
      refine (Tryd.slices_Clone_string b o l.length c l w (Nat.le_refl _) (by omega) fun j hj => ?_).mono fun r w' ⟨v', h1, h2, _, h3⟩ => ⟨v', _, h1, clone_post N (by rw [List.take_length] at h2; exact h2) h3 hs, trivial⟩
      have := (hr.str j hj).1
      rw [← PH.cell_world, List.getD_eq_getElem?_getD, List.getElem?_eq_getElem hj]; simpa using this
theorem clone_w (l : List ByteArray) (v : Value) (w : World) (h : RepL (hp w) v l) (hb : l.length ≤ 1000) : Calls Tryd.prog 34 #[v] w fun r w' => ∃ v', r = .returned v' ∧ Below w.heap.size w w' ∧ RepL (since w w') v' l :=
  (clone_c l v 0 w h hb).mono fun _ _ ⟨v', _, h1, h2, _⟩ => ⟨v', h1, h2.below, h2.row (by omega)⟩
end Go.Proofs.YthnoaapghcadgaaDoor
