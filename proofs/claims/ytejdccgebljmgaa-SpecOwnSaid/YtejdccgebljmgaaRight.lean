/- Plain laws: what is made of numbers may be. -/
import Derived.Test.YtejdccgebljmgaaKnown
namespace Go.Proofs.Ytejdccgebljmgaa
open Go.JW Go.RowKit

theorem isSet_setOf (n : Int) : isSet (setOf n) = true := by
  simp only [setOf, setN]
  by_cases h0 : bitOf n 0 = 1 <;> by_cases h1 : bitOf n 1 = 1 <;> by_cases h2 : bitOf n 2 = 1 <;> by_cases h3 : bitOf n 3 = 1 <;> simp only [h0, h1, h2, h3, if_true, if_false] <;> decide +kernel
theorem isSet_if (c : Prop) [Decidable c] (n : Int) : isSet (if c then setOf n else []) = true := by
  split
  · exact isSet_setOf n
  · decide
theorem isName_nameOf (a : Int) : isName (nameOf a) = true := by
  obtain ⟨h1, h2⟩ := wmod a 8 (by omega)
  have h : (a % 8).toNat < 8 := by omega
  have : ∀ i : Fin 8, isName (names8.getD i.val ⟨#[]⟩) = true := by decide +kernel
  exact this ⟨_, h⟩
theorem isName_letter (a : Int) (ha : 0 ≤ a ∧ a < 26) : isName (letter ⟨#[112]⟩ a) = true := by
  have : ∀ i : Fin 26, isName (letter ⟨#[112]⟩ (i.val : Int)) = true := by decide +kernel
  have h := this ⟨a.toNat, by omega⟩
  simpa [show (a.toNat : Int) = a by omega] using h
theorem nodeOf_ok (a n : Int) : nodeErr (nodeOf a n) = 0 := by
  obtain ⟨a1, a2⟩ := wmod n 12 (by omega)
  obtain ⟨b1, b2⟩ := wmod (n.tdiv 12) 12 (by omega)
  have h : sizeOk (n % 12) (n.tdiv 12 % 12) = true := by simp only [sizeOk, size1, Bool.and_eq_true, decide_eq_true_eq]; omega
  simp only [nodeErr, nodeOf, isName_nameOf, h, isSet_setOf, isSet_if]; rfl
theorem podOf_ok (a n s : Int) (ha : 0 ≤ a ∧ a < 26) (hs : 0 < s) : podErr (podOf a n s) s = 0 := by
  obtain ⟨a1, a2⟩ := wmod n s hs
  obtain ⟨b1, b2⟩ := wmod (n.tdiv 4) 5 (by omega)
  obtain ⟨c1, c2⟩ := wmod (n.tdiv 20) 5 (by omega)
  have h : sizeOk (n.tdiv 4 % 5) (n.tdiv 20 % 5) = true := by simp only [sizeOk, size1, Bool.and_eq_true, decide_eq_true_eq]; omega
  have h2 : (1 + n % s < 1) = False := eq_false (by omega)
  have h3 : (s < 1 + n % s) = False := eq_false (by omega)
  simp only [podErr, podOf, isName_letter a ha, h, h2, h3, isSet_if]; rfl
theorem textOf_size (l : List Int) : (textOf l).size ≤ 24 := by have := textTo_size l (min l.length 12); unfold textOf; omega
theorem getD_in {l : List Int} (h : ∀ x ∈ l, I64 x) (i : Nat) : I64 (l.getD i 0) := by
  rw [List.getD_eq_getElem?_getD]
  rcases Nat.lt_or_ge i l.length with hi | hi
  · rw [List.getElem?_eq_getElem hi]; exact h _ (List.getElem_mem _)
  · rw [List.getElem?_eq_none hi]; decide
end Go.Proofs.Ytejdccgebljmgaa
