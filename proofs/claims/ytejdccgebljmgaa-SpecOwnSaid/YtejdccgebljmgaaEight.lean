/- The law SpecEight answers true: plain part. -/
import Derived.Test.YtejdccgebljmgaaGang2
import Derived.Test.YtejdccgebljmgaaOwn
namespace Go.Proofs.Ytejdccgebljmgaa
open Go.JW Go.RowKit

def pE (i : Nat) : PodD := ⟨letter ⟨#[112]⟩ i, 1 + (i : Int).tmod 2, 0, 0, [], [], false⟩
def podsE (k : Nat) : List PodD := (List.range k).map pE
theorem podsE_succ (k : Nat) : podsE (k + 1) = podsE k ++ [pE k] := by simp [podsE, List.range_succ]
theorem podsE_length (k : Nat) : (podsE k).length = k := by simp [podsE]
theorem podsE_get {k i : Nat} (h : i < (podsE k).length) : (podsE k)[i] = pE i := by simp [podsE]
theorem pE_ok (i : Nat) (h : i < 26) : podErr (pE i) 2 = 0 := by
  have : ∀ i : Fin 26, podErr (pE i.val) 2 = 0 := by decide +kernel
  exact this ⟨i, h⟩
theorem pE_ne {i j : Nat} (hi : i < 26) (hj : j < 26) (h : i ≠ j) : (pE i).name ≠ (pE j).name := by
  have : ∀ i j : Fin 26, i ≠ j → (pE i.val).name ≠ (pE j.val).name := by decide +kernel
  exact this ⟨i, hi⟩ ⟨j, hj⟩ (fun e => h (by simpa using e))
theorem gangE_ok {k : Nat} (hk : k ≤ 10) : gangErr ⟨5, podsE k⟩ 2 = if k < 1 ∨ 8 < k then 3 else 0 := by
  have hfe : firstErr 2 (podsE k) = 0 := firstErr_zero fun i hi => by rw [podsE_get]; rw [podsE_length] at hi; exact pE_ok i (by omega)
  have hd : ¬ Dup (podsE k) (podsE k).length := fun ⟨i, j, h1, h2, hi, hj, h3⟩ => by
    rw [podsE_get, podsE_get] at h3
    rw [podsE_length] at hi hj
    exact pE_ne (by omega) (by omega) (by omega) h3
  simp only [gangErr, podsE_length, hfe]
  rw [if_neg (by omega)]
  split
  · rfl
  · simp [hd]
def pM (i j : Nat) : PodD := { pE i with name := (pE j).name }
def podsM (k i j : Nat) : List PodD := (podsE k).set i (pM i j)
theorem pM_ok (i j : Nat) (hi : i < 8) (hj : j < 8) : podErr (pM i j) 2 = 0 := by
  have : ∀ i j : Fin 8, podErr (pM i.val j.val) 2 = 0 := by decide +kernel
  exact this ⟨i, hi⟩ ⟨j, hj⟩
theorem gangM {k i j : Nat} (hk : 1 ≤ k ∧ k ≤ 8) (hi : i < k) (hj : j < k) : gangErr ⟨5, podsM k i j⟩ 2 = if i = j then 0 else 4 := by
  by_cases e : i = j
  · subst e
    have : podsM k i i = podsE k := by
      have h : i < (podsE k).length := by rw [podsE_length]; exact hi
      have h2 : pM i i = (podsE k)[i] := by rw [podsE_get]; rfl
      rw [podsM, h2, List.set_getElem_self]
    rw [this, gangE_ok (by omega), if_neg (by omega), if_pos rfl]
  · have hl : (podsM k i j).length = k := by simp [podsM, podsE_length]
    have hfe : firstErr 2 (podsM k i j) = 0 := firstErr_zero fun m hm => by
      rw [hl] at hm
      simp only [podsM, List.getElem_set]
      split
      · exact pM_ok i j (by omega) (by omega)
      · rw [podsE_get]; exact pE_ok m (by omega)
    have hd : Dup (podsM k i j) (podsM k i j).length := by
      have hn : ∀ m (hm : m < (podsM k i j).length), (podsM k i j)[m].name = if m = i then (pE j).name else (pE m).name := fun m hm => by
        simp only [podsM, List.getElem_set]
        by_cases h : i = m
        · subst h; rw [if_pos rfl, if_pos rfl]; rfl
        · rw [if_neg h, if_neg (fun h' => h h'.symm), podsE_get]
      rcases Nat.lt_or_gt_of_ne e with h | h
      · exact ⟨j, i, h, by omega, by omega, by omega, by rw [hn, hn, if_neg (fun h' => e h'.symm), if_pos rfl]⟩
      · exact ⟨i, j, h, by omega, by omega, by omega, by rw [hn, hn, if_pos rfl, if_neg (fun h' => e h'.symm)]⟩
    simp only [gangErr, hfe]
    rw [if_neg (by omega), if_neg (by omega), if_neg e]
    simp [hd]
def cE (i : Nat) : List Value := [.string (letter ⟨#[112]⟩ i), .int .i64 (1 + (i : Int).tmod 2), .int .i64 0, .int .i64 0, .slice none 0 0, .slice none 0 0, .bool false]
def csE : Nat → List Value
  | 0 => []
  | k + 1 => csE k ++ cE k
theorem repE (σ : PH) (i : Nat) (hi : i ≤ 100) : Rep.rep σ (cE i) (pE i) := ⟨_, _, rfl, by show (letter _ _).size ≤ _; rw [letter_size]; decide, by
  have := Int.tmod_lt_of_pos (i : Int) (show (0 : Int) < 2 by omega)
  have h2 : 0 ≤ (i : Int).tmod 2 := Int.tmod_nonneg _ (by omega)
  show I64 (1 + (i : Int).tmod 2); omega, by show I64 0; decide, by show I64 0; decide, RepL.nil _ _ _, RepL.nil _ _ _⟩
theorem csE_reads (σ : PH) : ∀ k, k ≤ 100 → CellsL σ (csE k) (podsE k) := by
  intro k
  induction k with
  | zero => intro _; rfl
  | succ k ih => intro hk; rw [podsE_succ]; exact (ih (by omega)).snoc (repE σ k (by omega))
theorem csE_length (k : Nat) : (csE k).length = k * 7 := by
  induction k with
  | zero => rfl
  | succ k ih => simp only [csE, List.length_append, ih]; simp [cE]; omega
theorem csE_get {k j m : Nat} (hj : j < k) (hm : m < 7) : (csE k)[j * 7 + m]? = (cE j)[m]? := by
  induction k with
  | zero => omega
  | succ k ih =>
    simp only [csE]
    by_cases h : j < k
    · rw [List.getElem?_append_left (by rw [csE_length]; omega)]; exact ih h
    · obtain rfl : j = k := by omega
      rw [List.getElem?_append_right (by rw [csE_length]; omega), csE_length]
      congr 1; omega
theorem c0_get {c0 : List Value} {k j m : Nat} (h : c0.take (k * 7) = csE k) (hj : j < k) (hm : m < 7) : c0[j * 7 + m]? = (cE j)[m]? := by
  rw [← csE_get hj hm, ← h, List.getElem?_take, if_pos (by omega)]
def cM (i j : Nat) : List Value := [.string (letter ⟨#[112]⟩ j), .int .i64 (1 + (i : Int).tmod 2), .int .i64 0, .int .i64 0, .slice none 0 0, .slice none 0 0, .bool false]
theorem repM (σ : PH) (i j : Nat) : Rep.rep σ (cM i j) (pM i j) := ⟨_, _, rfl, by show (letter _ _).size ≤ _; rw [letter_size]; decide, by
  have := Int.tmod_lt_of_pos (i : Int) (show (0 : Int) < 2 by omega)
  have h2 : 0 ≤ (i : Int).tmod 2 := Int.tmod_nonneg _ (by omega)
  show I64 (1 + (i : Int).tmod 2); omega, by show I64 0; decide, by show I64 0; decide, RepL.nil _ _ _, RepL.nil _ _ _⟩
theorem rowM {g : PH} {bR k i j cap : Nat} {c0 : List Value} {T : TypeId} (hb : g bR = some (.cells (List.toArray (setAt c0 (0 + i * 7 + 0) [.string (letter ⟨#[112]⟩ j)])) T (0, 0))) (h : c0.take (k * 7) = csE k) (hl : k * 7 ≤ c0.length) (hk : k ≤ 8) (hi : i < k) (hj : j < k) (hcap : k ≤ cap) :
    RepL g (.slice (some ⟨bR, 0, none⟩) k cap) (podsM k i j) := by
  have hlen : (podsM k i j).length = k := by simp [podsM, podsE_length]
  refine ⟨by omega, _, _, by rw [hlen], by omega, fun _ => ⟨bR, 0, rfl, fun m hm => ?_⟩⟩
  have hmk : m < k := by rw [hlen] at hm; exact hm
  have hset : setAt c0 (0 + i * 7 + 0) [.string (letter ⟨#[112]⟩ j)] = c0.set (i * 7) (.string (letter ⟨#[112]⟩ j)) := by rw [setAt_cons, setAt_nil]; congr 1; omega
  rw [hset] at hb
  have hc : ∀ x, g.cell bR x = (c0.set (i * 7) (.string (letter ⟨#[112]⟩ j)))[x]? := fun x => by simp [PH.cell, hb]
  by_cases e : m = i
  · subst e
    refine ⟨cM m j, fun t ht => ?_, ?_⟩
    · have ht : t < 7 := ht
      show g.cell bR (0 + m * 7 + t) = _
      rw [hc, Nat.zero_add, List.getElem?_set]
      by_cases h0 : t = 0
      · subst h0; rw [if_pos (by omega), if_pos (by omega)]; rfl
      · rw [if_neg (by omega), c0_get h hmk ht]
        have : t = 1 ∨ t = 2 ∨ t = 3 ∨ t = 4 ∨ t = 5 ∨ t = 6 := by omega
        rcases this with rfl | rfl | rfl | rfl | rfl | rfl <;> rfl
    · have e2 : (podsM k m j)[m]'(by omega) = pM m j := by simp [podsM]
      rw [e2]; exact repM g m j
  · refine ⟨cE m, fun t ht => ?_, ?_⟩
    · have ht : t < 7 := ht
      show g.cell bR (0 + m * 7 + t) = _
      rw [hc, Nat.zero_add, List.getElem?_set, if_neg (by omega), c0_get h hmk ht]
    · have e2 : (podsM k i j)[m]'(by omega) = pE m := by simp only [podsM, List.getElem_set]; rw [if_neg (fun h => e h.symm), podsE_get]
      rw [e2]; exact repE g m (by omega)
end Go.Proofs.Ytejdccgebljmgaa
