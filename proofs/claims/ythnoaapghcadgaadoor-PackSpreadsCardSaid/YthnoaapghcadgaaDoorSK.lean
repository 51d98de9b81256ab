/- Plain: keys in order, where one more is laid. -/
import Derived.Test.YthnoaapghcadgaaDoorLaw7
namespace Go.JW
open Go.Maps
theorem sLt_irr (a : ByteArray) : sLt a a = false := by rw [sLt_sb]; exact decide_eq_false (List.lt_irrefl _)
theorem sLe_anti {a b : ByteArray} (h1 : sLt b a = false) (h2 : sLt a b = false) : a = b := sb_inj (List.le_antisymm ((sLe_sb a b).1 h1) ((sLe_sb b a).1 h2))
theorem sLe_trans {a b c : ByteArray} (h1 : sLt b a = false) (h2 : sLt c b = false) : sLt c a = false := (sLe_sb a c).2 (List.le_trans ((sLe_sb a b).1 h1) ((sLe_sb b c).1 h2))
theorem sLt_le {a b : ByteArray} (h : sLt a b = true) : sLt b a = false := by
  rw [sLt_sb] at h
  exact (sLe_sb a b).2 (List.le_of_lt (of_decide_eq_true h))
theorem leS_eq (a b : ByteArray) : (sLt a b || decide (a = b)) = !sLt b a := by
  cases h : sLt b a with
  | true =>
    have h1 := sLt_le h
    have h2 : a ≠ b := fun e => by rw [e, sLt_irr] at h; cases h
    simp [h1, h2]
  | false =>
    cases h2 : sLt a b with
    | true => rfl
    | false => simp [sLe_anti h h2]
def SortedS (l : List ByteArray) : Prop := l.Pairwise fun a b => sLt b a = false
theorem skeys_unique {α : Type} {l : List (ByteArray × α)} {L : List ByteArray} (hs : SortedS L) (hp : L.Perm (l.map (·.1))) : (sortK l).map (·.1) = L := by
  refine List.Perm.eq_of_pairwise (le := fun a b => sLt b a = false) (fun a b _ _ h1 h2 => sLe_anti h1 h2) (List.pairwise_map.2 (sortK_sorted l)) hs (((sortK_perm l).map _).trans hp.symm)
theorem skeys_sorted {α : Type} (l : List (ByteArray × α)) : SortedS ((sortK l).map (·.1)) := List.pairwise_map.2 (sortK_sorted l)
/-- One more key, laid where it belongs. -/
theorem skeys_ins {α : Type} {l : List (ByteArray × α)} {k : ByteArray} {x : α} (hn : asg l k = none) {at_ : Nat} (h1 : ∀ y ∈ ((sortK l).map (·.1)).take at_, sLt k y = false) (h2 : ∀ y ∈ ((sortK l).map (·.1)).drop at_, sLt y k = false) :
    (sortK (aset l k x)).map (·.1) = ((sortK l).map (·.1)).take at_ ++ [k] ++ ((sortK l).map (·.1)).drop at_ := by
  refine skeys_unique ?_ ?_
  · have hs := skeys_sorted l
    unfold SortedS at hs ⊢
    rw [List.append_assoc, List.pairwise_append]
    have hs2 := hs
    rw [← List.take_append_drop at_ ((sortK l).map (·.1)), List.pairwise_append] at hs2
    refine ⟨hs2.1, ?_, fun a ha b hb => ?_⟩
    · rw [List.singleton_append, List.pairwise_cons]
      exact ⟨h2, hs2.2.1⟩
    · rw [List.singleton_append, List.mem_cons] at hb
      rcases hb with rfl | hb
      · exact h1 a ha
      · exact hs2.2.2 a ha b hb
  · rw [aset_keys, hn, if_neg (by simp)]
    have hp : ((sortK l).map (·.1)).Perm (l.map (·.1)) := (sortK_perm l).map _
    have e : ((sortK l).map (·.1)).take at_ ++ [k] ++ ((sortK l).map (·.1)).drop at_ = ((sortK l).map (·.1)).take at_ ++ ([k] ++ ((sortK l).map (·.1)).drop at_) := List.append_assoc _ _ _
    rw [e]
    refine (List.perm_append_comm_assoc _ _ _).trans ?_
    rw [List.take_append_drop]
    exact (List.perm_append_comm).trans (hp.append_right [k])
theorem skeys_same {α : Type} {l : List (ByteArray × α)} {k : ByteArray} {x y : α} (hn : asg l k = some y) : (sortK (aset l k x)).map (·.1) = (sortK l).map (·.1) := by
  refine skeys_unique (skeys_sorted l) ?_
  rw [aset_keys, hn]
  exact (sortK_perm l).map _
end Go.JW
