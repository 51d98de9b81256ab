/- Walk: LedgerGives. -/
import Derived.Test.YthnoaapghcadgaaDoorRef7
namespace Go.Proofs.YthnoaapghcadgaaDoor
open Go.JW Go.RowKit
theorem rowNil {α : Type} [Rep α] (g : VH) (e : Nat) : (rowD 0 e (.slice none 0 0) ([] : List α)).h g (fun _ => False) := ⟨[], rfl, by simp, rfl, none, 0, rfl, by simp, by simp, .inl ⟨rfl, rfl⟩⟩
theorem newRef {g : VH} {br : Nat} {K : List HP} {F : Nat → Prop} (h : SepIn g (blk br (.cells (List.toArray [.slice none 0 0, .slice none 0 0]) 72 (0, 0)) :: K) F) : SepIn g (refHP br ⟨[], []⟩ :: K) F := by
  obtain ⟨F1, h1, h2, h3⟩ := h
  have e : nodesOf ⟨[], []⟩ = [] := rfl
  exact ⟨F1, ⟨.slice none 0 0, .slice none 0 0, F1, h1, fun _ h => h, fun _ => False, by rw [e]; exact rowNil _ _, fun _ h => h.elim, fun _ => False, rowNil _ _, fun _ h => h.elim, trivial⟩, h2, h3⟩
theorem adel_aset {l : List (Int × List PlaceD)} {g : Int} {ps : List PlaceD} (h : asg l g = none) : adel (aset l g ps) g = l := by
  induction l with
  | nil => simp [aset, adel, eqb_self]
  | cons p l ih =>
    simp only [asg] at h
    cases e : KeyT.eqb g p.1 with
    | true => rw [e] at h; cases h
    | false => rw [e] at h; simp only [cond_false] at h; simp [aset, adel, e, ih h]
theorem give_take {S : LedD} {kk : Nat} (hi : LedInv S kk) {g : Int} {ps : List PlaceD} (h : takeE S g ps = 0) : giveE (takeT S g ps) g = 0 ∧ giveT (takeT S g ps) g = S.taken := by
  obtain ⟨h1, h2, _⟩ := takeE_zero h
  have hn := posH_none ((tk_zero hi g).1 (by omega))
  have h3 : tk (aset S.taken g ps) g = ps := by unfold tk; rw [asg_aset_same]; rfl
  have h4 : ¬ ps.length = 0 := fun e => h2 (List.eq_nil_of_length_eq_zero e)
  rw [takeT, if_pos h]
  exact ⟨by rw [giveE, h3, if_neg h4], by rw [giveT, h3, if_neg h4, adel_aset hn]⟩
section
variable {q : Bool} {ops : Array Oper} {f : FuncId} {R : Ending → World → Prop} {k : List Item} {n : Nat} {fr : Nat → Value} {w0 : World} {M : Nat → Prop} {σ : PH} {K K' : List HP}
variable {rest : List Oper} {d : Nat} {ty : TypeId} {pos : String} {aft : Array Edge} {xs : Array Operand} {ts : Array TypeId} {bl br : Nat} {S : LedD}
end
end Go.Proofs.YthnoaapghcadgaaDoor
