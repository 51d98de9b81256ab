/- What holds of a ledger whatever is done to it (no program in sight). -/
import Derived.Test.YthnoaapghcadgaaDoorLedTake
namespace Go.JW
section
variable {κ α : Type} [KeyT κ]
theorem asg_none {l : List (κ × α)} {k : κ} : asg l k = none ↔ k ∉ l.map (·.1) := by
  induction l with
  | nil => simp [asg]
  | cons p l ih =>
    simp only [asg, List.map_cons, List.mem_cons, not_or]
    cases h : KeyT.eqb k p.1 with
    | true => have := (KeyT.eqb_iff _ _).1 h; subst this; simp
    | false =>
      have : k ≠ p.1 := fun e => by rw [e, eqb_self] at h; cases h
      simp [this, ih]
theorem asg_some_mem {l : List (κ × α)} {k : κ} {x : α} (h : asg l k = some x) : (k, x) ∈ l := by
  induction l with
  | nil => cases h
  | cons p l ih =>
    simp only [asg] at h
    cases e : KeyT.eqb k p.1 with
    | true => rw [e] at h; injection h with h; have := (KeyT.eqb_iff _ _).1 e; subst this; subst h; simp
    | false => rw [e] at h; exact List.mem_cons_of_mem _ (ih h)
theorem aset_keys {l : List (κ × α)} {k : κ} {x : α} : (aset l k x).map (·.1) = if (asg l k).isSome = true then l.map (·.1) else l.map (·.1) ++ [k] := by
  induction l with
  | nil => rfl
  | cons p l ih =>
    rcases Bool.eq_false_or_eq_true (KeyT.eqb k p.1) with e | e
    · have := (KeyT.eqb_iff _ _).1 e; subst this; simp [aset, asg, e]
    · simp only [aset, asg, e, cond_false, List.map_cons, ih]
      split <;> simp
theorem aset_nodup {l : List (κ × α)} {k : κ} {x : α} (h : (l.map (·.1)).Nodup) : ((aset l k x).map (·.1)).Nodup := by
  rw [aset_keys]
  split
  · exact h
  · rename_i hs
    have : asg l k = none := by cases e : asg l k <;> simp [e] at hs ⊢
    rw [List.nodup_append]
    exact ⟨h, by simp, fun a ha b hb => by simp at hb; subst hb; intro e; subst e; exact asg_none.1 this ha⟩
theorem aset_len {l : List (κ × α)} {k : κ} {x : α} : (aset l k x).length = if (asg l k).isSome = true then l.length else l.length + 1 := by
  have := congrArg List.length (aset_keys (l := l) (k := k) (x := x))
  rw [List.length_map] at this
  rw [this]; split <;> simp
theorem mem_aset {l : List (κ × α)} {k : κ} {x : α} {p : κ × α} (h : p ∈ aset l k x) : p ∈ l ∨ p = (k, x) := by
  induction l with
  | nil => simp [aset] at h; exact .inr h
  | cons q l ih =>
    simp only [aset] at h
    cases e : KeyT.eqb k q.1 with
    | true =>
      rw [e] at h
      rcases List.mem_cons.1 h with h | h
      · exact .inr h
      · exact .inl (by simp [h])
    | false =>
      rw [e] at h
      rcases List.mem_cons.1 h with h | h
      · exact .inl (by simp [h])
      · rcases ih h with h | h
        · exact .inl (by simp [h])
        · exact .inr h
theorem adel_sub {l : List (κ × α)} {k : κ} : (adel l k).Sublist l := by
  induction l with
  | nil => exact List.Sublist.slnil
  | cons q l ih =>
    simp only [adel]
    cases KeyT.eqb k q.1 with
    | true => exact List.sublist_cons_self q l
    | false => exact ih.cons_cons q
theorem mem_adel {l : List (κ × α)} {k : κ} {p : κ × α} (h : p ∈ adel l k) : p ∈ l := adel_sub.mem h
theorem adel_nodup {l : List (κ × α)} {k : κ} (h : (l.map (·.1)).Nodup) : ((adel l k).map (·.1)).Nodup := h.sublist (adel_sub.map _)
theorem asg_adel_same {l : List (κ × α)} {k : κ} (h : (l.map (·.1)).Nodup) : asg (adel l k) k = none := by
  induction l with
  | nil => rfl
  | cons q l ih =>
    rw [List.map_cons, List.nodup_cons] at h
    simp only [adel]
    cases e : KeyT.eqb k q.1 with
    | true => have := (KeyT.eqb_iff _ _).1 e; subst this; exact asg_none.2 h.1
    | false => simp [asg, e, ih h.2]
theorem asg_adel_ne {l : List (κ × α)} {k k' : κ} (h : k' ≠ k) : asg (adel l k) k' = asg l k' := by
  induction l with
  | nil => rfl
  | cons q l ih =>
    simp only [adel]
    cases e : KeyT.eqb k q.1 with
    | true => have := (KeyT.eqb_iff _ _).1 e; subst this; simp [asg, eqb_ne h]
    | false => simp only [cond_false, asg, ih]
/-- A sum over all of it. -/
def sumA (f : α → Int) (l : List (κ × α)) : Int := (l.map fun p => f p.2).sum
theorem sumA_aset {f : α → Int} {l : List (κ × α)} {k : κ} {x : α} (h : asg l k = none) : sumA f (aset l k x) = sumA f l + f x := by
  induction l with
  | nil => simp [sumA, aset]
  | cons p l ih =>
    simp only [asg] at h
    cases e : KeyT.eqb k p.1 with
    | true => rw [e] at h; cases h
    | false =>
      rw [e] at h
      have := ih h
      simp only [sumA, aset, e, cond_false, List.map_cons, List.sum_cons] at this ⊢
      omega
theorem sumA_adel {f : α → Int} {l : List (κ × α)} {k : κ} {x : α} (h : asg l k = some x) : sumA f (adel l k) = sumA f l - f x := by
  induction l with
  | nil => cases h
  | cons p l ih =>
    simp only [asg] at h
    cases e : KeyT.eqb k p.1 with
    | true =>
      rw [e] at h; injection h with h; subst h
      simp only [sumA, adel, e, cond_true, List.map_cons, List.sum_cons]; omega
    | false =>
      rw [e] at h
      have := ih h
      simp only [sumA, adel, e, cond_false, List.map_cons, List.sum_cons] at this ⊢
      omega
end
end Go.JW
namespace Go.Proofs.YthnoaapghcadgaaDoor
open Go.JW Go.RowKit
def usedF (f : PlaceD → Int) (t : List (Int × List PlaceD)) (nm : ByteArray) : Int := sumA (needF f nm) t
theorem usedC_eq (t : List (Int × List PlaceD)) (nm : ByteArray) : usedC t nm = usedF (·.cpu) t nm := rfl
theorem usedM_eq (t : List (Int × List PlaceD)) (nm : ByteArray) : usedM t nm = usedF (·.mem) t nm := rfl
theorem usedN_eq (t : List (Int × List PlaceD)) (nm : ByteArray) : usedN t nm = usedF (fun _ => 1) t nm := rfl
theorem tk_some {t : List (Int × List PlaceD)} {g : Int} (h : 0 < (tk t g).length) : asg t g = some (tk t g) := by
  unfold tk at h ⊢
  cases e : asg t g with
  | none => rw [e] at h; simp at h
  | some x => rfl
/-- What always holds of a ledger; on a node there stand at most k pods. -/
structure LedInv (S : LedD) (k : Nat) : Prop where
  nodes : NodesOk S.nodes
  keys : (S.taken.map (·.1)).Nodup
  some_ : ∀ g ∈ S.taken, g.2 ≠ []
  right : ∀ g ∈ S.taken, ∀ p ∈ g.2, RightP p
  there : ∀ g ∈ S.taken, ∀ p ∈ g.2, (asg S.nodes p.node).isSome = true
  fits : ∀ nm n, asg S.nodes nm = some n → usedC S.taken nm ≤ n.cpu ∧ usedM S.taken nm ≤ n.mem
  count : ∀ nm, usedN S.taken nm ≤ k
  size : ∀ g ∈ S.taken, g.2.length ≤ 1000
theorem LedInv.empty (k : Nat) : LedInv ⟨[], []⟩ k where
  nodes := ⟨by simp, by simp, by simp, by simp⟩
  keys := by simp
  some_ := by simp
  right := by simp
  there := by simp
  fits _ _ h := by cases h
  count nm := by show (0 : Int) ≤ k; omega
  size := by simp
theorem usedF_none {f : PlaceD → Int} {t : List (Int × List PlaceD)} {nm : ByteArray} (h : ∀ g ∈ t, ∀ p ∈ g.2, p.node ≠ nm) : usedF f t nm = 0 := by
  induction t with
  | nil => rfl
  | cons g t ih =>
    have h1 : needF f nm g.2 = 0 := needF_none (by simp only [List.any_eq_false, decide_eq_true_eq]; exact h g (by simp))
    have := ih fun g' hg => h g' (by simp [hg])
    simp only [usedF, sumA, List.map_cons, List.sum_cons] at this ⊢
    omega
theorem LedInv.takenOk {S : LedD} {k : Nat} (h : LedInv S k) (hk : k ≤ 1000000) : TakenOk S.taken := by
  refine ⟨h.right, fun nm => ?_⟩
  have hc := h.count nm
  cases e : asg S.nodes nm with
  | some n =>
    have h1 := h.fits nm n e
    have h2 := fine_cap (h.nodes.fine _ (asg_some_mem e))
    simp only at h2
    omega
  | none =>
    have hno : ∀ g ∈ S.taken, ∀ p ∈ g.2, p.node ≠ nm := fun g hg p hp he => by
      have := h.there g hg p hp
      rw [he, e] at this; cases this
    rw [usedC_eq, usedM_eq, usedF_none hno, usedF_none hno]
    omega
theorem needF_pos {f : PlaceD → Int} {nm : ByteArray} {ps : List PlaceD} (h : ∀ p ∈ ps, 0 ≤ f p) : 0 ≤ needF f nm ps := by
  have := needF_in (nm := nm) h ps.length
  rw [List.take_length] at this; exact this.1
theorem NodesOk.aset {S : LedD} {n : NodeD} (h : NodesOk S.nodes) (he : putE S n = 0) : NodesOk (aset S.nodes n.name n) := by
  have h0 : nodeErr n = 0 := by unfold putE at he; by_cases e : nodeErr n = 0; exact e; rw [if_pos e] at he; exact absurd he e
  refine ⟨aset_nodup h.nodup, fun p hp => ?_, fun p hp => ?_, ?_⟩
  · rcases mem_aset hp with hp | rfl
    · exact h.key p hp
    · rfl
  · rcases mem_aset hp with hp | rfl
    · exact h.fine p hp
    · exact h0
  · rw [aset_len]
    have := h.few
    split
    · exact this
    · rename_i hs
      rw [putE, if_neg (by simp [h0]), if_neg hs] at he
      by_cases hl : 8 ≤ S.nodes.length
      · rw [if_pos hl] at he; cases he
      · omega
theorem LedInv.put {S : LedD} {k : Nat} (h : LedInv S k) (n : NodeD) : LedInv ⟨putN S n, S.taken⟩ k := by
  by_cases he : putE S n = 0
  rotate_left
  · rw [putN, if_neg he]; exact h
  rw [putN, if_pos he]
  have h0 : nodeErr n = 0 := by unfold putE at he; by_cases e : nodeErr n = 0; exact e; rw [if_pos e] at he; exact absurd he e
  refine ⟨h.nodes.aset he, h.keys, h.some_, h.right, fun g hg p hp => ?_, fun nm m hm => ?_, h.count, h.size⟩
  · by_cases e : p.node = n.name
    · rw [e, asg_aset_same]; rfl
    · rw [asg_aset_ne _ _ e]; exact h.there g hg p hp
  · by_cases e : nm = n.name
    · subst e
      rw [asg_aset_same] at hm; injection hm with hm; subst hm
      by_cases hs : (asg S.nodes n.name).isSome = true
      · rw [putE, if_neg (by simp [h0]), if_pos hs] at he
        by_cases hf : fitsB (usedC S.taken n.name) (usedM S.taken n.name) n.cpu n.mem = true
        · exact of_decide_eq_true hf
        · rw [if_neg hf] at he; cases he
      · have hno : ∀ g ∈ S.taken, ∀ p ∈ g.2, p.node ≠ n.name := fun g hg p hp he => by
          have := h.there g hg p hp
          rw [he] at this; exact hs this
        have hcap := fine_cap h0
        rw [usedC_eq, usedM_eq, usedF_none hno, usedF_none hno]; omega
    · rw [asg_aset_ne _ _ e] at hm; exact h.fits nm m hm
theorem LedInv.gone {S : LedD} {k : Nat} (h : LedInv S k) {nm : ByteArray} (hs : (asg S.nodes nm).isSome = true) (h0 : usedN S.taken nm = 0) : LedInv ⟨adel S.nodes nm, S.taken⟩ k := by
  have hno : ∀ g ∈ S.taken, ∀ p ∈ g.2, p.node ≠ nm := by
    intro g hg p hp he
    have h1 : ∀ t : List (Int × List PlaceD), g ∈ t → 1 ≤ usedN t nm := by
      intro t
      induction t with
      | nil => intro h; simp at h
      | cons a t ih =>
        intro hgt
        have hpos : ∀ l : List PlaceD, 0 ≤ needF (fun _ => 1) nm l := fun l => needF_pos (fun _ _ => by omega)
        have hall : 0 ≤ usedN t nm := by
          clear ih hgt
          induction t with
          | nil => exact Int.le_refl _
          | cons b t ih => simp only [usedN, List.map_cons, List.sum_cons] at ih ⊢; have := hpos b.2; show 0 ≤ needF _ _ _ + _; omega
        rcases List.mem_cons.1 hgt with rfl | hgt
        · have : 1 ≤ needF (fun _ => 1) nm g.2 := by
            obtain ⟨i, hi, rfl⟩ := List.getElem_of_mem hp
            have a1 := needF_succ (fun _ => 1) nm g.2 i hi
            rw [if_pos he] at a1
            have a2 := needF_in (f := fun _ => 1) (nm := nm) (ps := g.2) (fun _ _ => by omega) i
            have a3 := needF_in (f := fun _ => 1) (nm := nm) (ps := g.2) (fun _ _ => by omega) (i + 1)
            omega
          simp only [usedN, List.map_cons, List.sum_cons] at hall ⊢
          show 1 ≤ needF _ _ _ + _; omega
        · have := ih hgt
          have := hpos a.2
          simp only [usedN, List.map_cons, List.sum_cons] at *
          show 1 ≤ needF _ _ _ + _; omega
    have := h1 _ hg
    omega
  refine ⟨⟨adel_nodup h.nodes.nodup, fun p hp => h.nodes.key p (mem_adel hp), fun p hp => h.nodes.fine p (mem_adel hp), Nat.le_trans (adel_sub.length_le) h.nodes.few⟩, h.keys, h.some_, h.right, fun g hg p hp => ?_, fun nm' n hn => ?_, h.count, h.size⟩
  · show (asg (adel S.nodes nm) p.node).isSome = true
    rw [asg_adel_ne (hno g hg p hp)]; exact h.there g hg p hp
  · have hn : asg (adel S.nodes nm) nm' = some n := hn
    by_cases e : nm' = nm
    · subst e; rw [asg_adel_same h.nodes.nodup] at hn; cases hn
    · rw [asg_adel_ne e] at hn; exact h.fits nm' n hn
theorem takeE_zero {S : LedD} {g : Int} {ps : List PlaceD} (h : takeE S g ps = 0) : ¬ 0 < (tk S.taken g).length ∧ ps ≠ [] ∧ (∀ p ∈ ps, wrongE S p = 0) ∧ ∀ j, j < ps.length → roomAt S ps j = true := by
  unfold takeE at h
  by_cases h1 : 0 < (tk S.taken g).length
  · rw [if_pos h1] at h; cases h
  rw [if_neg h1] at h
  by_cases h2 : ps.length = 0
  · rw [if_pos h2] at h; cases h
  rw [if_neg h2] at h
  by_cases h3 : wrongs S ps = 0
  · rw [if_neg (by simp [h3])] at h
    by_cases h4 : roomAll S ps = true
    · refine ⟨h1, fun e => h2 (by rw [e]; rfl), wrongs_zero.1 h3, ?_⟩
      simpa [roomAll, List.all_eq_true, List.mem_range] using h4
    · rw [if_neg h4] at h; cases h
  · rw [if_pos h3] at h; exact absurd h h3
theorem wrongE_zero {S : LedD} {p : PlaceD} (h : wrongE S p = 0) : (∃ n, asg S.nodes p.node = some n) ∧ 0 ≤ p.cpu ∧ 0 ≤ p.mem := by
  unfold wrongE at h
  cases e : asg S.nodes p.node with
  | none => rw [e] at h; simp at h
  | some n =>
    rw [e] at h
    by_cases h2 : 0 ≤ p.cpu ∧ 0 ≤ p.mem
    · exact ⟨⟨n, rfl⟩, h2⟩
    · simp [h2] at h
/-- What all places need of a node, told at the last place there. -/
theorem need_last {f : PlaceD → Int} {nm : ByteArray} : ∀ {ps : List PlaceD} (k : Nat), k ≤ ps.length → needF f nm (ps.take k) = 0 ∨ ∃ j, ∃ h : j < ps.length, ps[j].node = nm ∧ needF f nm (ps.take k) = needF f nm (ps.take (j + 1)) := by
  intro ps k
  induction k with
  | zero => intro _; left; rfl
  | succ k ih =>
    intro hk
    have hs := needF_succ f nm ps k (by omega)
    by_cases e : ps[k].node = nm
    · exact .inr ⟨k, by omega, e, rfl⟩
    · rw [if_neg e, Int.add_zero] at hs
      rw [hs]; exact ih (by omega)
theorem LedInv.take {S : LedD} {k m : Nat} (h : LedInv S k) {g : Int} {ps : List PlaceD} (hm : ps.length ≤ m) (hm2 : ps.length ≤ 1000) : LedInv ⟨S.nodes, takeT S g ps⟩ (k + m) := by
  by_cases he : takeE S g ps = 0
  rotate_left
  · rw [takeT, if_neg he]
    exact ⟨h.nodes, h.keys, h.some_, h.right, h.there, h.fits, fun nm => by have := h.count nm; show usedN S.taken nm ≤ _; omega, h.size⟩
  rw [takeT, if_pos he]
  obtain ⟨h1, h2, h3, h4⟩ := takeE_zero he
  have hno : asg S.taken g = none := by
    cases e : asg S.taken g with
    | none => rfl
    | some x =>
      have := h.some_ _ (asg_some_mem e)
      have e2 : tk S.taken g = x := by unfold tk; rw [e]; rfl
      rw [e2] at h1
      exact absurd (List.eq_nil_of_length_eq_zero (by show x.length = 0; omega)) this
  have hsum : ∀ f nm, usedF f (aset S.taken g ps) nm = usedF f S.taken nm + needF f nm ps := fun f nm => sumA_aset hno
  refine ⟨h.nodes, aset_nodup h.keys, fun q hq => ?_, fun q hq p hp => ?_, fun q hq p hp => ?_, fun nm n hn => ?_, fun nm => ?_, fun q hq => ?_⟩
  · rcases mem_aset hq with hq | rfl
    · exact h.some_ q hq
    · exact h2
  · rcases mem_aset hq with hq | rfl
    · exact h.right q hq p hp
    · exact (wrongE_zero (h3 p hp)).2
  · rcases mem_aset hq with hq | rfl
    · exact h.there q hq p hp
    · obtain ⟨n, hn⟩ := (wrongE_zero (h3 p hp)).1
      show (asg S.nodes p.node).isSome = true
      rw [hn]; rfl
  · have hn : asg S.nodes nm = some n := hn
    obtain ⟨f1, f2⟩ := h.fits nm n hn
    show usedC (aset S.taken g ps) nm ≤ n.cpu ∧ usedM (aset S.taken g ps) nm ≤ n.mem
    rw [usedC_eq, usedM_eq, hsum, hsum]
    rw [usedC_eq] at f1
    rw [usedM_eq] at f2
    have key : ∀ j (hj : j < ps.length), ps[j].node = nm → usedF (·.cpu) S.taken nm + needF (·.cpu) nm (ps.take (j + 1)) ≤ n.cpu ∧ usedF (·.mem) S.taken nm + needF (·.mem) nm (ps.take (j + 1)) ≤ n.mem := by
      intro j hj e
      have hr := h4 j hj
      unfold roomAt at hr
      rw [List.getElem?_eq_getElem hj] at hr
      simp only [e, capOf, hn] at hr
      exact of_decide_eq_true hr
    have a1 := need_last (f := (·.cpu)) (nm := nm) (ps := ps) ps.length (Nat.le_refl _)
    have a2 := need_last (f := (·.mem)) (nm := nm) (ps := ps) ps.length (Nat.le_refl _)
    rw [List.take_length] at a1 a2
    constructor
    · rcases a1 with a1 | ⟨j, hj, e, a1⟩
      · rw [a1]; omega
      · rw [a1]; exact (key j hj e).1
    · rcases a2 with a2 | ⟨j, hj, e, a2⟩
      · rw [a2]; omega
      · rw [a2]; exact (key j hj e).2
  · have := h.count nm
    show usedN (aset S.taken g ps) nm ≤ _
    rw [usedN_eq, hsum]
    rw [usedN_eq] at this
    have hle : needF (fun _ => 1) nm ps ≤ ps.length := by
      clear hsum h1 h2 h3 h4 hm hm2 he
      induction ps with
      | nil => exact Int.le_refl _
      | cons p ps ih =>
        show (if p.node = nm then (1 : Int) else 0) + needF (fun _ => 1) nm ps ≤ _
        rw [List.length_cons]
        split <;> omega
    omega
  · rcases mem_aset hq with hq | rfl
    · exact h.size q hq
    · exact hm2
theorem LedInv.give {S : LedD} {k : Nat} (h : LedInv S k) (g : Int) : LedInv ⟨S.nodes, giveT S.taken g⟩ k := by
  by_cases he : (tk S.taken g).length = 0
  · rw [giveT, if_pos he]; exact h
  rw [giveT, if_neg he]
  have hs := tk_some (t := S.taken) (g := g) (by omega)
  have hsum : ∀ f nm, usedF f (adel S.taken g) nm = usedF f S.taken nm - needF f nm (tk S.taken g) := fun f nm => sumA_adel hs
  have hmem := asg_some_mem hs
  refine ⟨h.nodes, adel_nodup h.keys, fun q hq => h.some_ q (mem_adel hq), fun q hq => h.right q (mem_adel hq), fun q hq => h.there q (mem_adel hq), fun nm n hn => ?_, fun nm => ?_, fun q hq => h.size q (mem_adel hq)⟩
  · obtain ⟨f1, f2⟩ := h.fits nm n hn
    show usedC (adel S.taken g) nm ≤ n.cpu ∧ usedM (adel S.taken g) nm ≤ n.mem
    rw [usedC_eq, usedM_eq, hsum, hsum]
    rw [usedC_eq] at f1
    rw [usedM_eq] at f2
    have p1 : 0 ≤ needF (·.cpu) nm (tk S.taken g) := needF_pos fun p hp => (h.right _ hmem p hp).1
    have p2 : 0 ≤ needF (·.mem) nm (tk S.taken g) := needF_pos fun p hp => (h.right _ hmem p hp).2
    omega
  · have := h.count nm
    show usedN (adel S.taken g) nm ≤ _
    rw [usedN_eq, hsum]
    rw [usedN_eq] at this
    have p1 : 0 ≤ needF (fun _ => 1) nm (tk S.taken g) := needF_pos fun p hp => by omega
    omega
end Go.Proofs.YthnoaapghcadgaaDoor
