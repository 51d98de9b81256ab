/- Contracts: a map's keys in order. -/
import Derived.Test.YthnoaapghcadgaaDoorLedOps
import Derived.Test.YthnoaapghcadgaaDoorIter
import Derived.Sort.Walk0
namespace Go.JW
open Go.Maps
def sb (s : ByteArray) : List UInt8 := s.data.toList
theorem enc_sb (s : ByteArray) : Go.Proofs.encStr (sb s) = .string s := by cases s; rfl
theorem sb_inj {a b : ByteArray} (h : sb a = sb b) : a = b := by
  cases a; cases b; simp only [sb] at h; rw [Array.toList_inj] at h; rw [h]
theorem sLt_sb (a b : ByteArray) : sLt a b = decide (sb a < sb b) := by
  unfold sLt sb
  rw [Go.Proofs.bytesLess_eq, ByteArray.toList_eq, ByteArray.toList_eq]
section
variable {α : Type}
def insK (x : ByteArray × α) : List (ByteArray × α) → List (ByteArray × α)
  | [] => [x]
  | y :: l => if sLt x.1 y.1 then x :: y :: l else y :: insK x l
/-- In order of the keys. -/
def sortK : List (ByteArray × α) → List (ByteArray × α)
  | [] => []
  | x :: l => insK x (sortK l)
theorem insK_perm (x : ByteArray × α) : ∀ l, (insK x l).Perm (x :: l)
  | [] => List.Perm.refl _
  | y :: l => by
    unfold insK
    split
    · exact List.Perm.refl _
    · exact ((insK_perm x l).cons y).trans (List.Perm.swap x y l)
theorem sortK_perm : ∀ l : List (ByteArray × α), (sortK l).Perm l
  | [] => List.Perm.refl _
  | x :: l => (insK_perm x _).trans ((sortK_perm l).cons x)
def LeK (a b : ByteArray × α) : Prop := sLt b.1 a.1 = false
theorem sLe_sb (a b : ByteArray) : sLt b a = false ↔ sb a ≤ sb b := by
  rw [sLt_sb, decide_eq_false_iff_not]
  exact Iff.rfl
theorem insK_sorted (x : ByteArray × α) : ∀ l, l.Pairwise LeK → (insK x l).Pairwise LeK
  | [], _ => by simp [insK]
  | y :: l, h => by
    obtain ⟨h1, h2⟩ := List.pairwise_cons.1 h
    unfold insK
    split
    · rename_i hlt
      refine List.pairwise_cons.2 ⟨fun z hz => ?_, h⟩
      have hxy : sb x.1 < sb y.1 := by rw [sLt_sb] at hlt; exact of_decide_eq_true hlt
      rcases List.mem_cons.1 hz with rfl | hz
      · exact (sLe_sb _ _).2 (List.le_of_lt hxy)
      · exact (sLe_sb _ _).2 (List.le_trans (List.le_of_lt hxy) ((sLe_sb _ _).1 (h1 z hz)))
    · rename_i hlt
      refine List.pairwise_cons.2 ⟨fun z hz => ?_, insK_sorted x l h2⟩
      rcases List.mem_cons.1 ((insK_perm x l).mem_iff.1 hz) with rfl | hz
      · exact Bool.eq_false_iff.2 hlt
      · exact h1 z hz
theorem sortK_sorted : ∀ l : List (ByteArray × α), (sortK l).Pairwise LeK
  | [] => List.Pairwise.nil
  | x :: l => insK_sorted x _ (sortK_sorted l)
theorem sortK_len (l : List (ByteArray × α)) : (sortK l).length = l.length := (sortK_perm l).length_eq
theorem mem_sortK {l : List (ByteArray × α)} {p : ByteArray × α} : p ∈ sortK l ↔ p ∈ l := (sortK_perm l).mem_iff
/-- What is in order and has the same keys is it. -/
theorem keys_eq {ss : List (List UInt8)} {l : List (ByteArray × α)} (h : ss.Perm (l.map fun p => sb p.1)) : ss.mergeSort (fun x y => decide (x ≤ y)) = (sortK l).map fun p => sb p.1 := by
  have tr : ∀ a b c : List UInt8, leB a b = true → leB b c = true → leB a c = true := fun a b c h1 h2 => by simp only [leB, decide_eq_true_eq] at *; exact List.le_trans h1 h2
  have to : ∀ a b : List UInt8, (leB a b || leB b a) = true := fun a b => by simp only [leB, Bool.or_eq_true, decide_eq_true_eq]; exact List.le_total a b
  refine List.Perm.eq_of_pairwise (le := fun a b => leB a b = true) (fun a b _ _ h1 h2 => ?_) (List.pairwise_mergeSort tr to ss) ?_ (((List.mergeSort_perm ss leB).trans h).trans ((sortK_perm l).map _).symm)
  · simp only [leB, decide_eq_true_eq] at h1 h2
    exact List.le_antisymm h1 h2
  · exact List.pairwise_map.2 ((sortK_sorted l).imp fun h => decide_eq_true ((sLe_sb _ _).1 h))
theorem ownsRow_rep {w w' : World} {e n : Nat} {v : Value} {l : List ByteArray} (h : w'.ownsRow w.heap.size e 1 v n (l.map fun s => .string s)) (hn : n = l.length) (hs : ∀ s ∈ l, s.size ≤ 140737488355328) (hl : l.length ≤ 140737488355328) : RepL (since w w') v l := by
  subst hn
  obtain ⟨_, ⟨rfl, h0⟩ | ⟨g, cap, cur, rfl, hb, hg, h1, h2, h3, h4⟩⟩ := h
  · obtain rfl := List.eq_nil_of_length_eq_zero h0
    exact RepL.nil _ _ _
  · refine ⟨hl, _, cap, rfl, h1, fun _ => ⟨g, 0, rfl, fun i hi => ⟨[.string l[i]], fun j hj => ?_, rfl, hs _ (List.getElem_mem _)⟩⟩⟩
    obtain rfl : j = 0 := by have : Rep.sz ByteArray = 1 := rfl; omega
    have e1 : Rep.sz ByteArray = 1 := rfl
    have e2 : (since w w') g = some (.cells cur e (0, 0)) := by simp only [since]; rw [if_pos hb]; exact hg
    have e3 : cur.toList[i]? = some (.string l[i]) := by
      have := congrArg (·[i]?) h4
      simp only [List.getElem?_take, List.getElem?_map] at this
      rw [if_pos (by omega), List.getElem?_eq_getElem hi] at this
      exact this
    simp only [PH.cell, e2, e1]
    rw [← Array.getElem?_toList]
    simpa using e3
variable [VRep α] {P : Program} {σ : PH} {es : Array MapEntry} {c kt : Nat} {l : List (ByteArray × α)}
def RAny : Value → Option (DataW Unit × List MemPlace) := fun _ => some (.nil, [])
theorem Ents.keys : ∀ {es : List MapEntry} {l : List (ByteArray × α)}, Ents σ es l → es.map (·.key) = l.map fun p => .string p.1 := by
  intro es
  induction es with
  | nil => intro l h; cases l with
    | nil => rfl
    | cons _ _ => exact h.elim
  | cons e es ih =>
    intro l h
    cases l with
    | nil => exact h.elim
    | cons p l => rw [List.map_cons, List.map_cons, ih h.2, h.1.1]; rfl
theorem rd_any (hk : P.underlying kt = some .string) {x : MapEntry} {s : ByteArray} (hx : x.key = .string s) (hs : s.size ≤ maxLen) : WideElems.rd P kt RAny x = some (.string (sb s), .nil) := by
  simp [WideElems.rd, keyOf, mapKey, hk, hx, hs, RAny, sb]
theorem MapOk.owns {w : World} {b : Nat} (ok : MapOk σ es c l) (hk : P.underlying kt = some .string) (hn : (l.map (·.1)).Nodup) (hs : ∀ p ∈ l, p.1.size ≤ 140737488355328) (hl : l.length ≤ 140737488355328) (hb : w.heap[b]? = some (.map es c)) :
    ∃ D, w.ownsMap P kt RAny b es.size D ∧ Maps.size D = l.length ∧ (strKeys D).Perm (l.map fun p => sb p.1) := by
  have hkeys := ok.ents.keys
  have hlen := ok.size
  have hread : ∀ x ∈ es.toList, ∃ s, x.key = .string s ∧ s.size ≤ maxLen := by
    intro x hx
    have : x.key ∈ es.toList.map (·.key) := List.mem_map_of_mem hx
    rw [hkeys] at this
    obtain ⟨p, hp, e⟩ := List.mem_map.1 this
    exact ⟨p.1, e.symm, Nat.le_trans (hs p hp) (by decide)⟩
  refine ⟨_, ⟨es, c, hb, ⟨by rw [hlen]; exact Nat.le_trans hl (by decide), ⟨ok.old, ok.born, ?_⟩, fun x hx => ?_⟩, Nat.le_refl _, rfl⟩, ?_, ?_⟩
  · rw [hkeys]
    rw [show (l.map fun p => Value.string p.1) = (l.map (·.1)).map Value.string by rw [List.map_map]; rfl]
    exact List.Pairwise.map _ (fun a b h e => h (by injection e)) hn
  · obtain ⟨s, h1, h2⟩ := hread x hx
    exact ⟨_, rd_any hk h1 h2⟩
  · simp only [Maps.size]
    rw [(WideShapes.sorted_perm _).length_eq, List.length_map, Array.length_toList, hlen]
  · simp only [strKeys]
    refine ((WideShapes.sorted_perm _).map _).trans ?_
    rw [List.map_map]
    have e : es.toList.map ((fun p : Lit × DataW Unit => strOf p.1) ∘ WideElems.rg P kt RAny) = l.map fun p => sb p.1 := by
      have e1 : es.toList.map ((fun p : Lit × DataW Unit => strOf p.1) ∘ WideElems.rg P kt RAny) = (es.toList.map (·.key)).map fun v => match v with | .string s => sb s | _ => [] := by
        rw [List.map_map]
        refine List.map_congr_left fun x hx => ?_
        obtain ⟨s, h1, h2⟩ := hread x hx
        simp only [Function.comp, WideElems.rg, rd_any hk h1 h2, h1, Option.getD_some, strOf]
      rw [e1, hkeys, List.map_map]; rfl
    rw [e]
end
end Go.JW
namespace Go.Proofs.YthnoaapghcadgaaDoor
open Go.JW Go.RowKit Go.Maps

theorem mkeys_c (mb : Option Nat) (w : World) : Calls Tryd.prog 38 #[.map mb] w fun e w' => e = .returned (.func (.func 63) #[] #[.pointer (some ⟨w.heap.size, 0, none⟩)]) ∧ w' = w.alloc (.cells (List.toArray [.map mb]) 52) :=
  callsIn_wide.1 (Tryd.maps_Keys_38 mb w)
theorem sorted_c {α : Type} [VRep α] {σ : PH} {es : Array MapEntry} {c : Nat} {l : List (ByteArray × α)} (ok : MapOk σ es c l) (hn : (l.map (·.1)).Nodup) (hs : ∀ p ∈ l, p.1.size ≤ 1000) (hl : l.length ≤ 1000) (B b : Nat) (w : World)
    (hB : w.heap[B]? = some (.cells (List.toArray [.map (some b)]) 52 (0, 0))) (hb : w.heap[b]? = some (.map es c)) :
    Calls Tryd.prog 37 #[.func (.func 63) #[] #[.pointer (some ⟨B, 0, none⟩)]] w fun e w' => ∃ v, e = .returned v ∧ Below w.heap.size w w' ∧ RepL (since w w') v ((sortK l).map (·.1)) := by
  have hk : Tryd.prog.underlying 9 = some .string := TStr.eq
  have hs' : ∀ p ∈ l, p.1.size ≤ 140737488355328 := fun p hp => Nat.le_trans (hs p hp) (by omega)
  obtain ⟨D, hown, hsz, hperm⟩ := ok.owns (P := Tryd.prog) (kt := 9) hk hn hs' (by omega) hb
  have hBl : B < w.heap.size := (Array.getElem?_eq_some_iff.1 hB).1
  have hseq : SeqGives Fence.wide 2 Tryd.prog 63 #[.pointer (some ⟨B, 0, none⟩)] encStr (fun ss => ss.Perm (strKeys D)) (Maps.size D) w :=
    AnyZ.keys_gives (ρ := Tryd.keys38_ren) { Tryd.keys38 with } Fence.wide _ trivial rfl (by omega) B b es.size D w hBl (by simp [World.cell?, hB]) hown
  refine (callsIn_wide.1 (AnyZ.sorted_in Tryd.sorted37 Fence.wide 5 trivial trivial trivial trivial rfl (by omega) (Tryd.sorts37 _) (enters_of Tryd.func62 (by kernel_rfl) rfl) 63 #[.pointer (some ⟨B, 0, none⟩)] trivial (enters_of Tryd.func63 (by kernel_rfl) rfl) _ _ (by rw [hsz]; exact Nat.le_trans hl (by decide)) (by rw [hsz]; omega) _ hseq)).mono ?_
  rintro e w' ⟨v, ss, rfl, hS, hrow, _, hbel⟩
  refine ⟨v, rfl, hbel, ?_⟩
  have hp := hS.trans hperm
  rw [keys_eq hp, List.map_map] at hrow
  have e2 : (sortK l).map (encStr ∘ fun p => sb p.1) = ((sortK l).map (·.1)).map fun s => Value.string s := by
    rw [List.map_map]; exact List.map_congr_left fun p _ => enc_sb p.1
  rw [e2] at hrow
  refine ownsRow_rep hrow ?_ ?_ ?_
  · rw [hp.length_eq, List.length_map, List.length_map, sortK_len]
  · intro s hs2
    obtain ⟨p, hp2, rfl⟩ := List.mem_map.1 hs2
    exact hs' p (mem_sortK.1 hp2)
  · rw [List.length_map, sortK_len]; omega
end Go.Proofs.YthnoaapghcadgaaDoor
