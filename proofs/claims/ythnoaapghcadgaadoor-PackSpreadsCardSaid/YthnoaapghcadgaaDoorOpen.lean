/- What an argument that can be read is, as data: opened once for each type. -/
import Derived.Test.YthnoaapghcadgaaDoorRep
import Derived.WalkKit
import Derived.ChangeArms
import Derived.SizedLaws
namespace Go.JW

abbrev Sized (l : List Nat) : Prop := ∀ n ∈ l, n ≤ 140737488351232
/-- Values of type t read as data of α. -/
class OpenT (P : Program) (t : TypeId) (α : Type) [Rep α] : Prop where
  open_ : ∀ {H : Type} {enc : TypeId × Value → H} {w : World} {base : Nat} {sp : Nat → Bool} {held : Bool} {fuel : Nat} {cs : List Value} {x : DataW H × List MemPlace},
    DataW.trod enc P w base sp held fuel t cs = some x → Sized (x.1.weights P t) → ∃ a : α, Rep.rep (hp w) cs a
section
variable {P : Program} {t e : TypeId}
theorem wfI64 {n : Int} (h : (Lit.int .i64 n).wf = true) : I64 n := by
  simp only [Lit.wf, Bool.and_eq_true, decide_eq_true_eq] at h
  exact h
instance OpenT.int [ht : TInt P t .i64] : OpenT P t Int where
  open_ h _ := by
    obtain ⟨n, rfl, _, hw⟩ := DataW.trod_int ht.eq h
    exact ⟨n, rfl, wfI64 hw⟩
instance OpenT.bool [ht : TBool P t] : OpenT P t Bool where
  open_ h _ := by
    obtain ⟨n, rfl, _⟩ := DataW.trod_bool ht.eq h
    exact ⟨n, rfl⟩
instance OpenT.str [ht : TStr P t] : OpenT P t ByteArray where
  open_ h hs := by
    obtain ⟨s, rfl, rfl, hw⟩ := DataW.trod_string ht.eq h
    refine ⟨s, rfl, ?_⟩
    have h1 : s.data.toList.length ≤ 140737488351232 := hs _ (by rw [DataW.weights]; exact List.mem_singleton.2 rfl)
    have e : s.data.toList.length = s.size := Array.length_toList
    omega
theorem mem_weightsAll {H : Type} {d : DataW H} : ∀ {ds : List (DataW H)}, d ∈ ds → ∀ n ∈ d.weights P e, n ∈ DataW.weightsAll P e ds := by
  intro ds
  induction ds with
  | nil => intro h; cases h
  | cons x ds ih =>
    intro h n hn
    rw [DataW.weightsAll, List.mem_append]
    rcases List.mem_cons.1 h with h | h
    · subst h; exact .inl hn
    · exact .inr (ih h n hn)
theorem cellsOf_sz {s : Nat} (h : szOf P t = some s) : P.cellsOf t = s := by unfold szOf at h; unfold Program.cellsOf; rw [h]; rfl
theorem OpenT.slice {α : Type} [Rep α] {s by_ : Nat} [ht : TSlice P t e] [it : OpenT P e α] [hs0 : TSz P e s] [hb0 : TBytes P e by_] (hz0 : Nat.beq s (Rep.sz α) = true := by rfl) (hpos : 0 < Rep.sz α := by decide) (hby : 0 < by_ := by decide) : OpenT P t (List α) where
  open_ := by
    have hz : P.cellsOf e = Rep.sz α := (cellsOf_sz hs0.eq).trans (Nat.eq_of_beq_eq_true hz0)
    have hb : 0 < P.bytesOf e := by unfold Program.bytesOf; rw [hb0.eq]; exact hby
    intro H enc w base sp held fuel cs x h hs
    rcases DataW.trod_slice ht.eq h with ⟨rfl, _⟩ | ⟨a, len, cap, elems, rest, n, _, rfl, hx, hbase, hl, hm, hlen, hel, _⟩
    · exact ⟨[], _, rfl, RepL.nil _ _ _⟩
    · subst hx
      rw [DataW.weights, ht.eq] at hs
      simp only [List.length_map] at hs
      have hw0 : (elems.length + rest.length) * P.bytesOf e ≤ 140737488351232 := hs _ (by simp)
      have hlen47 : len ≤ 140737488355328 := by
        have : len * 1 ≤ (elems.length + rest.length) * P.bytesOf e := Nat.mul_le_mul (by omega) hb
        omega
      have each : ∀ i, i < len → ∃ (vs : List Value) (d : α), (∀ j, j < Rep.sz α → w.cell? ((a.add (i * Rep.sz α)).add j) = vs[j]?) ∧ vs.length = Rep.sz α ∧ Rep.rep (hp w) vs d := by
        intro i hi
        have h1 := hel i hi
        rw [hz] at h1
        have hi' : i < elems.length := by omega
        rw [List.getElem?_eq_getElem hi', Option.bind_eq_some_iff] at h1
        obtain ⟨vs, h2, h3⟩ := h1
        obtain ⟨_, h4, h5⟩ := World.cells?_some h2
        obtain ⟨d, hd⟩ := it.open_ h3 (fun m hm => hs m (by
          simp only [List.mem_cons, List.mem_append]
          right; left
          exact mem_weightsAll (List.mem_map.2 ⟨elems[i], List.getElem_mem _, rfl⟩) m hm))
        exact ⟨vs, d, h5, h4, hd⟩
      have key : ∀ m, m ≤ len → ∃ l : List α, l.length = m ∧ ∀ i (h : i < l.length), ∃ vs : List Value, (∀ j, j < Rep.sz α → w.cell? ((a.add (i * Rep.sz α)).add j) = vs[j]?) ∧ vs.length = Rep.sz α ∧ Rep.rep (hp w) vs l[i] := by
        intro m
        induction m with
        | zero => intro _; exact ⟨[], rfl, fun i h => by simp at h⟩
        | succ m ih =>
          intro hm'
          obtain ⟨l, h1, h2⟩ := ih (by omega)
          obtain ⟨vs, d, g1, g2, g3⟩ := each m (by omega)
          refine ⟨l ++ [d], by simp [h1], fun i hi => ?_⟩
          by_cases e : i < l.length
          · obtain ⟨vs', k1, k2, k3⟩ := h2 i e
            exact ⟨vs', k1, k2, by rw [List.getElem_append_left e]; exact k3⟩
          · have : i = m := by simp at hi; omega
            subst this
            refine ⟨vs, g1, g2, ?_⟩
            have e2 : (l ++ [d])[i]'hi = d := by rw [List.getElem_append_right (by omega)]; simp
            rw [e2]; exact g3
      obtain ⟨l, h1, h2⟩ := key len (Nat.le_refl _)
      refine ⟨l, _, rfl, by omega, some a, cap, by rw [h1], by omega, fun hn => ?_⟩
      have h0 : 0 < l.length := List.length_pos_iff.2 hn
      have hspot : a.spot = none := by
        obtain ⟨vs, k1, k2, _⟩ := h2 0 h0
        have := k1 0 hpos
        rw [Nat.zero_mul] at this
        simp only [Addr.add, if_true] at this
        unfold World.cell? at this
        rw [List.getElem?_eq_getElem (by omega)] at this
        cases hsp : a.spot with
        | none => rfl
        | some s => rw [hsp] at this; cases hb : w.heap[a.block]? with
          | none => rw [hb] at this; simp at this
          | some o => rw [hb] at this; cases o <;> simp at this
      obtain ⟨b, o, spot⟩ := a
      simp only at hspot
      subst hspot
      refine ⟨b, o, rfl, fun i hi => ?_⟩
      obtain ⟨vs, k1, k2, k3⟩ := h2 i hi
      refine ⟨vs, fun j hj => ?_, k3⟩
      rw [PH.cell_world, ← k1 j hj, add_off, add_off]
theorem OpenT.fields {H : Type} {enc : TypeId × Value → H} {w : World} {base : Nat} {sp : Nat → Bool} {held : Bool} {fuel : Nat} {cs : List Value} {x : DataW H × List MemPlace} {fs : Array Field} (ht : P.underlying t = some (.struct fs))
    (h : DataW.trod enc P w base sp held fuel t cs = some x) (hs : Sized (x.1.weights P t)) :
    cs.length = P.cellsOf t ∧ ∀ (i τ off s : Nat) (α : Type) [Rep α] [OpenT P τ α] [TSz P τ s], (fs[i]?).map (fun f => (f.type, f.offset)) = some (τ, off) → ∃ a : α, Rep.rep (hp w) ((cs.drop off).take s) a := by
  obtain ⟨xs, n, _, rfl, hl, hxs, hf⟩ := DataW.trod_struct ht h
  refine ⟨hl, fun i τ off s α _ ho hsz hfi0 => ?_⟩
  rw [Option.map_eq_some_iff] at hfi0
  obtain ⟨f, hfi, e⟩ := hfi0
  injection e with e1 e2
  subst e1; subst e2
  have h1 := hf i f hfi
  rw [cellsOf_sz hsz.eq] at h1
  have hi : i < xs.length := by rw [hxs]; exact (Array.getElem?_eq_some_iff.1 hfi).1
  rw [List.getElem?_eq_getElem hi] at h1
  refine ho.open_ h1 fun m hm => hs m ?_
  rw [DataW.weights, ht]
  exact DataW.weights_mem_each (j := i) (t := f.type) (d := xs[i].1) (by rw [List.getElem?_map]; simp [hfi]) (by rw [List.getElem?_map, List.getElem?_eq_getElem hi]; rfl) m hm
/-- An argument. -/
theorem OpenT.arg {α : Type} [Rep α] {H : Type} {enc : TypeId × Value → H} {w : World} {base : Nat} {sp : Nat → Bool} {held : Bool} {v : Value} {d : DataW H} {ps : List MemPlace} {ts : List TypeId} {ds : List (DataW H)} {j : Nat} (o : OpenT P t α)
    (h : DataW.Trod enc P w base sp held t v d ps) (hs : (DataW.weightsEach P ts ds).all (· ≤ reachBytes) = true) (ht : ts[j]? = some t) (hd : ds[j]? = some d) : ∃ a : α, Rep.rep (hp w) v.cells.toList a := by
  obtain ⟨fuel, hf⟩ := h
  refine o.open_ hf fun n hn => ?_
  have := List.all_eq_true.1 hs n (DataW.weights_mem_each ht hd n hn)
  exact of_decide_eq_true this
end
end Go.JW
