/- Maps. -/
import Derived.Test.YthnoaapghcadgaaDoorDrawG
import Derived.Laws.IdiomRangeMap
namespace Go.JW

/-! ### maps as lists of keys and data -/
class KeyT (κ : Type) where
  enc : κ → Value
  kind : TypeDesc
  eqb : κ → κ → Bool
  eqb_iff : ∀ a b, eqb a b = true ↔ a = b
  same : ∀ a b, Instr.sameNow kind (enc a) (enc b) = some (eqb a b)
  bits : ∀ a, Instr.sameBits 10000 (enc a) (enc a) = true
  plain : ∀ (P : Program) (kt : TypeId) (w : World) (emp : Bool) (a : κ), P.underlying kt = some kind → (Instr.checkKey emp 10000 kt (enc a)).run P w = .ok () w
theorem ckS {P : Program} {kt : TypeId} {w : World} {emp : Bool} {a : ByteArray} (n : Nat) (h : P.underlying kt = some .string) : (Instr.checkKey emp (n + 1) kt (.string a)).run P w = .ok () w := by
  simp only [Instr.checkKey, Sem.run_bind, run_underlying h, Result.andThen_ok]
  rfl
theorem ckI {P : Program} {kt : TypeId} {w : World} {emp : Bool} {a : Int} {k : IntKind} (n : Nat) (h : P.underlying kt = some (.int k)) : (Instr.checkKey emp (n + 1) kt (.int k a)).run P w = .ok () w := by
  simp only [Instr.checkKey, Sem.run_bind, run_underlying h, Result.andThen_ok]
  rfl
instance : KeyT ByteArray where
  enc s := .string s
  kind := .string
  eqb a b := decide (a = b)
  eqb_iff a b := by simp
  same a b := by
    have h := str_beq a b
    rw [← beq_toListBytes] at h
    simp only [Instr.sameNow, h]
  bits a := by
    have h := str_beq a a
    rw [← beq_toListBytes] at h
    simp [Instr.sameBits, h]
  plain P kt w emp a h := ckS 9999 h
instance : KeyT Int where
  enc n := .int .i64 n
  kind := .int .i64
  eqb a b := decide (a = b)
  eqb_iff a b := by simp
  same a b := by
    simp only [Instr.sameNow, if_true]
    rfl
  bits a := by simp [Instr.sameBits]
  plain P kt w emp a h := ckI 9999 h
/-- A value of so many cells. -/
class VRep (α : Type) extends Rep α where
  of : List Value → Value
section
variable {κ α : Type} [KeyT κ] [VRep α]
def asg : List (κ × α) → κ → Option α
  | [], _ => none
  | p :: l, k => bif KeyT.eqb k p.1 then some p.2 else asg l k
def aset : List (κ × α) → κ → α → List (κ × α)
  | [], k, x => [(k, x)]
  | p :: l, k, x => bif KeyT.eqb k p.1 then (k, x) :: l else p :: aset l k x
def adel : List (κ × α) → κ → List (κ × α)
  | [], _ => []
  | p :: l, k => bif KeyT.eqb k p.1 then l else p :: adel l k
def EntOk (σ : PH) (e : MapEntry) (p : κ × α) : Prop := e.key = KeyT.enc p.1 ∧ ∃ cs, e.val = VRep.of α cs ∧ Rep.rep σ cs p.2
def Ents (σ : PH) : List MapEntry → List (κ × α) → Prop
  | [], [] => True
  | e :: es, p :: l => EntOk σ e p ∧ Ents σ es l
  | _, _ => False
theorem Ents.mono {σ σ' : PH} (hs : PH.le σ σ') : ∀ {es : List MapEntry} {l : List (κ × α)}, Ents σ es l → Ents σ' es l := by
  intro es
  induction es with
  | nil => intro l h; cases l with
    | nil => trivial
    | cons _ _ => exact h.elim
  | cons e es ih =>
    intro l h
    cases l with
    | nil => exact h.elim
    | cons p l =>
      obtain ⟨⟨h1, cs, h2, h3⟩, h4⟩ := h
      exact ⟨⟨h1, cs, h2, Rep.mono h3 hs⟩, ih h4⟩
theorem Ents.len {σ : PH} : ∀ {es : List MapEntry} {l : List (κ × α)}, Ents σ es l → es.length = l.length := by
  intro es
  induction es with
  | nil => intro l h; cases l with
    | nil => rfl
    | cons _ _ => exact h.elim
  | cons e es ih =>
    intro l h
    cases l with
    | nil => exact h.elim
    | cons p l => rw [List.length_cons, List.length_cons, ih h.2]
theorem Ents.find_none {σ : PH} {k : κ} : ∀ {es : List MapEntry} {l : List (κ × α)} {i : Nat}, Ents σ es l → asg l k = none → Instr.findNow (KeyT.kind κ) (KeyT.enc k) es i = some none := by
  intro es
  induction es with
  | nil => intro l i h _; cases l with
    | nil => rfl
    | cons _ _ => exact h.elim
  | cons e es ih =>
    intro l i h hn
    cases l with
    | nil => exact h.elim
    | cons p l =>
      obtain ⟨⟨h1, _⟩, h4⟩ := h
      simp only [asg] at hn
      cases he : KeyT.eqb k p.1 with
      | true => rw [he] at hn; cases hn
      | false =>
        rw [he] at hn
        simp only [Instr.findNow, h1, KeyT.same, he]
        exact ih h4 hn
theorem Ents.find_some {σ : PH} {k : κ} {x : α} : ∀ {es : List MapEntry} {l : List (κ × α)} {i : Nat}, Ents σ es l → asg l k = some x →
    ∃ j cs, Instr.findNow (KeyT.kind κ) (KeyT.enc k) es i = some (some (i + j, VRep.of α cs)) ∧ Rep.rep σ cs x ∧ (es[j]?).map (·.key) = some (KeyT.enc k) ∧
      (∀ cs' y, Rep.rep σ cs' y → Ents σ (es.modify j fun e => { e with key := KeyT.enc k, val := VRep.of α cs' }) (aset l k y)) ∧ Ents σ (es.eraseIdx j) (adel l k) := by
  intro es
  induction es with
  | nil => intro l i h hx; cases l with
    | nil => cases hx
    | cons _ _ => exact h.elim
  | cons e es ih =>
    intro l i h hx
    cases l with
    | nil => exact h.elim
    | cons p l =>
      obtain ⟨⟨h1, cs, h2, h3⟩, h4⟩ := h
      simp only [asg] at hx
      cases he : KeyT.eqb k p.1 with
      | true =>
        rw [he] at hx
        simp only [cond_true, Option.some.injEq] at hx
        subst hx
        have hk := (KeyT.eqb_iff k p.1).1 he
        refine ⟨0, cs, ?_, h3, by simp [h1, hk], fun cs' y hy => ?_, ?_⟩
        · simp only [Instr.findNow, h1, KeyT.same, he, h2, Nat.add_zero]
        · simp only [aset, he, cond_true, List.modify_zero_cons]
          exact ⟨⟨rfl, cs', rfl, hy⟩, h4⟩
        · simp only [adel, he, cond_true, List.eraseIdx_cons_zero]; exact h4
      | false =>
        rw [he] at hx
        simp only [cond_false] at hx
        obtain ⟨j, cs2, g1, g2, g3, g4, g5⟩ := ih (i := i + 1) h4 hx
        refine ⟨j + 1, cs2, ?_, g2, by simpa using g3, fun cs' y hy => ?_, ?_⟩
        · simp only [Instr.findNow, h1, KeyT.same, he]
          rw [g1]; congr 3; omega
        · simp only [aset, he, cond_false, List.modify_succ_cons]
          exact ⟨⟨h1, cs, h2, h3⟩, g4 cs' y hy⟩
        · simp only [adel, he, cond_false, List.eraseIdx_cons_succ]
          exact ⟨⟨h1, cs, h2, h3⟩, g5⟩
theorem Ents.push {σ : PH} {e : MapEntry} {k : κ} {x : α} : ∀ {es : List MapEntry} {l : List (κ × α)}, Ents σ es l → asg l k = none → EntOk σ e (k, x) → Ents σ (es ++ [e]) (aset l k x) := by
  intro es
  induction es with
  | nil => intro l h _ he; cases l with
    | nil => exact ⟨he, trivial⟩
    | cons _ _ => exact h.elim
  | cons e0 es ih =>
    intro l h hn he
    cases l with
    | nil => exact h.elim
    | cons p l =>
      simp only [asg] at hn
      cases hp : KeyT.eqb k p.1 with
      | true => rw [hp] at hn; cases hn
      | false =>
        rw [hp] at hn
        simp only [aset, hp, cond_false, List.cons_append]
        exact ⟨h.1, ih h.2 hn he⟩
structure MapOk (σ : PH) (es : Array MapEntry) (clock : Nat) (l : List (κ × α)) : Prop where
  ents : Ents σ es.toList l
  born : (es.toList.map (·.born)).Nodup
  old : ∀ e ∈ es.toList, e.born < clock
theorem MapOk.mono {σ σ' : PH} {es : Array MapEntry} {clock : Nat} {l : List (κ × α)} (h : MapOk σ es clock l) (hs : PH.le σ σ') : MapOk σ' es clock l := ⟨h.ents.mono hs, h.born, h.old⟩
theorem MapOk.size {σ : PH} {es : Array MapEntry} {clock : Nat} {l : List (κ × α)} (h : MapOk σ es clock l) : es.size = l.length := by rw [← Array.length_toList]; exact h.ents.len
theorem MapOk.nil (σ : PH) : MapOk σ #[] 0 ([] : List (κ × α)) := ⟨trivial, by simp, by simp⟩
/-- What an update makes of the entries; what a deletion leaves of them. -/
def updM (kind : TypeDesc) (es : Array MapEntry) (clock : Nat) (key v : Value) : Array MapEntry × Nat :=
  match Instr.findNow kind key es.toList 0 with
  | some (some (i, _)) => (es.modify i fun e => { e with key := key, val := v }, clock)
  | _ => (es.push { key := key, val := v, born := clock }, clock + 1)
def delM (kind : TypeDesc) (es : Array MapEntry) (key : Value) : Array MapEntry :=
  match Instr.findNow kind key es.toList 0 with
  | some (some (i, _)) => es.eraseIdxIfInBounds i
  | _ => es
theorem map_modify_born (es : List MapEntry) (j : Nat) (f : MapEntry → MapEntry) (hf : ∀ e, (f e).born = e.born) : (es.modify j f).map (·.born) = es.map (·.born) := by
  induction es generalizing j with
  | nil => simp
  | cons e es ih => cases j with
    | zero => simp [hf]
    | succ j => simp [ih]
theorem mem_modify {es : List MapEntry} {j : Nat} {f : MapEntry → MapEntry} {e : MapEntry} (h : e ∈ es.modify j f) : ∃ e0 ∈ es, e = e0 ∨ e = f e0 := by
  induction es generalizing j with
  | nil => simp at h
  | cons a es ih =>
    cases j with
    | zero =>
      simp only [List.modify_zero_cons, List.mem_cons] at h
      rcases h with h | h
      · exact ⟨a, by simp, .inr h⟩
      · exact ⟨e, by simp [h], .inl rfl⟩
    | succ j =>
      simp only [List.modify_succ_cons, List.mem_cons] at h
      rcases h with h | h
      · exact ⟨a, by simp, .inl h⟩
      · obtain ⟨e0, h1, h2⟩ := ih h
        exact ⟨e0, by simp [h1], h2⟩
theorem MapOk.upd {σ : PH} {es : Array MapEntry} {clock : Nat} {l : List (κ × α)} (h : MapOk σ es clock l) (k : κ) {x : α} {cs : List Value} (hx : Rep.rep σ cs x) :
    MapOk σ (updM (KeyT.kind κ) es clock (KeyT.enc k) (VRep.of α cs)).1 (updM (KeyT.kind κ) es clock (KeyT.enc k) (VRep.of α cs)).2 (aset l k x) := by
  cases ha : asg l k with
  | none =>
    have hf := h.ents.find_none (i := 0) ha
    have e : updM (KeyT.kind κ) es clock (KeyT.enc k) (VRep.of α cs) = (es.push { key := KeyT.enc k, val := VRep.of α cs, born := clock }, clock + 1) := by unfold updM; rw [hf]
    rw [e]
    refine ⟨?_, ?_, ?_⟩
    · simp only [Array.toList_push]; exact h.ents.push ha ⟨rfl, cs, rfl, hx⟩
    · simp only [Array.toList_push, List.map_append, List.map_cons, List.map_nil]
      rw [List.nodup_append]
      refine ⟨h.born, by simp, ?_⟩
      intro a ha' b hb hab
      simp at hb
      subst hb; subst hab
      obtain ⟨e, h1, h2⟩ := List.mem_map.1 ha'
      have := h.old e h1
      omega
    · intro e he
      simp only [Array.toList_push, List.mem_append, List.mem_singleton] at he
      rcases he with he | rfl
      · have := h.old e he; omega
      · show clock < clock + 1; omega
  | some y =>
    obtain ⟨j, cs0, g1, g2, g3, g4, g5⟩ := h.ents.find_some (i := 0) ha
    have e : updM (KeyT.kind κ) es clock (KeyT.enc k) (VRep.of α cs) = (es.modify (0 + j) fun e => { e with key := KeyT.enc k, val := VRep.of α cs }, clock) := by unfold updM; rw [g1]
    rw [e, Nat.zero_add]
    refine ⟨?_, ?_, ?_⟩
    · simp only [Array.toList_modify]; exact g4 cs x hx
    · simp only [Array.toList_modify]; rw [map_modify_born es.toList j (fun e => { e with key := KeyT.enc k, val := VRep.of α cs }) (fun _ => rfl)]; exact h.born
    · intro e he
      simp only [Array.toList_modify] at he
      obtain ⟨e0, h1, h2⟩ := mem_modify he
      have := h.old e0 h1
      rcases h2 with rfl | rfl <;> exact this
theorem MapOk.del {σ : PH} {es : Array MapEntry} {clock : Nat} {l : List (κ × α)} (h : MapOk σ es clock l) (k : κ) : MapOk σ (delM (KeyT.kind κ) es (KeyT.enc k)) clock (bif (asg l k).isSome then adel l k else l) := by
  cases ha : asg l k with
  | none =>
    have hf := h.ents.find_none (i := 0) ha
    have e : delM (KeyT.kind κ) es (KeyT.enc k) = es := by unfold delM; rw [hf]
    rw [e]; exact h
  | some y =>
    obtain ⟨j, cs0, g1, g2, g3, g4, g5⟩ := h.ents.find_some (i := 0) ha
    have e : delM (KeyT.kind κ) es (KeyT.enc k) = es.eraseIdxIfInBounds (0 + j) := by unfold delM; rw [g1]
    have e2 : (es.eraseIdxIfInBounds (0 + j)).toList = es.toList.eraseIdx j := by rw [Nat.zero_add]; simp
    rw [e]
    refine ⟨by rw [e2]; exact g5, ?_, ?_⟩
    · rw [e2]; exact h.born.sublist ((List.eraseIdx_sublist _ _).map _)
    · intro e' he; rw [e2] at he; exact h.old e' (List.mem_of_mem_eraseIdx he)
end

/-! ### operations -/
theorem Sat.alike {w0 w w' : World} {M : Nat → Prop} {σ : PH} {K : List HP} (h : Sat w0 M σ K w) (h1 : w'.heap = w.heap) (h2 : w'.os = w.os) (h3 : w'.tape = w.tape) (h4 : w'.output = w.output) : Sat w0 M σ K w' := by
  have e : hp w' = hp w := by funext b; simp [hp, h1]
  exact ⟨h2.trans h.os, h3.trans h.tape, h4.trans h.output, by rw [h1]; exact h.size, h.keep, by rw [e]; exact h.imm, by rw [e, h1]; exact h.sep⟩
class TZv (P : Program) (t : TypeId) (z : outParam Value) : Prop where eq : (P.info? t).bind (·.zero) = some z
section
variable {P : Program}
theorem run_zv {t : TypeId} {z : Value} (w : World) (h : (P.info? t).bind (·.zero) = some z) : (zeroValue t).run P w = .ok z w := by
  cases hi : P.info? t with
  | none => rw [hi] at h; cases h
  | some i =>
    rw [hi] at h
    simp only [Option.bind_some] at h
    simp [zeroValue, typeInfo, hi, h]
theorem run_getMap {w : World} {b : Nat} {es : Array MapEntry} {clock : Nat} (h : w.heap[b]? = some (.map es clock)) : (getObj b).run P w = .ok (.map es clock) w := by
  exact MapKept.run_getObj_map h
theorem run_setMap {w : World} {b : Nat} {es : Array MapEntry} {clock : Nat} {o' : Obj} (h : w.heap[b]? = some (.map es clock)) : (setObj b o').run P w = .ok () { w with heap := w.heap.setIfInBounds b o' } := by
  simp only [setObj, Sem.run, h]
theorem run_setIter {w : World} {b : Nat} {m : Option Nat} {s0 : Nat} {seen : Array Nat} {c : Nat} {o' : Obj} (h : w.heap[b]? = some (.mapIter m s0 seen c)) : (setObj b o').run P w = .ok () { w with heap := w.heap.setIfInBounds b o' } := by
  simp only [setObj, Sem.run, h]
theorem run_findKey {kt : TypeId} {kind : TypeDesc} {key : Value} {es : List MapEntry} {r : Option (Nat × Value)} (w : World) (hk : P.underlying kt = some kind) (h : Instr.findNow kind key es 0 = some r) : (Instr.findKey kt key es).run P w = .ok r w := by
  simp [Instr.findKey, run_underlying hk, h]
theorem run_lookup {t kt et : TypeId} {z : Value} {kind : TypeDesc} {bm : Nat} {es : Array MapEntry} {clock : Nat} {key : Value} {r : Option (Nat × Value)} {c : Bool} {w : World} (ht : P.underlying t = some (.map kt et)) (hz : (P.info? et).bind (·.zero) = some z) (hk : P.underlying kt = some kind)
    (hck : (Instr.checkKey es.isEmpty 10000 kt key).run P w = .ok () w) (hb : w.heap[bm]? = some (.map es clock)) (hf : Instr.findNow kind key es.toList 0 = some r) :
    (Instr.lookup t (.map (some bm)) key c).run P w = .ok (match r with | some (_, v) => if c then .tuple #[v, .bool true] else v | none => if c then .tuple #[z, .bool false] else z) w := by
  simp only [Instr.lookup, Sem.run_bind, run_underlying ht, Result.andThen_ok, run_getMap hb, hck, run_findKey w hk hf, Sem.run_pure]
  cases r with
  | none => simp only [Sem.run_bind, run_zv w hz, Result.andThen_ok, Sem.run_pure]
  | some p => obtain ⟨i, v⟩ := p; cases c <;> rfl
theorem run_update {κ α : Type} [KeyT κ] [VRep α] {t kt et : TypeId} {bm : Nat} {es : Array MapEntry} {clock : Nat} {k : κ} {v : Value} {σ : PH} {l : List (κ × α)} {w : World} (ht : P.underlying t = some (.map kt et)) (hk : P.underlying kt = some (KeyT.kind κ))
    (hb : w.heap[bm]? = some (.map es clock)) (ok : MapOk σ es clock l) :
    (Instr.mapUpdate t (.map (some bm)) (KeyT.enc k) v).run P w = .ok () { w with heap := w.heap.setIfInBounds bm (.map (updM (KeyT.kind κ) es clock (KeyT.enc k) v).1 (updM (KeyT.kind κ) es clock (KeyT.enc k) v).2) } := by
  have hck := KeyT.plain P kt w false k hk
  cases ha : asg l k with
  | none =>
    have hf := ok.ents.find_none (i := 0) ha
    have e : updM (KeyT.kind κ) es clock (KeyT.enc k) v = (es.push { key := KeyT.enc k, val := v, born := clock }, clock + 1) := by unfold updM; rw [hf]
    simp only [Instr.mapUpdate, Sem.run_bind, run_underlying ht, Result.andThen_ok, run_getMap hb, hck, run_findKey w hk hf, run_setMap hb, e]
  | some y =>
    obtain ⟨j, cs0, g1, g2, g3, g4, g5⟩ := ok.ents.find_some (i := 0) ha
    rw [Nat.zero_add] at g1
    have e : updM (KeyT.kind κ) es clock (KeyT.enc k) v = (es.modify j fun e => { e with key := KeyT.enc k, val := v }, clock) := by unfold updM; rw [g1]
    have hkey : ((es[j]?).map (·.key)).getD (KeyT.enc k) = KeyT.enc k := by rw [← Array.getElem?_toList, g3]; rfl
    have hst : ∀ w : World, (Instr.keyThatStays (KeyT.enc k) (KeyT.enc k)).run P w = .ok (KeyT.enc k) w := fun w => by
      simp only [Instr.keyThatStays, KeyT.bits k, if_true, Sem.run_pure]
    simp only [Instr.mapUpdate, Sem.run_bind, run_underlying ht, Result.andThen_ok, run_getMap hb, hck, run_findKey w hk g1, hkey, hst, run_setMap hb, e]
theorem run_delete {κ α : Type} [KeyT κ] [VRep α] {t kt et t2 : TypeId} {ty : TypeId} {bm : Nat} {es : Array MapEntry} {clock : Nat} {k : κ} {σ : PH} {l : List (κ × α)} {w : World} (ht : P.underlying t = some (.map kt et)) (hk : P.underlying kt = some (KeyT.kind κ))
    (hb : w.heap[bm]? = some (.map es clock)) (ok : MapOk σ es clock l) :
    (Builtin.delete_ #[t, t2] ty #[.map (some bm), KeyT.enc k]).run P w = .ok (.tuple #[]) { w with heap := w.heap.setIfInBounds bm (.map (delM (KeyT.kind κ) es (KeyT.enc k)) clock) } := by
  have hck := KeyT.plain P kt w es.isEmpty k hk
  cases ha : asg l k with
  | none =>
    have hf := ok.ents.find_none (i := 0) ha
    have e : delM (KeyT.kind κ) es (KeyT.enc k) = es := by unfold delM; rw [hf]
    simp [Builtin.delete_, run_underlying ht, run_getMap hb, hck, run_findKey w hk hf, run_setMap hb, e]
  | some y =>
    obtain ⟨j, cs0, g1, g2, g3, g4, g5⟩ := ok.ents.find_some (i := 0) ha
    rw [Nat.zero_add] at g1
    have e : delM (KeyT.kind κ) es (KeyT.enc k) = es.eraseIdxIfInBounds j := by unfold delM; rw [g1]
    simp [Builtin.delete_, run_underlying ht, run_getMap hb, hck, run_findKey w hk g1, run_setMap hb, e]
theorem run_next_at (w : World) (ty : TypeId) (bi bm since c0 : Nat) (seen : Array Nat) (es : Array MapEntry) (clock : Nat) (hi : w.heap[bi]? = some (.mapIter (some bm) since seen c0)) (hb : w.heap[bm]? = some (.map es clock)) (hold : ∀ x ∈ es.toList, x.born < since) (hsc : since ≤ c0) :
    ((leftOf es seen).size = 0 ∧ (Instr.next (.pointer (some ⟨bi, 0, none⟩)) false ty).run P w = .ok (.tuple #[.bool false]) w) ∨
    ∃ e ∈ (leftOf es seen).toList, ∃ w1 : World, (w1.heap = w.heap.setIfInBounds bi (.mapIter (some bm) since (seen.push e.born) clock) ∧ w1.os = w.os ∧ w1.tape = w.tape ∧ w1.output = w.output) ∧ (Instr.next (.pointer (some ⟨bi, 0, none⟩)) false ty).run P w = .ok (.tuple #[.bool true, e.key, e.val]) w1 := by
  have hgi : ∀ w : World, w.heap[bi]? = some (.mapIter (some bm) since seen c0) → (getObj bi).run P w = .ok (.mapIter (some bm) since seen c0) w := fun w h => by simp only [getObj, Sem.run, h]
  simp only [Instr.next, Sem.run_bind, hgi w hi, Result.andThen_ok, run_getMap hb, next_test_false seen es since c0 hold hsc, Bool.false_eq_true, if_false]
  unfold leftOf
  have hmem : ∀ x ∈ (Array.filter (fun e => !seen.contains e.born) es).toList, x.born < since := fun x hx => hold x (by simp at hx ⊢; exact hx.1)
  generalize Array.filter (fun e => !seen.contains e.born) es = L at hmem ⊢
  have e1 : L.filter (fun x => decide (x.born < since)) = L := Array.filter_eq_self.2 (fun x hx => by simpa using hmem x (by simpa using hx))
  have e2 : L.filter (fun x => decide (x.born ≥ since)) = #[] := by
    rw [Array.filter_eq_empty_iff]
    intro x hx
    have := hmem x (by simpa using hx)
    simp
    omega
  simp only [e1, e2, Array.append_empty]
  by_cases h0 : L.size = 0
  · left
    have : L = #[] := Array.eq_empty_of_size_eq_zero h0
    subst this
    refine ⟨rfl, ?_⟩
    simp [choose, Sem.run, Question.forced]
  · right
    have hne : L.isEmpty = false := by simp [Array.isEmpty, h0]
    simp only [hne, Bool.false_eq_true, if_false, Array.empty_append, Array.size_map]
    have hch : ∃ (j : Nat) (w1 : World), j < L.size ∧ (w1.heap = w.heap ∧ w1.os = w.os ∧ w1.tape = w.tape ∧ w1.output = w.output) ∧ (choose (Question.mapNext L.size)).run P w = .ok j w1 := by
      by_cases hf : L.size ≤ 1
      · exact ⟨0, w, by omega, ⟨rfl, rfl, rfl, rfl⟩, by simp [choose, Sem.run, Question.forced, hf]⟩
      · exact ⟨_, w.drew, Nat.mod_lt _ (by omega), ⟨rfl, rfl, rfl, rfl⟩, by
          simp only [choose, Sem.run, Question.forced, decide_eq_true_eq, hf, if_false, Question.cut]
          rfl⟩
    obtain ⟨j, w1, hj, ⟨a1, a2, a3, a4⟩, hrun⟩ := hch
    have hi1 : w1.heap[bi]? = some (.mapIter (some bm) since seen c0) := by rw [a1]; exact hi
    refine ⟨L[j], by simp, { w1 with heap := w1.heap.setIfInBounds bi (.mapIter (some bm) since (seen.push L[j].born) clock) }, ⟨by simp [a1], a2, a3, a4⟩, ?_⟩
    simp only [hrun, Array.getElem?_map, Array.getElem?_eq_getElem hj, Option.map_some, Sem.run_bind, run_setIter hi1, Result.andThen_ok]
    rfl
theorem run_entry_at (w : World) (bi bm since : Nat) (seen : Array Nat) (es : Array MapEntry) (clock : Nat) (e : MapEntry) (hi : w.heap[bi]? = some (.mapIter (some bm) since (seen.push e.born) clock)) (hb : w.heap[bm]? = some (.map es clock)) (he : e ∈ es.toList) (hn : (es.toList.map (·.born)).Nodup) :
    (Instr.entry (.pointer (some ⟨bi, 0, none⟩))).run P w = .ok (.tuple #[e.key, e.val]) w := by
  have hf : es.find? (·.born == e.born) = some e := by rw [← Array.find?_toList]; exact find_born e es.toList hn he
  have hgi : (getObj bi).run P w = .ok (.mapIter (some bm) since (seen.push e.born) clock) w := by simp only [getObj, Sem.run, hi]
  simp only [Instr.entry, Sem.run_bind, hgi, run_getMap hb, Result.andThen_ok, Array.back?_push, bne_self_eq_false, Bool.false_eq_true, if_false, hf]
  rfl
end
class TKey (P : Program) (kt : TypeId) (κ : Type) [KeyT κ] : Prop where eq : P.underlying kt = some (KeyT.kind κ)
instance {P : Program} {kt : TypeId} [h : TStr P kt] : TKey P kt ByteArray := ⟨h.eq⟩
instance {P : Program} {kt : TypeId} [h : TInt P kt .i64] : TKey P kt Int := ⟨h.eq⟩
section
variable {P : Program} {q : Bool} {ops : Array Oper} {f : FuncId} {R : Ending → World → Prop} {k : List Item} {n : Nat} {fr : Nat → Value} {w0 : World} {M : Nat → Prop} {σ σm : PH} {K K' : List HP}
variable {rest : List Oper} {d : Nat} {ty : TypeId} {pos : String} {aft : Array Edge} {x y z : Operand} {t t' kt et : TypeId}
variable {κ α : Type} [KeyT κ] [VRep α] {zv : Value} {bm bi clock : Nat} {es : Array MapEntry} {l : List (κ × α)} {put : HP → List HP}
theorem RS.enterK {fn : Func} {c : Code} {L : List Value} {g : FuncId} {w : World} (hf : P.funcs[g]? = some fn) (hn : fn.ntmps = n) (hb : fn.body = some c) (hs : Nat.ble L.length n = true)
    (h0 : Sat w0 M σ K w) (h : RS P g R [.code c] n (frameOf L) w0 M σ K) : Calls P g L.toArray w R := by
  refine Run.calls hf hb ?_
  rw [hn, act_enter _ _ (by simpa using hs)]
  exact h.out w h0
/-- What a look finds. -/
def lookV (es : Array MapEntry) (kind : TypeDesc) (key zv : Value) : Value × Bool :=
  match Instr.findNow kind key es.toList 0 with
  | some (some (_, v)) => (v, true)
  | _ => (zv, false)
theorem lookV_some {key : κ} {a : α} (ok : MapOk σm es clock l) (h : asg l key = some a) : ∃ cs, lookV es (KeyT.kind κ) (KeyT.enc key) zv = (VRep.of α cs, true) ∧ Rep.rep σm cs a := by
  obtain ⟨j, cs, g1, g2, _⟩ := ok.ents.find_some (i := 0) h
  exact ⟨cs, by unfold lookV; rw [g1], g2⟩
theorem lookV_none {key : κ} (ok : MapOk σm es clock l) (h : asg l key = none) : lookV es (KeyT.kind κ) (KeyT.enc key) zv = (zv, false) := by
  unfold lookV; rw [ok.ents.find_none (i := 0) h]
theorem run_look {key : κ} {c : Bool} {w : World} [ht : TMap P t kt et] [hz : TZv P et zv] [hk : TKey P kt κ] (ok : MapOk σm es clock l) (hb : w.heap[bm]? = some (.map es clock)) :
    (Instr.lookup t (.map (some bm)) (KeyT.enc key) c).run P w = .ok (if c then .tuple #[(lookV es (KeyT.kind κ) (KeyT.enc key) zv).1, .bool (lookV es (KeyT.kind κ) (KeyT.enc key) zv).2] else (lookV es (KeyT.kind κ) (KeyT.enc key) zv).1) w := by
  cases ha : asg l key with
  | none =>
    rw [run_lookup ht.eq hz.eq hk.eq (KeyT.plain P kt w _ key hk.eq) hb (ok.ents.find_none (i := 0) ha), lookV_none ok ha]
  | some a =>
    obtain ⟨j, cs, g1, g2, _⟩ := ok.ents.find_some (i := 0) ha
    have e : lookV es (KeyT.kind κ) (KeyT.enc key) zv = (VRep.of α cs, true) := by unfold lookV; rw [g1]
    rw [run_lookup ht.eq hz.eq hk.eq (KeyT.plain P kt w _ key hk.eq) hb g1, e]
theorem lkOk (key : κ) (ok : MapOk σm es clock l) [ht : TMap P t kt et] [hz : TZv P et zv] [hk : TKey P kt κ]
    (h : LS P q ops f R k rest n (upd fr d (.tuple #[(lookV es (KeyT.kind κ) (KeyT.enc key) zv).1, .bool (lookV es (KeyT.kind κ) (KeyT.enc key) zv).2])) w0 M σ K)
    (hx : ev n fr x = .map (some bm) := by rfl) (hy : ev n fr y = KeyT.enc key := by rfl) (hf : FindB bm K (.map es clock) put K' := by infer_instance) :
    LS P q ops f R k (⟨some d, .lookup t x y true, ty, pos, aft, none⟩ :: rest) n fr w0 M σ K :=
  LS.val rfl rfl (fun w hw => by
    have := run_look (P := P) (t := t) (key := key) (c := true) (zv := zv) ok (hw.get (i := hf))
    simp only [execOp, hx, hy, Sem.run_bind, this, Result.andThen_ok]; rfl) h
theorem lk (key : κ) (ok : MapOk σm es clock l) [ht : TMap P t kt et] [hz : TZv P et zv] [hk : TKey P kt κ]
    (h : LS P q ops f R k rest n (upd fr d (lookV es (KeyT.kind κ) (KeyT.enc key) zv).1) w0 M σ K)
    (hx : ev n fr x = .map (some bm) := by rfl) (hy : ev n fr y = KeyT.enc key := by rfl) (hf : FindB bm K (.map es clock) put K' := by infer_instance) :
    LS P q ops f R k (⟨some d, .lookup t x y false, ty, pos, aft, none⟩ :: rest) n fr w0 M σ K :=
  LS.val rfl rfl (fun w hw => by
    have := run_look (P := P) (t := t) (key := key) (c := false) (zv := zv) ok (hw.get (i := hf))
    simp only [execOp, hx, hy, Sem.run_bind, this, Result.andThen_ok]; rfl) h
theorem lenM [ht : TMap P t kt et] (h : LS P q ops f R k rest n (upd fr d (.int .i64 es.size)) w0 M σ K) (hx : ev n fr x = .map (some bm) := by rfl) (hf : FindB bm K (.map es clock) put K' := by infer_instance) :
    LS P q ops f R k (⟨some d, .call ⟨.builtin .len, #[x], #[t]⟩, ty, pos, aft, none⟩ :: rest) n fr w0 M σ K :=
  LS.val rfl rfl (fun w hw => by
    have hg := run_getMap (P := P) (hw.get (i := hf))
    simp [execOp, resolve, invoke, builtin, hx, Builtin.len_, run_underlying ht.eq, goInt, hg]) h
theorem mkM (h : ∀ b, LS P false ops f R k rest n (upd fr d (.map (some b))) w0 M σ (blk b (.map #[] 0) :: K)) :
    LS P false ops f R k (⟨some d, .makeMap t none, ty, pos, aft, none⟩ :: rest) n fr w0 M σ K :=
  LS.valW rfl rfl fun w hw => ⟨.map (some w.heap.size), w.alloc (.map #[] 0), σ, _, by simp [execOp, Instr.makeMap], hw.alloc _, h _⟩
theorem mupd (key : κ) (v : Value) (ok : MapOk σm es clock l) [ht : TMap P t kt et] [hk : TKey P kt κ]
    (h : LS P false ops f R k rest n fr w0 M σ (put (blk bm (.map (updM (KeyT.kind κ) es clock (KeyT.enc key) v).1 (updM (KeyT.kind κ) es clock (KeyT.enc key) v).2))))
    (hx : ev n fr x = .map (some bm) := by rfl) (hy : ev n fr y = KeyT.enc key := by rfl) (hz : ev n fr z = v := by rfl) (hf : FindB bm K (.map es clock) put K' := by infer_instance) :
    LS P false ops f R k (⟨none, .mapUpdate t x y z, ty, pos, aft, none⟩ :: rest) n fr w0 M σ K :=
  LS.skipW rfl rfl fun w hw => by
    have := run_update (P := P) (t := t) (k := key) (v := v) ht.eq hk.eq (hw.get (i := hf)) ok
    exact ⟨_, σ, _, by simp only [execOp, hx, hy, hz, Sem.run_bind, this, Result.andThen_ok]; rfl, hw.put (i := hf) _, h⟩
theorem LS.valN {o : Oper} {rest : List Oper} (hg : o.guard = none) (hd : o.dst = none)
    (ho : ∀ w, Sat w0 M σ K w → ∃ v w' σ' K', (execOp (ev n fr) o).run P w = .ok (.value v) w' ∧ Sat w0 M σ' K' w' ∧ LS P false ops f R k rest n fr w0 M σ' K') : LS P false ops f R k (o :: rest) n fr w0 M σ K := by
  refine ⟨fun w hw => ?_⟩
  obtain ⟨v, w', σ', K', h1, h2, h3⟩ := ho w hw
  refine wpList_plain hg fun K' hK' => ?_
  unfold Oper.wp
  rw [act_eval, h1, Oper.upon_value, hd, act_put_none]
  exact hK' _ _ (h3.out w' h2)
theorem delK (key : κ) (ok : MapOk σm es clock l) [ht : TMap P t kt et] [hk : TKey P kt κ]
    (h : LS P false ops f R k rest n fr w0 M σ (put (blk bm (.map (delM (KeyT.kind κ) es (KeyT.enc key)) clock))))
    (hx : ev n fr x = .map (some bm) := by rfl) (hy : ev n fr y = KeyT.enc key := by rfl) (hf : FindB bm K (.map es clock) put K' := by infer_instance) :
    LS P false ops f R k (⟨none, .call ⟨.builtin .delete, #[x, y], #[t, t']⟩, ty, pos, aft, none⟩ :: rest) n fr w0 M σ K :=
  LS.valN rfl rfl fun w hw => by
    have := run_delete (P := P) (t := t) (t2 := t') (ty := ty) (k := key) ht.eq hk.eq (hw.get (i := hf)) ok
    exact ⟨.tuple #[], _, σ, _, by simp [execOp, resolve, invoke, builtin, hx, hy, this], hw.put (i := hf) _, h⟩
theorem rngM [ht : TMap P t kt et] (h : ∀ b, LS P false ops f R k rest n (upd fr d (.pointer (some ⟨b, 0, none⟩))) w0 M σ (blk b (.mapIter (some bm) clock #[] clock) :: K)) (hx : ev n fr x = .map (some bm) := by rfl) (hf : FindB bm K (.map es clock) put K' := by infer_instance) :
    LS P false ops f R k (⟨some d, .range t x, ty, pos, aft, none⟩ :: rest) n fr w0 M σ K :=
  LS.valW rfl rfl fun w hw => by
    have := run_range_map (P := P) w t kt et bm es clock ht.eq (hw.get (i := hf))
    exact ⟨_, _, σ, _, by simp [execOp, hx, this], hw.alloc _, h _⟩
theorem nxtM {since c0 : Nat} {seen : Array Nat} {put' : HP → List HP} {K'' : List HP} (hold : ∀ e ∈ es.toList, e.born < since) (hsc : since ≤ c0)
    (h0 : (leftOf es seen).size = 0 → LS P false ops f R k rest n (upd fr d (.tuple #[.bool false])) w0 M σ K)
    (h1 : ∀ e ∈ (leftOf es seen).toList, LS P false ops f R k rest n (upd fr d (.tuple #[.bool true, e.key, e.val])) w0 M σ (put' (blk bi (.mapIter (some bm) since (seen.push e.born) clock))))
    (hx : ev n fr x = .pointer (some ⟨bi, 0, none⟩) := by rfl) (hi : FindB bi K (.mapIter (some bm) since seen c0) put' K'' := by infer_instance) (hf : FindB bm K (.map es clock) put K' := by infer_instance) :
    LS P false ops f R k (⟨some d, .next x false, ty, pos, aft, none⟩ :: rest) n fr w0 M σ K :=
  LS.valW rfl rfl fun w hw => by
    rcases run_next_at (P := P) w ty bi bm since c0 seen es clock (hw.get (i := hi)) (hw.get (i := hf)) hold hsc with ⟨g0, g1⟩ | ⟨e, he, w1, ⟨a1, a2, a3, a4⟩, g1⟩
    · exact ⟨_, w, σ, K, by simp [execOp, hx, g1], hw, h0 g0⟩
    · refine ⟨_, w1, σ, _, by simp [execOp, hx, g1], (hw.put (i := hi) (.mapIter (some bm) since (seen.push e.born) clock)).alike a1 a2 a3 a4, h1 e he⟩
theorem entM {since : Nat} {seen : Array Nat} {e : MapEntry} {put' : HP → List HP} {K'' : List HP} (he : e ∈ es.toList) (hn : (es.toList.map (·.born)).Nodup)
    (h : LS P q ops f R k rest n (upd fr d (.tuple #[e.key, e.val])) w0 M σ K)
    (hx : ev n fr x = .pointer (some ⟨bi, 0, none⟩) := by rfl) (hi : FindB bi K (.mapIter (some bm) since (seen.push e.born) clock) put' K'' := by infer_instance) (hf : FindB bm K (.map es clock) put K' := by infer_instance) :
    LS P q ops f R k (⟨some d, .entry x, ty, pos, aft, none⟩ :: rest) n fr w0 M σ K :=
  LS.val rfl rfl (fun w hw => by
    have := run_entry_at (P := P) w bi bm since seen es clock e (hw.get (i := hi)) (hw.get (i := hf)) he hn
    simp [execOp, hx, this]) h
variable {H : HS} {O : List (Nat × Obj)} {Kf : Us → List HP} {Kb : List HP} {E : List Nat} {sg : Bool} {tags : List Tag}
theorem D.lkOk (key : κ) (ok : MapOk σm es clock l) [ht : TMap P t kt et] [hz : TZv P et zv] [hk : TKey P kt κ]
    (h : LD P f R k n w0 M σ Kb rest tags ⟨upd fr d (.tuple #[(lookV es (KeyT.kind κ) (KeyT.enc key) zv).1, .bool (lookV es (KeyT.kind κ) (KeyT.enc key) zv).2]), H, O, Kf, E, false⟩)
    (hx : ∀ us, ev n (fill fr H us) x = .map (some bm) := by intro _; rfl) (hy : ∀ us, ev n (fill fr H us) y = KeyT.enc key := by intro _; rfl) (hf : FindB bm Kb (.map es clock) put K' := by infer_instance) :
    LD P f R k n w0 M σ Kb (⟨some d, .lookup t x y true, ty, pos, aft, none⟩ :: rest) (.ex :: tags) ⟨fr, H, O, Kf, E, false⟩ :=
  D.ex h fun us σ' w hle _ hw => by
    have := run_look (P := P) (t := t) (key := key) (c := true) (zv := zv) ok (hw.get (i := hf))
    simp only [execOp, hx us, hy us, Sem.run_bind, this, Result.andThen_ok]; rfl
theorem D.lk (key : κ) (ok : MapOk σm es clock l) [ht : TMap P t kt et] [hz : TZv P et zv] [hk : TKey P kt κ]
    (h : LD P f R k n w0 M σ Kb rest tags ⟨upd fr d (lookV es (KeyT.kind κ) (KeyT.enc key) zv).1, H, O, Kf, E, false⟩)
    (hx : ∀ us, ev n (fill fr H us) x = .map (some bm) := by intro _; rfl) (hy : ∀ us, ev n (fill fr H us) y = KeyT.enc key := by intro _; rfl) (hf : FindB bm Kb (.map es clock) put K' := by infer_instance) :
    LD P f R k n w0 M σ Kb (⟨some d, .lookup t x y false, ty, pos, aft, none⟩ :: rest) (.ex :: tags) ⟨fr, H, O, Kf, E, false⟩ :=
  D.ex h fun us σ' w hle _ hw => by
    have := run_look (P := P) (t := t) (key := key) (c := false) (zv := zv) ok (hw.get (i := hf))
    simp only [execOp, hx us, hy us, Sem.run_bind, this, Result.andThen_ok]; rfl
/-- An update by what the region has made. -/
theorem D.mupd (key : κ) (v : Us → Value) (ok : MapOk σm es clock l) [ht : TMap P t kt et] [hk : TKey P kt κ]
    (h : LD P f R k n w0 M σ Kb rest tags ⟨fr, H, [], fun us => put (blk bm (.map (updM (KeyT.kind κ) es clock (KeyT.enc key) (v us)).1 (updM (KeyT.kind κ) es clock (KeyT.enc key) (v us)).2)), (Stg.mk fr H [] (fun _ => K) E sg).seen ⟨none, .mapUpdate t x y z, ty, pos, aft, none⟩ ++ E, true⟩)
    (hx : ∀ us, ev n (fill fr H us) x = .map (some bm) := by intro _; rfl) (hy : ∀ us, ev n (fill fr H us) y = KeyT.enc key := by intro _; rfl) (hz : ∀ us, ev n (fill fr H us) z = v us := by intro _; rfl) (hf : FindB bm K (.map es clock) put K' := by infer_instance)
    (hE : ∀ us, v (resE (([] : List (Nat × Obj)).map (·.1) ++ ((Stg.mk fr H [] (fun _ => K) E sg).seen ⟨none, .mapUpdate t x y z, ty, pos, aft, none⟩ ++ E)) us) = v us := by intro _; rfl) :
    LD P f R k n w0 M σ Kb (⟨none, .mapUpdate t x y z, ty, pos, aft, none⟩ :: rest) (.st :: tags) ⟨fr, H, [], fun _ => K, E, sg⟩ :=
  D.st (fun us => put (blk bm (.map (updM (KeyT.kind κ) es clock (KeyT.enc key) (v us)).1 (updM (KeyT.kind κ) es clock (KeyT.enc key) (v us)).2))) _ h (fun us σ' w hle hfs hw => by
    have hw : Sat w0 M σ' K w := hw
    have := run_update (P := P) (t := t) (k := key) (v := v us) ht.eq hk.eq (hw.get (i := hf)) ok
    exact ⟨_, by simp only [execOp, hx us, hy us, hz us, Sem.run_bind, this, Result.andThen_ok]; rfl, hw.put (i := hf) _⟩) (fun us => by simp only [hE us])
end
end Go.JW
