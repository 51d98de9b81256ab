/- Data in memory: how cells read as data, by a heap of which nothing is written any more. -/
import Derived.Test.YthnoaapghcadgaaDoorLoop
namespace Go.JW

def PH.cell (σ : PH) (b off : Nat) : Option Value :=
  match σ b with
  | some (.cells c _ _) => c[off]?
  | _ => none
theorem PH.cell_mono {σ σ' : PH} (h : PH.le σ σ') {b off : Nat} {v : Value} (hc : σ.cell b off = some v) : σ'.cell b off = some v := by
  unfold PH.cell at *
  cases e : σ b with
  | none => simp [e] at hc
  | some o => rw [h b o e]; simpa [e] using hc
theorem PH.cell_world {w : World} {b off : Nat} : (hp w).cell b off = w.cell? ⟨b, off, none⟩ := by
  simp only [PH.cell, hp, World.cell?]
  cases w.heap[b]? with
  | none => rfl
  | some o => cases o <;> simp
theorem PH.cells_mono {σ σ' : PH} (h : PH.le σ σ') {b off n : Nat} {vs : List Value} (hl : vs.length = n) (hc : ∀ j, j < n → σ.cell b (off + j) = vs[j]?) : ∀ j, j < n → σ'.cell b (off + j) = vs[j]? := by
  intro j hj
  have h1 := hc j hj
  rw [List.getElem?_eq_getElem (by omega)] at h1 ⊢
  exact PH.cell_mono h h1

/-- How so many cells read as data. -/
class Rep (α : Type) where
  sz : Nat
  rep : PH → List Value → α → Prop
  len : ∀ {σ : PH} {cs : List Value} {a : α}, rep σ cs a → cs.length = sz
  one : ∀ {σ : PH} {cs : List Value} {a : α}, rep σ cs a → cs.all (·.oneCell') = true
  mono : ∀ {σ σ' : PH} {cs : List Value} {a : α}, rep σ cs a → PH.le σ σ' → rep σ' cs a
abbrev I64 (n : Int) : Prop := -9223372036854775808 ≤ n ∧ n ≤ 9223372036854775807
instance : Rep Int where
  sz := 1
  rep _ cs n := cs = [.int .i64 n] ∧ I64 n
  len h := by rw [h.1]; rfl
  one h := by rw [h.1]; rfl
  mono h _ := h
instance : Rep Bool where
  sz := 1
  rep _ cs n := cs = [.bool n]
  len h := by rw [h]; rfl
  one h := by rw [h]; rfl
  mono h _ := h
instance : Rep ByteArray where
  sz := 1
  rep _ cs s := cs = [.string s] ∧ s.size ≤ 140737488355328
  len h := by rw [h.1]; rfl
  one h := by rw [h.1]; rfl
  mono h _ := h
/-- The elements of a row, from a place on. -/
def RowAt {α : Type} [Rep α] (σ : PH) (b o : Nat) (l : List α) : Prop :=
  ∀ i (h : i < l.length), ∃ vs, (∀ j, j < Rep.sz α → σ.cell b (o + i * Rep.sz α + j) = vs[j]?) ∧ Rep.rep σ vs l[i]
def RepL {α : Type} [Rep α] (σ : PH) (v : Value) (l : List α) : Prop :=
  l.length ≤ 140737488355328 ∧ ∃ a cap, v = .slice a l.length cap ∧ l.length ≤ cap ∧ (l ≠ [] → ∃ b o, a = some ⟨b, o, none⟩ ∧ RowAt σ b o l)
theorem RowAt.mono {α : Type} [Rep α] {σ σ' : PH} {b o : Nat} {l : List α} (h : RowAt σ b o l) (hs : PH.le σ σ') : RowAt σ' b o l := by
  intro i hi
  obtain ⟨vs, h1, h2⟩ := h i hi
  exact ⟨vs, PH.cells_mono hs (Rep.len h2) h1, Rep.mono h2 hs⟩
theorem RepL.mono {α : Type} [Rep α] {σ σ' : PH} {v : Value} {l : List α} (h : RepL σ v l) (hs : PH.le σ σ') : RepL σ' v l := by
  obtain ⟨h0, a, cap, h1, h2, h3⟩ := h
  exact ⟨h0, a, cap, h1, h2, fun hn => let ⟨b, o, e, r⟩ := h3 hn; ⟨b, o, e, r.mono hs⟩⟩
instance {α : Type} [Rep α] : Rep (List α) where
  sz := 1
  rep σ cs l := ∃ v, cs = [v] ∧ RepL σ v l
  len h := by obtain ⟨v, rfl, _⟩ := h; rfl
  one h := by obtain ⟨v, rfl, _, a, cap, rfl, _⟩ := h; rfl
  mono h hs := let ⟨v, e, r⟩ := h; ⟨v, e, r.mono hs⟩
theorem RepL.nil {α : Type} [Rep α] (σ : PH) (a : Option Addr) (cap : Nat) : RepL σ (.slice a 0 cap) ([] : List α) := ⟨by simp, a, cap, rfl, by simp, fun h => absurd rfl h⟩
/-- The shape of a slice's value. -/
theorem RepL.form {α : Type} [Rep α] {σ : PH} {v : Value} {l : List α} (h : RepL σ v l) : ∃ a cap, v = .slice a l.length cap := let ⟨_, a, cap, e, _⟩ := h; ⟨a, cap, e⟩
theorem RepL.addr {α : Type} [Rep α] {σ : PH} {a : Option Addr} {n cap : Nat} {l : List α} (h : RepL σ (.slice a n cap) l) (hn : l ≠ []) : ∃ b o, a = some ⟨b, o, none⟩ ∧ RowAt σ b o l := by
  obtain ⟨_, a', cap', e, _, r⟩ := h
  injection e with e1 e2 e3
  subst e1; exact r hn
theorem RepL.len {α : Type} [Rep α] {σ : PH} {a : Option Addr} {n cap : Nat} {l : List α} (h : RepL σ (.slice a n cap) l) : n = l.length := by
  obtain ⟨_, a', cap', e, _, r⟩ := h
  injection e
theorem RepL.cap {α : Type} [Rep α] {σ : PH} {a : Option Addr} {n cap : Nat} {l : List α} (h : RepL σ (.slice a n cap) l) : l.length ≤ cap := by
  obtain ⟨_, a', cap', e, hc, r⟩ := h
  injection e with e1 e2 e3; subst e3; exact hc
theorem RowAt.str {σ : PH} {b o : Nat} {l : List ByteArray} (h : RowAt σ b o l) (i : Nat) (hi : i < l.length) : σ.cell b (o + i * 1) = some (.string l[i]) ∧ l[i].size ≤ 140737488355328 := by
  obtain ⟨vs, h1, h2, h3⟩ := h i hi
  have := h1 0 (by show 0 < 1; omega)
  rw [h2] at this
  exact ⟨this, h3⟩
theorem RowAt.int {σ : PH} {b o : Nat} {l : List Int} (h : RowAt σ b o l) (i : Nat) (hi : i < l.length) : σ.cell b (o + i * 1) = some (.int .i64 l[i]) ∧ I64 l[i] := by
  obtain ⟨vs, h1, h2, h3⟩ := h i hi
  have := h1 0 (by show 0 < 1; omega)
  rw [h2] at this
  exact ⟨this, h3⟩

section
variable {P : Program} {q : Bool} {ops : Array Oper} {f : FuncId} {R : Ending → World → Prop} {k : List Item} {n : Nat} {fr : Nat → Value} {w0 : World} {M : Nat → Prop} {σ : PH} {K : List HP}
variable {rest : List Oper} {d : Nat} {ty : TypeId} {pos : String} {aft : Array Edge} {x y z : Operand} {t t' : TypeId}
theorem Sat.cell {w : World} (hw : Sat w0 M σ K w) {b off : Nat} {v : Value} (h : σ.cell b off = some v) : w.cell? ⟨b, off, none⟩ = some v := by
  rw [← PH.cell_world]; exact PH.cell_mono hw.imm h
/-- A load of what is not written any more. -/
theorem ldS {b off : Nat} {v : Value} [ht : TOne P t] (hc : σ.cell b off = some v) (h : LS P q ops f R k rest n (upd fr d v) w0 M σ K) (hx : ev n fr x = .pointer (some ⟨b, off, none⟩) := by rfl) :
    LS P q ops f R k (⟨some d, .load t x, ty, pos, aft, none⟩ :: rest) n fr w0 M σ K :=
  LS.val rfl rfl (fun w hw => by
    have := run_loadVar1 (P := P) (w := w) (b := b) ht.agg off (hw.cell hc)
    simp [execOp, hx, Instr.loadAt, Instr.sureAddr, this]) h
theorem ldSA {b off s : Nat} {vs : List Value} [ht : TAgg P t] [hs : TSz P t s] (hl : vs.length = s) (hc : ∀ j, j < s → σ.cell b (off + j) = vs[j]?) (h : LS P q ops f R k rest n (upd fr d (.agg vs.toArray)) w0 M σ K) (hx : ev n fr x = .pointer (some ⟨b, off, none⟩) := by rfl) :
    LS P q ops f R k (⟨some d, .load t x, ty, pos, aft, none⟩ :: rest) n fr w0 M σ K :=
  LS.val rfl rfl (fun w hw => by
    have := run_loadVarA (P := P) (w := w) (b := b) ht.agg hs.eq off hl (fun j hj => by
      have h1 := hc j hj
      rw [List.getElem?_eq_getElem (by omega)] at h1 ⊢
      exact hw.cell h1)
    simp [execOp, hx, Instr.loadAt, Instr.sureAddr, this]) h
end
end Go.JW
