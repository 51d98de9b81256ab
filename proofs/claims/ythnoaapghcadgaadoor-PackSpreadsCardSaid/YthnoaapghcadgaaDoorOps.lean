/- The rules of the operations. -/
import Derived.Test.YthnoaapghcadgaaDoorHeap
namespace Go.JW

/-! ### types, by closed facts -/
def aggOf (P : Program) (t : TypeId) : Option Bool :=
  match P.underlying t with
  | some (.struct _) | some (.array ..) => some true
  | some _ => some false
  | none => none
def szOf (P : Program) (t : TypeId) : Option Nat := (P.info? t).map (·.size)
def zeroOf (P : Program) (t : TypeId) : Option (List Value) := ((P.info? t).bind (·.zero)).map fun z => z.cells.toList
def fldOf (P : Program) (t : TypeId) (i : Nat) : Option (Nat × Nat) :=
  match P.underlying t with
  | some (.struct fs) => (fs[i]?).bind fun f => (szOf P f.type).map fun s => (f.offset, s)
  | _ => none
class TInt (P : Program) (t : TypeId) (k : outParam IntKind) : Prop where eq : P.underlying t = some (.int k)
class TStr (P : Program) (t : TypeId) : Prop where eq : P.underlying t = some .string
class TBool (P : Program) (t : TypeId) : Prop where eq : P.underlying t = some .bool
class TSlice (P : Program) (t : TypeId) (e : outParam TypeId) : Prop where eq : P.underlying t = some (.slice e)
class TPtr (P : Program) (t : TypeId) (e : outParam TypeId) : Prop where eq : P.underlying t = some (.pointer e)
class TArr (P : Program) (t : TypeId) (l e : outParam Nat) : Prop where eq : P.underlying t = some (.array l e)
class TMap (P : Program) (t : TypeId) (k e : outParam TypeId) : Prop where eq : P.underlying t = some (.map k e)
class TSz (P : Program) (t : TypeId) (s : outParam Nat) : Prop where eq : szOf P t = some s
class TBytes (P : Program) (t : TypeId) (s : outParam Nat) : Prop where eq : (P.info? t).map (·.bytes) = some s
class TOne (P : Program) (t : TypeId) : Prop where
  agg : aggOf P t = some false
class TAgg (P : Program) (t : TypeId) : Prop where
  agg : aggOf P t = some true
class TZero (P : Program) (t : TypeId) (zs : outParam (List Value)) : Prop where eq : zeroOf P t = some zs
class TFld (P : Program) (t : TypeId) (i : Nat) (off s : outParam Nat) : Prop where eq : fldOf P t i = some (off, s + 1)
section
variable {P : Program} {t : TypeId} (w : World)
theorem run_sz {s : Nat} (h : szOf P t = some s) : (sizeOf t).run P w = .ok s w := by
  unfold szOf at h
  cases hi : P.info? t with
  | none => simp [hi] at h
  | some i => simp [hi] at h; simp [sizeOf, typeInfo, hi, h]
theorem run_agg {b : Bool} (h : aggOf P t = some b) : (isAgg t).run P w = .ok b w := by
  unfold aggOf at h
  cases hu : P.underlying t with
  | none => simp [hu] at h
  | some d => cases d <;> simp [hu] at h <;> subst h <;> simp [isAgg, run_underlying hu]
end

/-! ### lists of cells -/
def nth : List Value → Nat → Option Value
  | [], _ => none
  | v :: _, 0 => some v
  | _ :: l, i + 1 => nth l i
theorem nth_eq (l : List Value) (i : Nat) : nth l i = l[i]? := by
  induction l generalizing i with
  | nil => simp [nth]
  | cons v l ih => cases i <;> simp [nth, ih]
def takeAt : List Value → Nat → Nat → Option (List Value)
  | _, _, 0 => some []
  | [], _, _ + 1 => none
  | v :: l, 0, m + 1 => match takeAt l 0 m with | some r => some (v :: r) | none => none
  | _ :: l, i + 1, m + 1 => takeAt l i (m + 1)
theorem takeAt_spec : ∀ (l : List Value) (i m : Nat) (r : List Value), takeAt l i m = some r → r.length = m ∧ ∀ j, j < m → l[i + j]? = r[j]? := by
  intro l
  induction l with
  | nil =>
    intro i m r h
    cases m with
    | zero => simp [takeAt] at h; subst h; simp
    | succ m => simp [takeAt] at h
  | cons v l ih =>
    intro i m r h
    cases m with
    | zero => simp [takeAt] at h; subst h; simp
    | succ m =>
      cases i with
      | zero =>
        simp only [takeAt] at h
        cases e : takeAt l 0 m with
        | none => simp [e] at h
        | some r' =>
          simp [e] at h; subst h
          obtain ⟨h1, h2⟩ := ih 0 m r' e
          refine ⟨by simp [h1], fun j hj => ?_⟩
          cases j with
          | zero => simp
          | succ j => have := h2 j (by omega); simpa using this
      | succ i =>
        simp only [takeAt] at h
        obtain ⟨h1, h2⟩ := ih i (m + 1) r h
        refine ⟨h1, fun j hj => ?_⟩
        have := h2 j hj
        rw [show i + 1 + j = (i + j) + 1 by omega]; simpa using this
def setAt : List Value → Nat → List Value → List Value
  | l, _, [] => l
  | [], _, _ :: _ => []
  | _ :: l, 0, v :: vs => v :: setAt l 0 vs
  | u :: l, i + 1, v :: vs => u :: setAt l i (v :: vs)
theorem setAt_length : ∀ (l : List Value) (i : Nat) (vs : List Value), (setAt l i vs).length = l.length := by
  intro l
  induction l with
  | nil => intro i vs; cases vs <;> simp [setAt]
  | cons u l ih => intro i vs; cases vs <;> cases i <;> simp [setAt, ih]
theorem setAt_nil (l : List Value) (i : Nat) : setAt l i [] = l := by cases l <;> simp [setAt]
theorem setAt_cons : ∀ (l : List Value) (i : Nat) (v : Value) (vs : List Value), setAt l i (v :: vs) = setAt (l.set i v) (i + 1) vs := by
  intro l
  induction l with
  | nil => intro i v vs; cases vs <;> simp [setAt]
  | cons u l ih =>
    intro i v vs
    cases i with
    | zero =>
      cases vs with
      | nil => simp [setAt, setAt_nil]
      | cons v' vs => simp [setAt]
    | succ i =>
      have := ih i v vs
      cases vs with
      | nil => simp [setAt, this]
      | cons v' vs => simp only [setAt, List.set_cons_succ]; rw [this]
/-- Which cells a value of so many makes. -/
def cellsL (v : Value) : List Value := match v with | .agg cs => cs.toList | v => [v]
theorem cells_toList (v : Value) : v.cells.toList = cellsL v := by cases v <;> rfl

section
variable {P : Program} {w : World} {b : Nat} {cs : List Value} {T : TypeId}
theorem cell_blk (h : w.heap[b]? = some (.cells cs.toArray T (0, 0))) (off : Nat) : w.cell? ⟨b, off, none⟩ = cs[off]? := by
  simp [World.cell?, h]
theorem add_off (b off i : Nat) : (⟨b, off, none⟩ : Addr).add i = ⟨b, off + i, none⟩ := by unfold Addr.add; split <;> simp_all
theorem frozen_blk (h : w.heap[b]? = some (.cells cs.toArray T (0, 0))) (off : Nat) : w.frozen? ⟨b, off, none⟩ = false := by
  simp [World.frozen?, h]
theorem setCell_blk (h : w.heap[b]? = some (.cells cs.toArray T (0, 0))) (off : Nat) (v : Value) :
    w.setCell ⟨b, off, none⟩ v = { w with heap := w.heap.setIfInBounds b (.cells (cs.set off v).toArray T (0, 0)) } := by
  unfold World.setCell
  congr 1
  apply Array.ext_getElem?
  intro i
  rw [Array.getElem?_modify, Array.getElem?_setIfInBounds]
  have hb : b < w.heap.size := (Array.getElem?_eq_some_iff.1 h).1
  by_cases hi : b = i
  · subst hi; rw [h]; simp [hb]
  · simp [hi]
theorem run_loadFrom (a : Nat → Option Value) (hrd : ∀ j v, a j = some v → w.cell? ⟨b, j, none⟩ = some v) :
    ∀ (m i off : Nat) (acc : Array Value) (vs : List Value), vs.length = m → (∀ j, j < m → a (off + i + j) = vs[j]?) →
      (loadCellsFrom ⟨b, off, none⟩ i m acc).run P w = .ok (acc ++ vs.toArray) w := by
  intro m
  induction m with
  | zero => intro i off acc vs hl _; obtain rfl := List.eq_nil_of_length_eq_zero hl; simp [loadCellsFrom]
  | succ m ih =>
    intro i off acc vs hl hv
    cases vs with
    | nil => simp at hl
    | cons v vs =>
      have h0 := hrd (off + i) v (by have := hv 0 (by omega); simpa using this)
      have := ih (i + 1) off (acc.push v) vs (by simpa using hl) (fun j hj => by have := hv (j + 1) (by omega); simpa [Nat.add_assoc, Nat.add_comm, Nat.add_left_comm] using this)
      simp [loadCellsFrom, add_off, h0, this]
theorem run_loadVar1 {t : TypeId} {v : Value} (ht : aggOf P t = some false) (off : Nat) (h : w.cell? ⟨b, off, none⟩ = some v) : (loadVar t ⟨b, off, none⟩).run P w = .ok v w := by
  simp [loadVar, run_agg w ht, h]
theorem run_loadVarA {t : TypeId} {s : Nat} {vs : List Value} (ht : aggOf P t = some true) (hs : szOf P t = some s) (off : Nat) (hl : vs.length = s) (h : ∀ j, j < s → w.cell? ⟨b, off + j, none⟩ = vs[j]?) :
    (loadVar t ⟨b, off, none⟩).run P w = .ok (.agg vs.toArray) w := by
  have := run_loadFrom (P := P) (w := w) (b := b) (fun j => w.cell? ⟨b, j, none⟩) (fun j v h => h) s 0 off #[] vs hl (fun j hj => by simpa using h j hj)
  simp [loadVar, run_agg w ht, run_sz w hs, loadCells, this]
theorem run_storeCellsL (off : Nat) : ∀ (vs : List Value) (i : Nat) (w : World) (cs : List Value), w.heap[b]? = some (.cells cs.toArray T (0, 0)) →
    off + i + vs.length ≤ cs.length → vs.all (·.oneCell') = true →
    (storeCells ⟨b, off, none⟩ vs i).run P w = .ok () { w with heap := w.heap.setIfInBounds b (.cells (setAt cs (off + i) vs).toArray T (0, 0)) } := by
  intro vs
  induction vs with
  | nil =>
    intro i w cs hb _ _
    simp only [storeCells, Sem.run_pure, setAt_nil]
    congr 1
    have : w.heap.setIfInBounds b (.cells cs.toArray T (0, 0)) = w.heap := by
      apply Array.ext_getElem?
      intro j
      rw [Array.getElem?_setIfInBounds]
      by_cases hj : b = j
      · subst hj; rw [hb]; simp [(Array.getElem?_eq_some_iff.1 hb).1]
      · simp [hj]
    rw [this]
  | cons v vs ih =>
    intro i w cs hb hl h1
    simp only [List.all_cons, Bool.and_eq_true] at h1
    simp only [List.length_cons] at hl
    have hbs : b < w.heap.size := (Array.getElem?_eq_some_iff.1 hb).1
    have hc : w.cell? ⟨b, off + i, none⟩ = some (cs[off + i]'(by omega)) := by rw [cell_blk hb]; exact List.getElem?_eq_getElem _
    have := ih (i + 1) { w with heap := w.heap.setIfInBounds b (.cells (cs.set (off + i) v).toArray T (0, 0)) } (cs.set (off + i) v) (by simp [hbs]) (by simp; omega) h1.2
    rw [setAt_cons]
    simp only [storeCells, add_off, Sem.run_bind, run_store P w _ v _ h1.1, hc, frozen_blk hb, setCell_blk hb, Bool.false_eq_true, if_false, Result.andThen_ok, this]
    simp only [Array.setIfInBounds_setIfInBounds, Nat.add_assoc]
theorem run_storeVarL {t : TypeId} {s : Nat} {v : Value} (hb : w.heap[b]? = some (.cells cs.toArray T (0, 0))) (hs : szOf P t = some s) (off : Nat) (hl : (cellsL v).length = s) (hr : off + s ≤ cs.length) (h1 : (cellsL v).all (·.oneCell') = true) :
    (storeVar t ⟨b, off, none⟩ v).run P w = .ok () { w with heap := w.heap.setIfInBounds b (.cells (setAt cs off (cellsL v)).toArray T (0, 0)) } := by
  have := run_storeCellsL (P := P) (b := b) (T := T) off (cellsL v) 0 w cs hb (by omega) h1
  have hz : v.cells.size = s := by rw [← Array.length_toList, cells_toList]; exact hl
  simp only [storeVar, Sem.run_bind, run_sz w hs, Result.andThen_ok, hz, ne_eq, not_true_eq_false, if_false, cells_toList, this, Nat.add_zero]
end

/-! ### the rules -/
section
variable {P : Program} {q : Bool} {ops : Array Oper} {f : FuncId} {R : Ending → World → Prop} {k : List Item} {n : Nat} {fr : Nat → Value} {w0 : World} {M : Nat → Prop} {σ : PH} {K : List HP}
variable {rest : List Oper} {d : Nat} {ty : TypeId} {pos : String} {aft : Array Edge} {x y z : Operand} {t t' : TypeId}
theorem mv {v : Value} (h : LS P q ops f R k rest n (upd fr d v) w0 M σ K) (hx : ev n fr x = v := by rfl) : LS P q ops f R k (⟨some d, .move x, ty, pos, aft, none⟩ :: rest) n fr w0 M σ K :=
  LS.val rfl rfl (fun w _ => by simp [execOp, hx]) h
theorem as_ {v : Value} (h : LS P q ops f R k rest n (upd fr d v) w0 M σ K) (hx : ev n fr x = v := by rfl) : LS P q ops f R k (⟨some d, .assign x, ty, pos, aft, none⟩ :: rest) n fr w0 M σ K :=
  LS.val rfl rfl (fun w _ => by simp [execOp, hx]) h
theorem mvI {kk : IntKind} {m : Int} (h : LS P q ops f R k rest n (upd fr d (.int kk m)) w0 M σ K) (hx : ev n fr x = .int kk m := by rfl) : LS P q ops f R k (⟨some d, .move x, ty, pos, aft, none⟩ :: rest) n fr w0 M σ K := mv h hx
theorem asI {kk : IntKind} {m : Int} (h : LS P q ops f R k rest n (upd fr d (.int kk m)) w0 M σ K) (hx : ev n fr x = .int kk m := by rfl) : LS P q ops f R k (⟨some d, .assign x, ty, pos, aft, none⟩ :: rest) n fr w0 M σ K := as_ h hx
theorem mvB {m : Bool} (h : LS P q ops f R k rest n (upd fr d (.bool m)) w0 M σ K) (hx : ev n fr x = .bool m := by rfl) : LS P q ops f R k (⟨some d, .move x, ty, pos, aft, none⟩ :: rest) n fr w0 M σ K := mv h hx
theorem asB {m : Bool} (h : LS P q ops f R k rest n (upd fr d (.bool m)) w0 M σ K) (hx : ev n fr x = .bool m := by rfl) : LS P q ops f R k (⟨some d, .assign x, ty, pos, aft, none⟩ :: rest) n fr w0 M σ K := as_ h hx
theorem mvS {m : ByteArray} (h : LS P q ops f R k rest n (upd fr d (.string m)) w0 M σ K) (hx : ev n fr x = .string m := by rfl) : LS P q ops f R k (⟨some d, .move x, ty, pos, aft, none⟩ :: rest) n fr w0 M σ K := mv h hx
theorem asS {m : ByteArray} (h : LS P q ops f R k rest n (upd fr d (.string m)) w0 M σ K) (hx : ev n fr x = .string m := by rfl) : LS P q ops f R k (⟨some d, .assign x, ty, pos, aft, none⟩ :: rest) n fr w0 M σ K := as_ h hx
theorem mvL {m : Option Addr} {l c : Nat} (h : LS P q ops f R k rest n (upd fr d (.slice m l c)) w0 M σ K) (hx : ev n fr x = .slice m l c := by rfl) : LS P q ops f R k (⟨some d, .move x, ty, pos, aft, none⟩ :: rest) n fr w0 M σ K := mv h hx
theorem asL {m : Option Addr} {l c : Nat} (h : LS P q ops f R k rest n (upd fr d (.slice m l c)) w0 M σ K) (hx : ev n fr x = .slice m l c := by rfl) : LS P q ops f R k (⟨some d, .assign x, ty, pos, aft, none⟩ :: rest) n fr w0 M σ K := as_ h hx
theorem mvP {m : Option Addr} (h : LS P q ops f R k rest n (upd fr d (.pointer m)) w0 M σ K) (hx : ev n fr x = .pointer m := by rfl) : LS P q ops f R k (⟨some d, .move x, ty, pos, aft, none⟩ :: rest) n fr w0 M σ K := mv h hx
theorem asP {m : Option Addr} (h : LS P q ops f R k rest n (upd fr d (.pointer m)) w0 M σ K) (hx : ev n fr x = .pointer m := by rfl) : LS P q ops f R k (⟨some d, .assign x, ty, pos, aft, none⟩ :: rest) n fr w0 M σ K := as_ h hx
theorem mvA {m : Array Value} (h : LS P q ops f R k rest n (upd fr d (.agg m)) w0 M σ K) (hx : ev n fr x = .agg m := by rfl) : LS P q ops f R k (⟨some d, .move x, ty, pos, aft, none⟩ :: rest) n fr w0 M σ K := mv h hx
theorem asA {m : Array Value} (h : LS P q ops f R k rest n (upd fr d (.agg m)) w0 M σ K) (hx : ev n fr x = .agg m := by rfl) : LS P q ops f R k (⟨some d, .assign x, ty, pos, aft, none⟩ :: rest) n fr w0 M σ K := as_ h hx
theorem mvM {m : Option Nat} (h : LS P q ops f R k rest n (upd fr d (.map m)) w0 M σ K) (hx : ev n fr x = .map m := by rfl) : LS P q ops f R k (⟨some d, .move x, ty, pos, aft, none⟩ :: rest) n fr w0 M σ K := mv h hx
theorem asM {m : Option Nat} (h : LS P q ops f R k rest n (upd fr d (.map m)) w0 M σ K) (hx : ev n fr x = .map m := by rfl) : LS P q ops f R k (⟨some d, .assign x, ty, pos, aft, none⟩ :: rest) n fr w0 M σ K := as_ h hx
theorem mvT {m : Array Value} (h : LS P q ops f R k rest n (upd fr d (.tuple m)) w0 M σ K) (hx : ev n fr x = .tuple m := by rfl) : LS P q ops f R k (⟨some d, .move x, ty, pos, aft, none⟩ :: rest) n fr w0 M σ K := mv h hx
theorem asT {m : Array Value} (h : LS P q ops f R k rest n (upd fr d (.tuple m)) w0 M σ K) (hx : ev n fr x = .tuple m := by rfl) : LS P q ops f R k (⟨some d, .assign x, ty, pos, aft, none⟩ :: rest) n fr w0 M σ K := as_ h hx
theorem mvF {m : Fn} {l c : Array Value} (h : LS P q ops f R k rest n (upd fr d (.func m l c)) w0 M σ K) (hx : ev n fr x = .func m l c := by rfl) : LS P q ops f R k (⟨some d, .move x, ty, pos, aft, none⟩ :: rest) n fr w0 M σ K := mv h hx
theorem asF {m : Fn} {l c : Array Value} (h : LS P q ops f R k rest n (upd fr d (.func m l c)) w0 M σ K) (hx : ev n fr x = .func m l c := by rfl) : LS P q ops f R k (⟨some d, .assign x, ty, pos, aft, none⟩ :: rest) n fr w0 M σ K := as_ h hx
theorem mvE {m : TypeId} {l : Value} (h : LS P q ops f R k rest n (upd fr d (.iface m l)) w0 M σ K) (hx : ev n fr x = .iface m l := by rfl) : LS P q ops f R k (⟨some d, .move x, ty, pos, aft, none⟩ :: rest) n fr w0 M σ K := mv h hx
theorem asE {m : TypeId} {l : Value} (h : LS P q ops f R k rest n (upd fr d (.iface m l)) w0 M σ K) (hx : ev n fr x = .iface m l := by rfl) : LS P q ops f R k (⟨some d, .assign x, ty, pos, aft, none⟩ :: rest) n fr w0 M σ K := as_ h hx
theorem mvE0  (h : LS P q ops f R k rest n (upd fr d (.nilIface)) w0 M σ K) (hx : ev n fr x = .nilIface := by rfl) : LS P q ops f R k (⟨some d, .move x, ty, pos, aft, none⟩ :: rest) n fr w0 M σ K := mv h hx
theorem asE0  (h : LS P q ops f R k rest n (upd fr d (.nilIface)) w0 M σ K) (hx : ev n fr x = .nilIface := by rfl) : LS P q ops f R k (⟨some d, .assign x, ty, pos, aft, none⟩ :: rest) n fr w0 M σ K := as_ h hx
theorem exec_bin {w : World} {op : BinOp} {kk : IntKind} {a b : Int} {v : Value} {g : Option (Nat × Bool)} (hx : ev n fr x = .int kk a) (hy : ev n fr y = .int kk b) (h : (binOp op t (.int kk a) (.int kk b)).run P w = .ok v w) :
    (execOp (ev n fr) ⟨some d, .binOp op t x y t', ty, pos, aft, g⟩).run P w = .ok (.value v) w := by
  simp only [execOp, hx, hy, eqGuard, Sem.run_bind]
  split <;> simp [h]
theorem addI {kk : IntKind} {a b : Int} (h : LS P q ops f R k rest n (upd fr d (.int kk (kk.wrap (a + b)))) w0 M σ K) (hx : ev n fr x = .int kk a := by rfl) (hy : ev n fr y = .int kk b := by rfl) :
    LS P q ops f R k (⟨some d, .binOp .add t x y t', ty, pos, aft, none⟩ :: rest) n fr w0 M σ K :=
  LS.val rfl rfl (fun w _ => exec_bin hx hy (by simp [binOp, Op.intArith])) h
theorem subI {kk : IntKind} {a b : Int} (h : LS P q ops f R k rest n (upd fr d (.int kk (kk.wrap (a - b)))) w0 M σ K) (hx : ev n fr x = .int kk a := by rfl) (hy : ev n fr y = .int kk b := by rfl) :
    LS P q ops f R k (⟨some d, .binOp .sub t x y t', ty, pos, aft, none⟩ :: rest) n fr w0 M σ K :=
  LS.val rfl rfl (fun w _ => exec_bin hx hy (by simp [binOp, Op.intArith])) h
theorem mulI {kk : IntKind} {a b : Int} (h : LS P q ops f R k rest n (upd fr d (.int kk (kk.wrap (a * b)))) w0 M σ K) (hx : ev n fr x = .int kk a := by rfl) (hy : ev n fr y = .int kk b := by rfl) :
    LS P q ops f R k (⟨some d, .binOp .mul t x y t', ty, pos, aft, none⟩ :: rest) n fr w0 M σ K :=
  LS.val rfl rfl (fun w _ => exec_bin hx hy (by simp [binOp, Op.intArith])) h
theorem quoI {kk : IntKind} {a b : Int} (h : LS P q ops f R k rest n (upd fr d (.int kk (kk.wrap (a.tdiv b)))) w0 M σ K) (hx : ev n fr x = .int kk a := by rfl) (hy : ev n fr y = .int kk b := by rfl) (hb : b ≠ 0 := by omega) :
    LS P q ops f R k (⟨some d, .binOp .quo t x y t', ty, pos, aft, none⟩ :: rest) n fr w0 M σ K :=
  LS.val rfl rfl (fun w _ => exec_bin hx hy (by simp [binOp, Op.intDiv, hb])) h
theorem remI {kk : IntKind} {a b : Int} (h : LS P q ops f R k rest n (upd fr d (.int kk (a.tmod b))) w0 M σ K) (hx : ev n fr x = .int kk a := by rfl) (hy : ev n fr y = .int kk b := by rfl) (hb : b ≠ 0 := by omega) :
    LS P q ops f R k (⟨some d, .binOp .rem t x y t', ty, pos, aft, none⟩ :: rest) n fr w0 M σ K :=
  LS.val rfl rfl (fun w _ => exec_bin hx hy (by simp [binOp, Op.intDiv, hb])) h
theorem ltI {kk : IntKind} {a b : Int} (h : LS P q ops f R k rest n (upd fr d (.bool (decide (a < b)))) w0 M σ K) (hx : ev n fr x = .int kk a := by rfl) (hy : ev n fr y = .int kk b := by rfl) :
    LS P q ops f R k (⟨some d, .binOp .lss t x y t', ty, pos, aft, none⟩ :: rest) n fr w0 M σ K :=
  LS.val rfl rfl (fun w _ => exec_bin hx hy (by simp [binOp, Op.intCmp])) h
theorem leI {kk : IntKind} {a b : Int} (h : LS P q ops f R k rest n (upd fr d (.bool (decide (a ≤ b)))) w0 M σ K) (hx : ev n fr x = .int kk a := by rfl) (hy : ev n fr y = .int kk b := by rfl) :
    LS P q ops f R k (⟨some d, .binOp .leq t x y t', ty, pos, aft, none⟩ :: rest) n fr w0 M σ K :=
  LS.val rfl rfl (fun w _ => exec_bin hx hy (by simp [binOp, Op.intCmp])) h
theorem gtI {kk : IntKind} {a b : Int} (h : LS P q ops f R k rest n (upd fr d (.bool (decide (b < a)))) w0 M σ K) (hx : ev n fr x = .int kk a := by rfl) (hy : ev n fr y = .int kk b := by rfl) :
    LS P q ops f R k (⟨some d, .binOp .gtr t x y t', ty, pos, aft, none⟩ :: rest) n fr w0 M σ K :=
  LS.val rfl rfl (fun w _ => exec_bin hx hy (by simp [binOp, Op.intCmp])) h
theorem geI {kk : IntKind} {a b : Int} (h : LS P q ops f R k rest n (upd fr d (.bool (decide (b ≤ a)))) w0 M σ K) (hx : ev n fr x = .int kk a := by rfl) (hy : ev n fr y = .int kk b := by rfl) :
    LS P q ops f R k (⟨some d, .binOp .geq t x y t', ty, pos, aft, none⟩ :: rest) n fr w0 M σ K :=
  LS.val rfl rfl (fun w _ => exec_bin hx hy (by simp [binOp, Op.intCmp])) h
theorem eqI {kk : IntKind} {a b : Int} (h : LS P q ops f R k rest n (upd fr d (.bool (decide (a = b)))) w0 M σ K) (hx : ev n fr x = .int kk a := by rfl) (hy : ev n fr y = .int kk b := by rfl) :
    LS P q ops f R k (⟨some d, .binOp .eql t x y t', ty, pos, aft, none⟩ :: rest) n fr w0 M σ K :=
  LS.val rfl rfl (fun w _ => exec_bin hx hy (by simp [binOp, Op.intCmp]; rfl)) h
theorem neI {kk : IntKind} {a b : Int} (h : LS P q ops f R k rest n (upd fr d (.bool (!decide (a = b)))) w0 M σ K) (hx : ev n fr x = .int kk a := by rfl) (hy : ev n fr y = .int kk b := by rfl) :
    LS P q ops f R k (⟨some d, .binOp .neq t x y t', ty, pos, aft, none⟩ :: rest) n fr w0 M σ K :=
  LS.val rfl rfl (fun w _ => exec_bin hx hy (by simp [binOp, Op.intCmp]; rfl)) h
theorem exec_binS {w : World} {op : BinOp} {a b : ByteArray} {v : Value} {g : Option (Nat × Bool)} (hx : ev n fr x = .string a) (hy : ev n fr y = .string b) (h : (binOp op t (.string a) (.string b)).run P w = .ok v w) :
    (execOp (ev n fr) ⟨some d, .binOp op t x y t', ty, pos, aft, g⟩).run P w = .ok (.value v) w := by
  simp only [execOp, hx, hy, eqGuard, Sem.run_bind]
  split <;> simp [h]
theorem addS {a b : ByteArray} (h : LS P q ops f R k rest n (upd fr d (.string (a ++ b))) w0 M σ K) (hx : ev n fr x = .string a := by rfl) (hy : ev n fr y = .string b := by rfl) (hs : a.size + b.size ≤ 9223372036854775807 := by omega) :
    LS P q ops f R k (⟨some d, .binOp .add t x y t', ty, pos, aft, none⟩ :: rest) n fr w0 M σ K :=
  LS.val rfl rfl (fun w _ => exec_binS hx hy (by
    simp only [binOp, Op.stringOp]
    have e : IntKind.i64.max = 9223372036854775807 := rfl
    rw [if_neg (by rw [e]; omega)]; rfl)) h
theorem str_beq (a b : ByteArray) : (a.toList == b.toList) = decide (a = b) := by
  rw [Bool.eq_iff_iff]
  simp only [beq_iff_eq, decide_eq_true_eq, ByteArray.toList_eq]
  constructor
  · intro h; cases a; cases b; simp at h; subst h; rfl
  · intro h; rw [h]
theorem eqS {a b : ByteArray} (h : LS P q ops f R k rest n (upd fr d (.bool (decide (a = b)))) w0 M σ K) (hx : ev n fr x = .string a := by rfl) (hy : ev n fr y = .string b := by rfl) :
    LS P q ops f R k (⟨some d, .binOp .eql t x y t', ty, pos, aft, none⟩ :: rest) n fr w0 M σ K :=
  LS.val rfl rfl (fun w _ => exec_binS hx hy (by simp only [binOp, Op.stringOp, str_beq]; rfl)) h
theorem neS {a b : ByteArray} (h : LS P q ops f R k rest n (upd fr d (.bool (!decide (a = b)))) w0 M σ K) (hx : ev n fr x = .string a := by rfl) (hy : ev n fr y = .string b := by rfl) :
    LS P q ops f R k (⟨some d, .binOp .neq t x y t', ty, pos, aft, none⟩ :: rest) n fr w0 M σ K :=
  LS.val rfl rfl (fun w _ => exec_binS hx hy (by simp only [binOp, Op.stringOp, str_beq]; rfl)) h
/-- 'less' of texts. -/
def sLt (a b : ByteArray) : Bool := Op.bytesLess a.toList b.toList
theorem ltS {a b : ByteArray} (h : LS P q ops f R k rest n (upd fr d (.bool (sLt a b))) w0 M σ K) (hx : ev n fr x = .string a := by rfl) (hy : ev n fr y = .string b := by rfl) :
    LS P q ops f R k (⟨some d, .binOp .lss t x y t', ty, pos, aft, none⟩ :: rest) n fr w0 M σ K :=
  LS.val rfl rfl (fun w _ => exec_binS hx hy (by simp only [binOp, Op.stringOp]; rfl)) h
theorem geS {a b : ByteArray} (h : LS P q ops f R k rest n (upd fr d (.bool (!sLt a b))) w0 M σ K) (hx : ev n fr x = .string a := by rfl) (hy : ev n fr y = .string b := by rfl) :
    LS P q ops f R k (⟨some d, .binOp .geq t x y t', ty, pos, aft, none⟩ :: rest) n fr w0 M σ K :=
  LS.val rfl rfl (fun w _ => exec_binS hx hy (by simp only [binOp, Op.stringOp]; rfl)) h
theorem leS {a b : ByteArray} (h : LS P q ops f R k rest n (upd fr d (.bool (sLt a b || decide (a = b)))) w0 M σ K) (hx : ev n fr x = .string a := by rfl) (hy : ev n fr y = .string b := by rfl) :
    LS P q ops f R k (⟨some d, .binOp .leq t x y t', ty, pos, aft, none⟩ :: rest) n fr w0 M σ K :=
  LS.val rfl rfl (fun w _ => exec_binS hx hy (by simp only [binOp, Op.stringOp, str_beq]; rfl)) h
theorem not_ {b : Bool} (h : LS P q ops f R k rest n (upd fr d (.bool (!b))) w0 M σ K) (hx : ev n fr x = .bool b := by rfl) :
    LS P q ops f R k (⟨some d, .unOp .not t x, ty, pos, aft, none⟩ :: rest) n fr w0 M σ K :=
  LS.val rfl rfl (fun w _ => by simp [execOp, hx, Op.unary]) h
theorem pk {c : Bool} {v : Value} (h : LS P q ops f R k rest n (upd fr d v) w0 M σ K) (hx : ev n fr x = .bool c := by rfl) (hv : (bif c then ev n fr y else ev n fr z) = v := by rfl) :
    LS P q ops f R k (⟨some d, .pick x y z, ty, pos, aft, none⟩ :: rest) n fr w0 M σ K :=
  LS.val rfl rfl (fun w _ => by subst hv; cases c <;> simp [execOp, hx, asBool]) h
theorem cvI {kk kd : IntKind} {a : Int} [hs : TInt P t kk] [hd : TInt P t' kd] (h : LS P q ops f R k rest n (upd fr d (.int kd (kd.wrap a))) w0 M σ K) (hx : ev n fr x = .int kk a := by rfl) :
    LS P q ops f R k (⟨some d, .convert t t' x, ty, pos, aft, none⟩ :: rest) n fr w0 M σ K :=
  LS.val rfl rfl (fun w _ => by simp [execOp, hx, convert, run_underlying hs.eq, run_underlying hd.eq, Conv.intToInt]) h
theorem extr {l : List Value} {i : Nat} {v : Value} (h : LS P q ops f R k rest n (upd fr d v) w0 M σ K) (hx : ev n fr x = .tuple l.toArray := by rfl) (hv : nth l i = some v := by rfl) :
    LS P q ops f R k (⟨some d, .extract x i, ty, pos, aft, none⟩ :: rest) n fr w0 M σ K :=
  LS.val rfl rfl (fun w _ => by rw [nth_eq] at hv; simp [execOp, hx, Instr.extract, hv]) h
theorem nilck {a : Addr} (h : LS P q ops f R k rest n (upd fr d (.pointer (some a))) w0 M σ K) (hx : ev n fr x = .pointer (some a) := by rfl) :
    LS P q ops f R k (⟨some d, .nilCheck x, ty, pos, aft, none⟩ :: rest) n fr w0 M σ K :=
  LS.val rfl rfl (fun w _ => by simp [execOp, hx]) h
theorem zero_cells {zs : List Value} (hz : zeroOf P t = some zs) (w : World) : ∃ z, (zeroValue t).run P w = .ok z w ∧ z.cells = zs.toArray := by
  unfold zeroOf at hz
  cases hi : P.info? t with
  | none => simp [hi] at hz
  | some i =>
    cases hzz : i.zero with
    | none => simp [hi, hzz] at hz
    | some z =>
      simp [hi, hzz] at hz
      exact ⟨z, by simp [zeroValue, typeInfo, hi, hzz], by rw [← hz]⟩
theorem alloc_ {zs : List Value} [hz : TZero P t zs] (h : ∀ b, LS P false ops f R k rest n (upd fr d (.pointer (some ⟨b, 0, none⟩))) w0 M σ (blk b (.cells zs.toArray t (0, 0)) :: K)) :
    LS P false ops f R k (⟨some d, .alloc t, ty, pos, aft, none⟩ :: rest) n fr w0 M σ K :=
  LS.valW rfl rfl fun w hw => by
    obtain ⟨z, h1, h2⟩ := zero_cells hz.eq w
    refine ⟨_, _, _, _, ?_, hw.alloc (.cells zs.toArray t (0, 0)), h _⟩
    simp [execOp, Instr.alloc, h1, newVar, newRow, h2]
theorem box_ {v : Value} {cs : List Value} (h : ∀ b, LS P false ops f R k rest n (upd fr d (.pointer (some ⟨b, 0, none⟩))) w0 M σ (blk b (.cells cs.toArray t (0, 0)) :: K)) (hx : ev n fr x = v := by rfl) (hc : cellsL v = cs := by rfl) :
    LS P false ops f R k (⟨some d, .box t x, ty, pos, aft, none⟩ :: rest) n fr w0 M σ K :=
  LS.valW rfl rfl fun w hw => by
    refine ⟨_, _, _, _, ?_, hw.alloc (.cells cs.toArray t (0, 0)), h _⟩
    have : v.cells = cs.toArray := by rw [← hc, ← cells_toList]
    simp [execOp, hx, Instr.box, newVar, newRow, this]
theorem ld1 {b off : Nat} {cs : List Value} {T : TypeId} {v : Value} {put : HP → List HP} {K' : List HP} [ht : TOne P t] (h : LS P q ops f R k rest n (upd fr d v) w0 M σ K) (hx : ev n fr x = .pointer (some ⟨b, off, none⟩) := by rfl)
    (hf : FindB b K (.cells cs.toArray T (0, 0)) put K' := by infer_instance) (hv : nth cs off = some v := by rfl) :
    LS P q ops f R k (⟨some d, .load t x, ty, pos, aft, none⟩ :: rest) n fr w0 M σ K :=
  LS.val rfl rfl (fun w hw => by
    have hb := hw.get (i := hf)
    rw [nth_eq] at hv
    have := run_loadVar1 (P := P) (w := w) (b := b) ht.agg off ((cell_blk hb off).trans hv)
    simp [execOp, hx, Instr.loadAt, Instr.sureAddr, this]) h
theorem ldA (vs : List Value) {b off s : Nat} {cs : List Value} {T : TypeId} {put : HP → List HP} {K' : List HP} [ht : TAgg P t] [hs : TSz P t s] (h : LS P q ops f R k rest n (upd fr d (.agg vs.toArray)) w0 M σ K) (hx : ev n fr x = .pointer (some ⟨b, off, none⟩) := by rfl)
    (hf : FindB b K (.cells cs.toArray T (0, 0)) put K' := by infer_instance) (hv : takeAt cs off s = some vs := by rfl) :
    LS P q ops f R k (⟨some d, .load t x, ty, pos, aft, none⟩ :: rest) n fr w0 M σ K :=
  LS.val rfl rfl (fun w hw => by
    have hb := hw.get (i := hf)
    obtain ⟨hl, hc⟩ := takeAt_spec _ _ _ _ hv
    have := run_loadVarA (P := P) (w := w) (b := b) ht.agg hs.eq off hl (fun j hj => (cell_blk hb (off + j)).trans (hc j hj))
    simp [execOp, hx, Instr.loadAt, Instr.sureAddr, this]) h
/-- A store into a block that is known whole. -/
theorem st (v : Value) (cs' : List Value) {b off s : Nat} {cs : List Value} {T : TypeId} {put : HP → List HP} {K' : List HP} [hs : TSz P t s]
    (h : LS P false ops f R k rest n fr w0 M σ (put (blk b (.cells cs'.toArray T (0, 0))))) (hx : ev n fr x = .pointer (some ⟨b, off, none⟩) := by rfl) (hf : FindB b K (.cells cs.toArray T (0, 0)) put K' := by infer_instance) (hy : ev n fr y = v := by rfl)
    (hl : Nat.beq (cellsL v).length s = true := by rfl) (hr : Nat.ble (off + s) cs.length = true := by rfl) (h1 : (cellsL v).all (·.oneCell') = true := by rfl) (hc : setAt cs off (cellsL v) = cs' := by rfl) :
    LS P false ops f R k (⟨none, .store t x y, ty, pos, aft, none⟩ :: rest) n fr w0 M σ K :=
  LS.skipW rfl rfl fun w hw => by
    have hb := hw.get (i := hf)
    have := run_storeVarL (P := P) hb hs.eq off (Nat.eq_of_beq_eq_true hl) (Nat.le_of_ble_eq_true hr) h1
    rw [hc] at this
    exact ⟨_, _, _, by simp [execOp, hx, hy, Instr.storeAt, Instr.sureAddr, this], hw.put (i := hf) _, h⟩
theorem fld {b off i o s : Nat} [hf : TFld P t i o s] (h : LS P q ops f R k rest n (upd fr d (.pointer (some ⟨b, off + o, none⟩))) w0 M σ K) (hx : ev n fr x = .pointer (some ⟨b, off, none⟩) := by rfl) :
    LS P q ops f R k (⟨some d, .fieldAddr t x i, ty, pos, aft, none⟩ :: rest) n fr w0 M σ K :=
  LS.val rfl rfl (fun w _ => by
    have h1 := hf.eq
    unfold fldOf at h1
    cases hu : P.underlying t with
    | none => simp [hu] at h1
    | some dd =>
      cases dd <;> simp [hu] at h1
      rename_i fs
      cases hi : fs[i]? with
      | none => simp [hi] at h1
      | some fd =>
        simp [hi] at h1
        obtain ⟨hs, ho⟩ := h1
        have hsz := run_sz (P := P) (t := fd.type) w hs
        simp [execOp, hx, Instr.fieldAt, run_underlying hu, hi, Instr.sureAddr, fieldPlace, hsz, ho, add_off]) h
theorem idx {b off len cap i s : Nat} {e : TypeId} [ht : TSlice P t e] [hs : TSz P e s] {kk : IntKind} {j : Int} (h : LS P q ops f R k rest n (upd fr d (.pointer (some ⟨b, off + i * s, none⟩))) w0 M σ K)
    (hx : ev n fr x = .slice (some ⟨b, off, none⟩) len cap := by rfl) (hy : ev n fr y = .int kk j := by rfl) (hj : j = (i : Int) := by rfl) (hi : i < len := by omega) :
    LS P q ops f R k (⟨some d, .indexAddr t x y, ty, pos, aft, none⟩ :: rest) n fr w0 M σ K :=
  LS.val rfl rfl (fun w _ => by
    subst hj
    simp [execOp, hx, hy, Instr.indexAt, asIntOf, run_underlying ht.eq, hi, run_sz w hs.eq, add_off]) h
theorem lenS {s : ByteArray} [ht : TStr P t] (h : LS P q ops f R k rest n (upd fr d (.int .i64 s.size)) w0 M σ K) (hx : ev n fr x = .string s := by rfl) :
    LS P q ops f R k (⟨some d, .call ⟨.builtin .len, #[x], #[t]⟩, ty, pos, aft, none⟩ :: rest) n fr w0 M σ K :=
  LS.val rfl rfl (fun w _ => by simp [execOp, resolve, invoke, builtin, hx, Builtin.len_, run_underlying ht.eq, goInt]) h
theorem lenL {a : Option Addr} {len cap : Nat} {e : TypeId} [ht : TSlice P t e] (h : LS P q ops f R k rest n (upd fr d (.int .i64 len)) w0 M σ K) (hx : ev n fr x = .slice a len cap := by rfl) :
    LS P q ops f R k (⟨some d, .call ⟨.builtin .len, #[x], #[t]⟩, ty, pos, aft, none⟩ :: rest) n fr w0 M σ K :=
  LS.val rfl rfl (fun w _ => by simp [execOp, resolve, invoke, builtin, hx, Builtin.len_, run_underlying ht.eq, goInt]) h
theorem rngS {s : ByteArray} [ht : TStr P t] (h : ∀ b, LS P false ops f R k rest n (upd fr d (.pointer (some ⟨b, 0, none⟩))) w0 M σ (blk b (.stringIter s 0) :: K)) (hx : ev n fr x = .string s := by rfl) :
    LS P false ops f R k (⟨some d, .range t x, ty, pos, aft, none⟩ :: rest) n fr w0 M σ K :=
  LS.valW rfl rfl fun w hw => by
    refine ⟨_, _, _, _, ?_, hw.alloc (.stringIter s 0), h _⟩
    simp [execOp, hx, run_range_string _ _ _ ht.eq]; rfl
theorem nxtS {b pos' : Nat} {s : ByteArray} {put : HP → List HP} {K' : List HP} {it : Operand} (hp : pos' < s.size)
    (h : LS P false ops f R k rest n (upd fr d (.tuple (List.toArray [.bool true, .int .i64 pos', .int .i32 ((Utf8.decode s pos').1 : Int)]))) w0 M σ (put (blk b (.stringIter s (pos' + (Utf8.decode s pos').2)))))
    (hx : ev n fr it = .pointer (some ⟨b, 0, none⟩) := by rfl) (hf : FindB b K (.stringIter s pos') put K' := by infer_instance) :
    LS P false ops f R k (⟨some d, .next it true, ty, pos, aft, none⟩ :: rest) n fr w0 M σ K :=
  LS.valW rfl rfl fun w hw => by
    have hb := hw.get (i := hf)
    refine ⟨_, _, _, _, ?_, hw.put (i := hf) _, h⟩
    simp only [execOp, hx, Instr.next, getObj, setObj, Sem.run_bind, Sem.run, hb, Result.andThen_ok, hp, if_true]
    cases e : Utf8.decode s pos' with
    | mk c wd => simp [goInt]
theorem nxtSEnd {b pos' : Nat} {s : ByteArray} {put : HP → List HP} {K' : List HP} {it : Operand} (hp : ¬ pos' < s.size)
    (h : LS P q ops f R k rest n (upd fr d (.tuple (List.toArray [.bool false]))) w0 M σ K) (hx : ev n fr it = .pointer (some ⟨b, 0, none⟩) := by rfl) (hf : FindB b K (.stringIter s pos') put K' := by infer_instance) :
    LS P q ops f R k (⟨some d, .next it true, ty, pos, aft, none⟩ :: rest) n fr w0 M σ K :=
  LS.val rfl rfl (fun w hw => by
    have hb := hw.get (i := hf)
    simp [execOp, hx, Instr.next, getObj, Sem.run, hb, hp]) h
/-! calls of Go functions -/
def callable (P : Program) (g : FuncId) : Bool :=
  match P.funcs[g]? with
  | some fn => fn.name != "runtime.NumGoroutine" && fn.body.isSome
  | none => false
class Fun (P : Program) (g : FuncId) : Prop where eq : callable P g = true
theorem run_callFunc {g : FuncId} (h : callable P g = true) (args : Array Value) (w : World) : (callFunc g args).run P w = .ok (.enter g args) w := by
  unfold callable at h
  cases hf : P.funcs[g]? with
  | none => simp [hf] at h
  | some fn =>
    simp only [hf, Bool.and_eq_true, bne_iff_ne, ne_eq] at h
    obtain ⟨h1, h2⟩ := h
    cases hb : fn.body with
    | none => simp [hb] at h2
    | some c => simp [callFunc, hf, h1, hb]
theorem exec_call {g : FuncId} {xs : Array Operand} {ts : Array TypeId} {args : List Value} {dd : Option Tmp} {gd : Option (Nat × Bool)} (h : callable P g = true) (hx : xs.toList.map (ev n fr) = args) (w : World) :
    (execOp (ev n fr) ⟨dd, .call ⟨.value (.func g), xs, ts⟩, ty, pos, aft, gd⟩).run P w = .ok (.enter g args.toArray) w := by
  have e : xs.map (ev n fr) = args.toArray := by rw [← hx]; cases xs; simp
  simp [execOp, resolve, ev, Deferred.ofValue, invoke, run_callFunc h, e]
/-- A call that leaves what was there as it was, and answers v. -/
theorem callP {g : FuncId} {xs : Array Operand} {ts : Array TypeId} {args : List Value} {v : Value} [i : Fun P g]
    (h : LS P q ops f R k rest n (upd fr d v) w0 M σ K) (hx : xs.toList.map (ev n fr) = args := by rfl)
    (hc : ∀ w, Sat w0 M σ K w → Calls P g args.toArray w fun e w' => e = .returned v ∧ RowKit.Below w.heap.size w w') :
    LS P q ops f R k (⟨some d, .call ⟨.value (.func g), xs, ts⟩, ty, pos, aft, none⟩ :: rest) n fr w0 M σ K :=
  LS.enterP rfl rfl (fun w _ => exec_call i.eq hx w) (fun w hw => (hc w hw).mono fun _ _ ⟨he, hb⟩ => ⟨he, hw.ext hb⟩) h
/-- A call that answers something new: whatever Q tells of it (of the heap since then) holds of σ with what was made. -/
theorem callN {g : FuncId} {xs : Array Operand} {ts : Array TypeId} {args : List Value} {Q : Value → PH → PH → Prop} [i : Fun P g]
    (h : ∀ v τ σ', Q v τ σ' → PH.le σ σ' → PH.le τ σ' → LS P false ops f R k rest n (upd fr d v) w0 M σ' K) (hx : xs.toList.map (ev n fr) = args := by rfl)
    (hc : ∀ w, Sat w0 M σ K w → Calls P g args.toArray w fun e w' => ∃ v, e = .returned v ∧ RowKit.Below w.heap.size w w' ∧ Q v (since w w') (grow σ w w')) :
    LS P false ops f R k (⟨some d, .call ⟨.value (.func g), xs, ts⟩, ty, pos, aft, none⟩ :: rest) n fr w0 M σ K :=
  LS.enterW rfl rfl (fun w _ => exec_call i.eq hx w) fun w hw => (hc w hw).mono fun _ _ ⟨v, he, hb, hq⟩ => ⟨v, _, K, he, hw.grow hb, h v _ _ hq (grow_le hw) (since_le _ _ _)⟩

end
end Go.JW
