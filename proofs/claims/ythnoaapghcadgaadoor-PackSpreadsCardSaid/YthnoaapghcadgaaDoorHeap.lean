/- The heap as a list of assertions; what a state says; the rules of the code's forms over it. -/
import Derived.Test.YthnoaapghcadgaaDoorCore
import Derived.Deep.Quiet
namespace Go.JW

/-! ### heaps and assertions -/
abbrev PH := Nat → Option Obj
def hp (w : World) : PH := fun b => w.heap[b]?
def PH.le (g g' : PH) : Prop := ∀ b o, g b = some o → g' b = some o
theorem PH.le_refl (g : PH) : PH.le g g := fun _ _ h => h
theorem PH.le_trans {a b c : PH} (h : PH.le a b) (k : PH.le b c) : PH.le a c := fun x o hx => k x o (h x o hx)
/-- A heap, and what of it is not written any more. -/
structure VH where
  imm : PH
  cur : PH
structure HP where
  h : VH → (Nat → Prop) → Prop
  loc : ∀ {g g' : VH} {F : Nat → Prop}, h g F → (∀ b, F b → g'.cur b = g.cur b) → PH.le g.imm g'.imm → h g' F
def blk (b : Nat) (o : Obj) : HP := ⟨fun g F => F b ∧ g.cur b = some o, fun h hg _ => ⟨h.1, by rw [hg _ h.1]; exact h.2⟩⟩
def SepIn (g : VH) : List HP → (Nat → Prop) → Prop
  | [], _ => True
  | A :: K, F => ∃ F1 : Nat → Prop, A.h g F1 ∧ (∀ b, F1 b → F b) ∧ SepIn g K (fun b => F b ∧ ¬ F1 b)
theorem SepIn.mono {g : VH} {K : List HP} : ∀ {F F' : Nat → Prop}, SepIn g K F → (∀ b, F b → F' b) → SepIn g K F' := by
  induction K with
  | nil => intros; trivial
  | cons A K ih =>
    rintro F F' ⟨F1, h1, h2, h3⟩ hF
    exact ⟨F1, h1, fun b hb => hF b (h2 b hb), ih h3 fun b hb => ⟨hF b hb.1, hb.2⟩⟩
theorem SepIn.loc {g g' : VH} {K : List HP} : ∀ {F : Nat → Prop}, SepIn g K F → (∀ b, F b → g'.cur b = g.cur b) → PH.le g.imm g'.imm → SepIn g' K F := by
  induction K with
  | nil => intros; trivial
  | cons A K ih =>
    rintro F ⟨F1, h1, h2, h3⟩ hF hi
    exact ⟨F1, A.loc h1 (fun b hb => hF b (h2 b hb)) hi, h2, ih h3 (fun b hb => hF b hb.1) hi⟩
theorem SepIn.here {σ g g' : PH} {K : List HP} {F : Nat → Prop} (h : SepIn ⟨σ, g⟩ K F) (hg : ∀ b, F b → g' b = g b) : SepIn ⟨σ, g'⟩ K F := h.loc hg (PH.le_refl _)
theorem SepIn.over {σ σ' g g' : PH} {K : List HP} {F : Nat → Prop} (h : SepIn ⟨σ, g⟩ K F) (hg : ∀ b, F b → g' b = g b) (hs : PH.le σ σ') : SepIn ⟨σ', g'⟩ K F := h.loc hg hs
theorem SepIn.swap {g : VH} {A B : HP} {K : List HP} {F : Nat → Prop} (h : SepIn g (A :: B :: K) F) : SepIn g (B :: A :: K) F := by
  obtain ⟨F1, a1, a2, F2, b1, b2, r⟩ := h
  exact ⟨F2, b1, fun b hb => (b2 b hb).1, F1, a1, fun b hb => ⟨a2 b hb, fun h2 => (b2 b h2).2 hb⟩, r.mono fun b hb => ⟨⟨hb.1.1, hb.2⟩, hb.1.2⟩⟩
theorem SepIn.tail {g : VH} {A : HP} {K : List HP} {F : Nat → Prop} (h : SepIn g (A :: K) F) : SepIn g K F := by
  obtain ⟨F1, _, _, r⟩ := h
  exact r.mono fun b hb => hb.1
theorem SepIn.cons_sub {g : VH} {A : HP} {K K' : List HP} (hk : ∀ F, SepIn g K F → SepIn g K' F) {F : Nat → Prop} (h : SepIn g (A :: K) F) : SepIn g (A :: K') F := by
  obtain ⟨F1, h1, h2, r⟩ := h
  exact ⟨F1, h1, h2, hk _ r⟩
/-- Where block b stands among the assertions. -/
class FindB (b : Nat) (K : List HP) (o : outParam Obj) (put : outParam (HP → List HP)) (K' : outParam (List HP)) : Prop where
  get : ∀ {g : VH} {F : Nat → Prop}, SepIn g K F → SepIn g (blk b o :: K') F
  set : ∀ {A : HP} {g : VH} {F : Nat → Prop}, SepIn g (A :: K') F → SepIn g (put A) F
instance FindB.tail {b : Nat} {K : List HP} {o : Obj} {put : HP → List HP} {K' : List HP} {B : HP} [i : FindB b K o put K'] : FindB b (B :: K) o (fun A => B :: put A) (B :: K') where
  get h := SepIn.swap (SepIn.cons_sub (fun _ => i.get) h)
  set h := SepIn.cons_sub (fun _ => i.set) (SepIn.swap h)
instance FindB.head {b : Nat} {K : List HP} {o : Obj} : FindB b (blk b o :: K) o (fun A => A :: K) K where
  get h := h
  set h := h

/-- What holds of the world: streams as in w0; w0's blocks but M's as they were (they lie in σ); σ holds; the assertions K hold beside σ. -/
structure Sat (w0 : World) (M : Nat → Prop) (σ : PH) (K : List HP) (w : World) : Prop where
  os : w.os = w0.os
  tape : w.tape = w0.tape
  output : w.output = w0.output
  size : w0.heap.size ≤ w.heap.size
  keep : ∀ b, b < w0.heap.size → ¬ M b → σ b = w0.heap[b]?
  imm : PH.le σ (hp w)
  sep : SepIn ⟨σ, hp w⟩ K (fun b => b < w.heap.size ∧ σ b = none)
theorem hp_lt {w : World} {b : Nat} {o : Obj} (h : hp w b = some o) : b < w.heap.size := (Array.getElem?_eq_some_iff.1 h).1
theorem hp_none {w : World} {b : Nat} (h : w.heap.size ≤ b) : hp w b = none := by simp [hp, h]
section
variable {w0 w w1 : World} {M : Nat → Prop} {σ : PH} {K K' : List HP}
theorem Sat.start (w : World) : Sat w (fun _ => False) (hp w) [] w := ⟨rfl, rfl, rfl, Nat.le_refl _, fun _ _ _ => rfl, PH.le_refl _, trivial⟩
theorem Sat.below (h : Sat w0 (fun _ => False) σ K w) : RowKit.Below w0.heap.size w0 w :=
  ⟨h.os, h.tape, h.output, h.size, fun k hk => by
    have e := h.keep k hk (fun h => h)
    have hs : w0.heap[k]? = some w0.heap[k] := Array.getElem?_eq_getElem hk
    rw [hs]
    exact h.imm k _ (e.trans hs)⟩
theorem Sat.weak (h : Sat w0 M σ K w) (hk : ∀ F, SepIn ⟨σ, hp w⟩ K F → SepIn ⟨σ, hp w⟩ K' F) : Sat w0 M σ K' w :=
  ⟨h.os, h.tape, h.output, h.size, h.keep, h.imm, hk _ h.sep⟩
theorem Sat.fresh (h : Sat w0 M σ K w) {b : Nat} (hb : w.heap.size ≤ b) : σ b = none := by
  cases e : σ b with
  | none => rfl
  | some o => have := hp_lt (h.imm b o e); omega
theorem heap_alloc_at (w : World) (o : Obj) (b : Nat) : hp (w.alloc o) b = if b = w.heap.size then some o else hp w b := by
  show (w.heap.push o)[b]? = _
  rw [Array.getElem?_push]; rfl
theorem Sat.alloc (h : Sat w0 M σ K w) (o : Obj) : Sat w0 M σ (blk w.heap.size o :: K) (w.alloc o) := by
  have hsz : (w.alloc o).heap.size = w.heap.size + 1 := by show (w.heap.push o).size = _; simp
  refine ⟨h.os, h.tape, h.output, by have := h.size; omega, h.keep, fun b x hb => ?_, fun b => b = w.heap.size, ⟨rfl, ?_⟩, ?_, ?_⟩
  · have := hp_lt (h.imm b x hb)
    rw [heap_alloc_at, if_neg (by omega)]; exact h.imm b x hb
  · show hp (w.alloc o) w.heap.size = _; rw [heap_alloc_at, if_pos rfl]
  · rintro b rfl
    exact ⟨by omega, h.fresh (Nat.le_refl _)⟩
  · refine (h.sep.here fun b hb => ?_).mono fun b hb => ⟨⟨by omega, hb.2⟩, by omega⟩
    rw [heap_alloc_at, if_neg (by omega)]
/-- Behind a call that left all that was there as it was. -/
theorem Sat.ext (h : Sat w0 M σ K w) (hb : RowKit.Below w.heap.size w w1) : Sat w0 M σ K w1 := by
  refine ⟨hb.os.trans h.os, hb.tape.trans h.tape, hb.output.trans h.output, Nat.le_trans h.size hb.size, h.keep, fun b x hx => ?_, ?_⟩
  · have := h.imm b x hx
    show w1.heap[b]? = _
    rw [hb.block b (hp_lt this)]; exact this
  · refine (h.sep.here fun b hb' => ?_).mono fun b hb' => ⟨Nat.lt_of_lt_of_le hb'.1 hb.size, hb'.2⟩
    exact hb.block b hb'.1
/-- What was made since w, by itself. -/
def since (w w1 : World) : PH := fun b => if w.heap.size ≤ b then w1.heap[b]? else none
/-- σ, and what was made since w. -/
def grow (σ : PH) (w w1 : World) : PH := fun b => if w.heap.size ≤ b then w1.heap[b]? else σ b
theorem grow_le (h : Sat w0 M σ K w) : PH.le σ (grow σ w w1) := by
  intro b o hb
  have := hp_lt (h.imm b o hb)
  simp only [grow]; rw [if_neg (by omega)]; exact hb
theorem since_le (σ : PH) (w w1 : World) : PH.le (since w w1) (grow σ w w1) := by
  intro b o hb
  simp only [since, grow] at *
  split at hb
  · rename_i h; rw [if_pos h]; exact hb
  · simp at hb
theorem Sat.grow (h : Sat w0 M σ K w) (hb : RowKit.Below w.heap.size w w1) : Sat w0 M (grow σ w w1) K w1 := by
  have e := h.ext hb
  refine ⟨e.os, e.tape, e.output, e.size, fun b hb' hM => ?_, fun b x hx => ?_, ?_⟩
  · have := h.size
    simp only [JW.grow]; rw [if_neg (by omega)]; exact h.keep b hb' hM
  · simp only [JW.grow] at hx
    split at hx
    · exact hx
    · exact e.imm b x hx
  · refine (h.sep.over (fun b hb' => hb.block b hb'.1) (grow_le h)).mono fun b hb' => ⟨Nat.lt_of_lt_of_le hb'.1 hb.size, ?_⟩
    simp only [JW.grow]; rw [if_neg (by omega)]; exact hb'.2
theorem Sat.get (h : Sat w0 M σ K w) {b : Nat} {o : Obj} {put : HP → List HP} [i : FindB b K o put K'] : w.heap[b]? = some o := by
  obtain ⟨F1, h1, h2, _⟩ := i.get h.sep
  exact h1.2
theorem hp_set (w : World) (b : Nat) (o : Obj) (hb : b < w.heap.size) : hp { w with heap := w.heap.setIfInBounds b o } = fun x => if x = b then some o else hp w x := by
  funext x
  simp only [hp, Array.getElem?_setIfInBounds]
  by_cases h : b = x
  · subst h; simp [hb]
  · simp [h, Ne.symm h]
theorem Sat.put (h : Sat w0 M σ K w) {b : Nat} {o : Obj} {put : HP → List HP} [i : FindB b K o put K'] (o' : Obj) :
    Sat w0 M σ (put (blk b o')) { w with heap := w.heap.setIfInBounds b o' } := by
  obtain ⟨F1, h1, h2, h3⟩ := i.get h.sep
  have hb : b < w.heap.size := (h2 b h1.1).1
  have hs : ({ w with heap := w.heap.setIfInBounds b o' } : World).heap.size = w.heap.size := by simp
  refine ⟨h.os, h.tape, h.output, by rw [hs]; exact h.size, h.keep, fun x y hx => ?_, i.set ⟨F1, ⟨h1.1, ?_⟩, ?_, ?_⟩⟩
  · rw [hp_set w b o' hb]
    have hne : x ≠ b := fun e => by subst e; have := (h2 x h1.1).2; rw [this] at hx; exact absurd hx (by simp)
    simp only [if_neg hne]; exact h.imm x y hx
  · rw [hp_set w b o' hb]; simp
  · rw [hs]; exact h2
  · rw [hs]
    refine h3.here fun x hx => ?_
    have hne : x ≠ b := fun e => hx.2 (e ▸ h1.1)
    rw [hp_set w b o' hb]; simp [hne]
theorem Sat.drew (h : Sat w0 M σ K w) : Sat w0 M σ K w.drew := ⟨h.os, h.tape, h.output, h.size, h.keep, h.imm, h.sep⟩
end

/-! ### code over states -/
structure RS (P : Program) (f : FuncId) (R : Ending → World → Prop) (k : List Item) (n : Nat) (fr : Nat → Value) (w0 : World) (M : Nat → Prop) (σ : PH) (K : List HP) : Prop where
  out : ∀ w, Sat w0 M σ K w → Run P f R k (act n fr) w
/-- A region's operations: one behind the other; or (q) a region that draws its order, all of whose operations leave the state as it is. -/
structure LS (P : Program) (q : Bool) (ops : Array Oper) (f : FuncId) (R : Ending → World → Prop) (k : List Item) (l : List Oper) (n : Nat) (fr : Nat → Value) (w0 : World) (M : Nat → Prop) (σ : PH) (K : List HP) : Prop where
  out : match q with
    | false => ∀ w, Sat w0 M σ K w → wpList P ops (QN (Run P f R k)) l (act n fr) w
    | true => wpQuiet P ops (Sat w0 M σ K) (fun a' => ∀ w', Sat w0 M σ K w' → Run P f R k a' w') l (act n fr)
section
variable {P : Program} {q : Bool} {ops : Array Oper} {f : FuncId} {R : Ending → World → Prop} {k : List Item} {n : Nat} {fr : Nat → Value} {w0 : World} {M : Nat → Prop} {σ : PH} {K : List HP}
theorem RS.enter {fn : Func} {c : Code} {l : List Value} {w : World} (hf : P.funcs[f]? = some fn) (hn : fn.ntmps = n) (hb : fn.body = some c) (hs : Nat.ble l.length n = true)
    (h : RS P f R [.code c] n (frameOf l) w (fun _ => False) (hp w) []) : Calls P f l.toArray w R := by
  refine Run.calls hf hb ?_
  rw [hn, act_enter _ _ (by simpa using hs)]
  exact h.out w (Sat.start w)
theorem RS.enterM {fn : Func} {c : Code} {l : List Value} {w : World} (hf : P.funcs[f]? = some fn) (hn : fn.ntmps = n) (hb : fn.body = some c) (hs : Nat.ble l.length n = true)
    (h0 : Sat w M σ K w) (h : RS P f R [.code c] n (frameOf l) w M σ K) : Calls P f l.toArray w R := by
  refine Run.calls hf hb ?_
  rw [hn, act_enter _ _ (by simpa using hs)]
  exact h.out w h0
theorem RS.seq {x y : Code} (h : RS P f R (.code x :: .code y :: k) n fr w0 M σ K) : RS P f R (.code (.seq x y) :: k) n fr w0 M σ K := ⟨fun w hw => Run.seq (h.out w hw)⟩
theorem RS.skip (h : RS P f R k n fr w0 M σ K) : RS P f R (.code .skip :: k) n fr w0 M σ K := ⟨fun w hw => Run.skip (h.out w hw)⟩
theorem RS.label {l : Nat} (h : RS P f R k n fr w0 M σ K) : RS P f R (.code (.label l) :: k) n fr w0 M σ K := ⟨fun w hw => Run.label (h.out w hw)⟩
theorem RS.block {id : Nat} {c : Code} (h : RS P f R (.code c :: .inBlock id :: k) n fr w0 M σ K) : RS P f R (.code (.block id c) :: k) n fr w0 M σ K := ⟨fun w hw => Run.block (h.out w hw)⟩
theorem RS.inBlock {id : Nat} (h : RS P f R k n fr w0 M σ K) : RS P f R (.inBlock id :: k) n fr w0 M σ K := ⟨fun w hw => Run.inBlock (h.out w hw)⟩
theorem RS.exit {id : Nat} {k' : List Item} (h : RS P f R k' n fr w0 M σ K) (he : exitTo id k = some k' := by rfl) : RS P f R (.code (.exit id) :: k) n fr w0 M σ K := ⟨fun w hw => Run.exit he (h.out w hw)⟩
theorem RS.goto {l : Nat} {k' : List Item} (h : RS P f R k' n fr w0 M σ K) (he : gotoIn l k = some k' := by rfl) : RS P f R (.code (.goto l) :: k) n fr w0 M σ K := ⟨fun w hw => Run.goto he (h.out w hw)⟩
theorem RS.cond {c : Operand} {x y : Code} {t : Bool} (ht : t = true → RS P f R (.code x :: k) n fr w0 M σ K) (hf : t = false → RS P f R (.code y :: k) n fr w0 M σ K) (hc : ev n fr c = .bool t := by rfl) :
    RS P f R (.code (.cond c x y) :: k) n fr w0 M σ K :=
  ⟨fun w hw => Run.cond (t := t) (by rw [act_eval]; exact hc) (fun h => (ht h).out w hw) (fun h => (hf h).out w hw)⟩
theorem RS.condT {c : Operand} {x y : Code} {t : Bool} (hx : RS P f R (.code x :: k) n fr w0 M σ K) (hc : ev n fr c = .bool t := by rfl) (h : t = true := by rfl) :
    RS P f R (.code (.cond c x y) :: k) n fr w0 M σ K := RS.cond (fun _ => hx) (fun h' => by rw [h] at h'; cases h') hc
theorem RS.condF {c : Operand} {x y : Code} {t : Bool} (hx : RS P f R (.code y :: k) n fr w0 M σ K) (hc : ev n fr c = .bool t := by rfl) (h : t = false := by rfl) :
    RS P f R (.code (.cond c x y) :: k) n fr w0 M σ K := RS.cond (fun h' => by rw [h] at h'; cases h') (fun _ => hx) hc
/-- A loop: the state at its head by X (whatever it is told by), a frame and assertions of it; ih: behind a round. -/
theorem RS.loop {X : Type} (I : X → Prop) (fx : X → Nat → Value) (σx : X → PH) (Kx : X → List HP) (μ : X → Nat) {c : Code} (x0 : X) (h0 : I x0) (hfr : fr = fx x0) (hσ : σ = σx x0) (hK : K = Kx x0)
    (round : ∀ x, I x → (∀ y, I y → μ y < μ x → RS P f R (.inLoop c :: k) n (fx y) w0 M (σx y) (Kx y)) → RS P f R (.code c :: .inLoop c :: k) n (fx x) w0 M (σx x) (Kx x)) :
    RS P f R (.code (.loop c) :: k) n fr w0 M σ K := by
  subst hfr hσ hK
  have key : ∀ m x, μ x = m → I x → RS P f R (.code c :: .inLoop c :: k) n (fx x) w0 M (σx x) (Kx x) := by
    intro m
    induction m using Nat.strongRecOn with
    | _ m ih =>
      intro x hm hI
      exact round x hI fun y hy hlt => ⟨fun w hw => Run.step (fun _ => step_inLoop) ((ih _ (hm ▸ hlt) y rfl hy).out w hw)⟩
  exact ⟨fun w hw => Run.step (fun _ => step_loop) ((key _ x0 rfl h0).out w hw)⟩
theorem RS.region {id : Nat} {l : List Oper} (h : LS P false l.toArray f R k l n fr w0 M σ K) : RS P f R (.code (.region id l.toArray false) :: k) n fr w0 M σ K :=
  ⟨fun w hw => Run.wp (wp_region_lit (h.out w hw))⟩
/-- A region that draws, of operations that leave the state as it is. -/
theorem RS.regionQ {id : Nat} {l : List Oper} (h : LS P true l.toArray f R k l n fr w0 M σ K) (hm : P.follows .mixedOrders = true) (hB : Region.lexB .any l.toArray = true) : RS P f R (.code (.region id l.toArray true) :: k) n fr w0 M σ K := by
  refine ⟨fun w hw => Run.wp (wp_region_quiet (C := Sat w0 M σ K) hm hB hw.drew ?_)⟩
  exact h.out
theorem LS.done (h : RS P f R k n fr w0 M σ K) : LS P q ops f R k [] n fr w0 M σ K := by
  cases q
  · exact ⟨fun w hw => wpList_nil (Q := QN (Run P f R k)) (h.out w hw)⟩
  · exact ⟨h.out⟩
/-- An operation that yields a value, the world as it is. -/
theorem LS.val {o : Oper} {rest : List Oper} {d : Nat} {v : Value} (hg : o.guard = none) (hd : o.dst = some d)
    (ho : ∀ w, Sat w0 M σ K w → (execOp (ev n fr) o).run P w = .ok (.value v) w) (h : LS P q ops f R k rest n (upd fr d v) w0 M σ K) : LS P q ops f R k (o :: rest) n fr w0 M σ K := by
  cases q
  · refine ⟨fun w hw => ?_⟩
    refine wpList_plain hg fun K' hK' => ?_
    unfold Oper.wp
    rw [act_eval, ho w hw, Oper.upon_value, hd, act_put]
    exact hK' _ _ (h.out w hw)
  · refine ⟨wpQuiet_step fun K' hK' => ?_⟩
    simp only [Region.wanted, hg, if_true]
    refine ⟨v, fun w hw => ?_, hK' _ ?_⟩
    · unfold Oper.quietAt; rw [act_eval, ho w hw]; exact ⟨rfl, rfl⟩
    · rw [hd, act_put]; exact h.out
/-- An operation that yields a value, in another world. -/
theorem LS.valW {o : Oper} {rest : List Oper} {d : Nat} (hg : o.guard = none) (hd : o.dst = some d)
    (ho : ∀ w, Sat w0 M σ K w → ∃ v w' σ' K', (execOp (ev n fr) o).run P w = .ok (.value v) w' ∧ Sat w0 M σ' K' w' ∧ LS P false ops f R k rest n (upd fr d v) w0 M σ' K') : LS P false ops f R k (o :: rest) n fr w0 M σ K := by
  refine ⟨fun w hw => ?_⟩
  obtain ⟨v, w', σ', K', h1, h2, h3⟩ := ho w hw
  refine wpList_plain hg fun K' hK' => ?_
  unfold Oper.wp
  rw [act_eval, h1, Oper.upon_value, hd, act_put]
  exact hK' _ _ (h3.out w' h2)
theorem LS.skipW {o : Oper} {rest : List Oper} (hg : o.guard = none) (hd : o.dst = none)
    (ho : ∀ w, Sat w0 M σ K w → ∃ w' σ' K', (execOp (ev n fr) o).run P w = .ok .skip w' ∧ Sat w0 M σ' K' w' ∧ LS P false ops f R k rest n fr w0 M σ' K') : LS P false ops f R k (o :: rest) n fr w0 M σ K := by
  refine ⟨fun w hw => ?_⟩
  obtain ⟨w', σ', K', h1, h2, h3⟩ := ho w hw
  refine wpList_plain hg fun K' hK' => ?_
  unfold Oper.wp
  rw [act_eval, h1, Oper.upon_skip, hd, act_put_none]
  exact hK' _ _ (h3.out w' h2)
/-- A call of a Go function. -/
theorem LS.enterW {o : Oper} {rest : List Oper} {d : Nat} {g : FuncId} {args : Array Value} (hg : o.guard = none) (hd : o.dst = some d)
    (ho : ∀ w, Sat w0 M σ K w → (execOp (ev n fr) o).run P w = .ok (.enter g args) w)
    (hc : ∀ w, Sat w0 M σ K w → Calls P g args w fun e w' => ∃ v σ' K', e = .returned v ∧ Sat w0 M σ' K' w' ∧ LS P false ops f R k rest n (upd fr d v) w0 M σ' K') : LS P false ops f R k (o :: rest) n fr w0 M σ K := by
  refine ⟨fun w hw => ?_⟩
  refine wpList_plain hg fun K' hK' => ?_
  unfold Oper.wp
  rw [act_eval, ho w hw, Oper.upon_enter]
  refine (hc w hw).mono ?_
  rintro e w' ⟨v, σ', K', rfl, h2, h3⟩
  simp only [hd, act_put]
  exact hK' _ _ (h3.out w' h2)
/-- A call that keeps the state and answers v. -/
theorem LS.enterP {o : Oper} {rest : List Oper} {d : Nat} {g : FuncId} {args : Array Value} {v : Value} (hg : o.guard = none) (hd : o.dst = some d)
    (ho : ∀ w, Sat w0 M σ K w → (execOp (ev n fr) o).run P w = .ok (.enter g args) w)
    (hc : ∀ w, Sat w0 M σ K w → Calls P g args w fun e w' => e = .returned v ∧ Sat w0 M σ K w') (h : LS P q ops f R k rest n (upd fr d v) w0 M σ K) : LS P q ops f R k (o :: rest) n fr w0 M σ K := by
  cases q
  · exact LS.enterW hg hd ho fun w hw => (hc w hw).mono fun _ _ ⟨he, hs⟩ => ⟨v, σ, K, he, hs, h⟩
  · refine ⟨wpQuiet_step fun K' hK' => ?_⟩
    simp only [Region.wanted, hg, if_true]
    refine ⟨v, fun w hw => ?_, hK' _ ?_⟩
    · unfold Oper.quietAt; rw [act_eval, ho w hw]; exact ⟨rfl, hc w hw⟩
    · rw [hd, act_put]; exact h.out
theorem LS.enterN {o : Oper} {rest : List Oper} {g : FuncId} {args : Array Value} (hg : o.guard = none) (hd : o.dst = none)
    (ho : ∀ w, Sat w0 M σ K w → (execOp (ev n fr) o).run P w = .ok (.enter g args) w)
    (hc : ∀ w, Sat w0 M σ K w → Calls P g args w fun e w' => ∃ v σ' K', e = .returned v ∧ Sat w0 M σ' K' w' ∧ LS P false ops f R k rest n fr w0 M σ' K') : LS P false ops f R k (o :: rest) n fr w0 M σ K := by
  refine ⟨fun w hw => ?_⟩
  refine wpList_plain hg fun K' hK' => ?_
  unfold Oper.wp
  rw [act_eval, ho w hw, Oper.upon_enter]
  refine (hc w hw).mono ?_
  rintro e w' ⟨v, σ', K', rfl, h2, h3⟩
  simp only [hd, act_put_none]
  exact hK' _ _ (h3.out w' h2)
/-- Guards. -/
theorem yielded_at {j g : Nat} {b : Bool} (hj : (ops[j]?).bind (·.dst) = some g) (hv : ev n fr (.tmp g) = .bool b) : yielded ops (act n fr).tmps j = some b := by
  have h1 : (act n fr).tmps.getD g undef = .bool b := by
    have := act_eval n fr
    have h2 := congrFun this (.tmp g)
    simp only [Act.eval] at h2
    rw [h2, hv]
  unfold yielded
  rw [hj]
  simp only [Option.bind_some]
  cases e : (act n fr).tmps[g]? with
  | none => rw [Array.getD_eq_getD_getElem?, e] at h1; simp [undef] at h1
  | some x => rw [Array.getD_eq_getD_getElem?, e] at h1; simp at h1; rw [h1]
theorem LS.on {rest : List Oper} {d : Option Tmp} {op : Op} {ty : TypeId} {pos : String} {aft : Array Edge} {j g : Nat} {b : Bool}
    (h : LS P q ops f R k (⟨d, op, ty, pos, aft, none⟩ :: rest) n fr w0 M σ K) (hj : (ops[j]?).bind (·.dst) = some g := by rfl) (hv : ev n fr (.tmp g) = .bool b := by rfl) :
    LS P q ops f R k (⟨d, op, ty, pos, aft, some (j, b)⟩ :: rest) n fr w0 M σ K := by
  have hy := yielded_at (ops := ops) hj hv
  cases q
  · refine ⟨fun w hw => ?_⟩
    have := h.out w hw
    unfold wpList at this ⊢
    simp only [Region.wanted, hy, if_true, beq_self_eq_true] at this ⊢
    exact this
  · have := h.out
    refine ⟨?_⟩
    unfold wpQuiet at this ⊢
    simp only [Region.wanted, hy, if_true, beq_self_eq_true] at this ⊢
    exact this
theorem LS.off {rest : List Oper} {d : Nat} {op : Op} {ty : TypeId} {pos : String} {aft : Array Edge} {j g : Nat} {b : Bool}
    (h : LS P q ops f R k rest n (upd fr d undef) w0 M σ K) (hj : (ops[j]?).bind (·.dst) = some g := by rfl) (hv : ev n fr (.tmp g) = .bool (!b) := by rfl) :
    LS P q ops f R k (⟨some d, op, ty, pos, aft, some (j, b)⟩ :: rest) n fr w0 M σ K := by
  have hy := yielded_at (ops := ops) hj hv
  cases q
  · refine ⟨fun w hw => ?_⟩
    have := h.out w hw
    unfold wpList
    simp only [Region.wanted, hy]
    rw [if_neg (by cases b <;> simp)]
    simp only [act_put]
    exact this
  · refine ⟨?_⟩
    unfold wpQuiet
    simp only [Region.wanted, hy]
    rw [if_neg (by cases b <;> simp)]
    simp only [act_put]
    exact h.out
theorem LS.offN {rest : List Oper} {op : Op} {ty : TypeId} {pos : String} {aft : Array Edge} {j g : Nat} {b : Bool}
    (h : LS P false ops f R k rest n fr w0 M σ K) (hj : (ops[j]?).bind (·.dst) = some g := by rfl) (hv : ev n fr (.tmp g) = .bool (!b) := by rfl) :
    LS P false ops f R k (⟨none, op, ty, pos, aft, some (j, b)⟩ :: rest) n fr w0 M σ K := by
  refine ⟨fun w hw => ?_⟩
  have := h.out w hw
  have hy := yielded_at (ops := ops) hj hv
  unfold wpList
  simp only [Region.wanted, hy]
  rw [if_neg (by cases b <;> simp)]
  exact this
theorem yielded_undef {j g : Nat} (hj : (ops[j]?).bind (·.dst) = some g) (hv : ev n fr (.tmp g) = undef) : yielded ops (act n fr).tmps j = none := by
  have h1 : (act n fr).tmps.getD g undef = undef := by
    have h2 := congrFun (act_eval n fr) (.tmp g)
    simp only [Act.eval] at h2
    rw [h2, hv]
  unfold yielded
  rw [hj]
  simp only [Option.bind_some]
  cases e : (act n fr).tmps[g]? with
  | none => rfl
  | some x => rw [Array.getD_eq_getD_getElem?, e] at h1; simp at h1; rw [h1]; rfl
theorem LS.offU {rest : List Oper} {d : Nat} {op : Op} {ty : TypeId} {pos : String} {aft : Array Edge} {j g : Nat} {b : Bool}
    (h : LS P q ops f R k rest n (upd fr d undef) w0 M σ K) (hj : (ops[j]?).bind (·.dst) = some g := by rfl) (hv : ev n fr (.tmp g) = undef := by rfl) :
    LS P q ops f R k (⟨some d, op, ty, pos, aft, some (j, b)⟩ :: rest) n fr w0 M σ K := by
  have hy := yielded_undef (ops := ops) hj hv
  cases q
  · refine ⟨fun w hw => ?_⟩
    have := h.out w hw
    unfold wpList
    simp only [Region.wanted, hy]
    rw [if_neg (by simp)]
    simp only [act_put]
    exact this
  · refine ⟨?_⟩
    unfold wpQuiet
    simp only [Region.wanted, hy]
    rw [if_neg (by simp)]
    simp only [act_put]
    exact h.out
theorem upd_same {g : Nat} {b : Value} (hv : fr g = b) : upd fr g b = fr := by
  funext x
  simp only [upd]
  by_cases h : Nat.beq x g = true
  · simp only [h, cond_true]; rw [Nat.eq_of_beq_eq_true h, hv]
  · simp [h]
theorem ev_tmp {g : Nat} {v : Value} (hn : Nat.blt g n = true) (h : ev n fr (.tmp g) = v) : fr g = v := by simpa [ev, hn] using h
/-- Part on a slot that is a bool. -/
theorem LS.part {l : List Oper} (g : Nat) {p : Bool} (ht : p = true → LS P q ops f R k l n (upd fr g (.bool true)) w0 M σ K) (hf : p = false → LS P q ops f R k l n (upd fr g (.bool false)) w0 M σ K)
    (hv : fr g = .bool p := by rfl) : LS P q ops f R k l n fr w0 M σ K := by
  cases p
  · have := hf rfl; rwa [upd_same hv] at this
  · have := ht rfl; rwa [upd_same hv] at this
theorem RS.part {l : List Item} (g : Nat) {p : Bool} (ht : p = true → RS P f R l n (upd fr g (.bool true)) w0 M σ K) (hf : p = false → RS P f R l n (upd fr g (.bool false)) w0 M σ K)
    (hv : fr g = .bool p := by rfl) : RS P f R l n fr w0 M σ K := by
  cases p
  · have := hf rfl; rwa [upd_same hv] at this
  · have := ht rfl; rwa [upd_same hv] at this
/-- A slot's value told otherwise. -/
theorem LS.as {l : List Oper} (g : Nat) (v : Value) (hv : fr g = v) (h : LS P q ops f R k l n (upd fr g v) w0 M σ K) : LS P q ops f R k l n fr w0 M σ K := by rwa [upd_same hv] at h
theorem RS.as {l : List Item} (g : Nat) (v : Value) (hv : fr g = v) (h : RS P f R l n (upd fr g v) w0 M σ K) : RS P f R l n fr w0 M σ K := by rwa [upd_same hv] at h
theorem RS.ret1 {fn : Func} {t : Nat} {v : Value} (hf : P.funcs[f]? = some fn) (h : ∀ w, Sat w0 M σ K w → R (.returned v) w) (hr : fn.results = #[.tmp t] := by rfl) (hv : ev n fr (.tmp t) = v := by rfl) :
    RS P f R (.code .ret :: k) n fr w0 M σ K := by
  refine ⟨fun w hw => ?_⟩
  refine Run.ret hf (results_tmp hr _ _ _) rfl ?_
  have : (act n fr).tmps.getD t undef = v := by have := congrFun (act_eval n fr) (.tmp t); simp only [Act.eval] at this; rw [this, hv]
  rw [this]; exact h w hw
theorem RS.ret2 {fn : Func} {t u : Nat} {v v' : Value} (hf : P.funcs[f]? = some fn) (h : ∀ w, Sat w0 M σ K w → R (.returned (.tuple #[v, v'])) w) (hr : fn.results = #[.tmp t, .tmp u] := by rfl) (hv : ev n fr (.tmp t) = v := by rfl) (hv' : ev n fr (.tmp u) = v' := by rfl) :
    RS P f R (.code .ret :: k) n fr w0 M σ K := by
  refine ⟨fun w hw => ?_⟩
  refine Run.ret hf (results_tmp2 hr _ _ _) rfl ?_
  have e : ∀ s x, ev n fr (.tmp s) = x → (act n fr).tmps.getD s undef = x := fun s x hx => by have := congrFun (act_eval n fr) (.tmp s); simp only [Act.eval] at this; rw [this, hx]
  rw [e t v hv, e u v' hv']; exact h w hw
theorem RS.ret0 {fn : Func} (hf : P.funcs[f]? = some fn) (h : ∀ w, Sat w0 M σ K w → R (.returned (.tuple #[])) w) (hr : fn.results = #[] := by rfl) :
    RS P f R (.code .ret :: k) n fr w0 M σ K := ⟨fun w hw => Run.ret hf (results_none hr _ _ _) rfl (h w hw)⟩
theorem RS.fin0 {fn : Func} (hf : P.funcs[f]? = some fn) (h : ∀ w, Sat w0 M σ K w → R (.returned (.tuple #[])) w) (hr : fn.results = #[] := by rfl) :
    RS P f R [] n fr w0 M σ K := ⟨fun w hw => Run.fin hf (results_none hr _ _ _) rfl (h w hw)⟩
end
end Go.JW
