/- The base of the walks: rules, contracts, plain laws, part 1. -/
import Derived.WalkKit
import Derived.Deep.Quiet
import Derived.Deep.AppendSrc
import Derived.Laws.Slices
import Derived.Laws.BytesString
import Derived.Test.YtealabaiamaojaaGreatDoorProg
import Derived.KernelRfl
import Derived.Lib.SplitLaws
import Derived.Lib.ItoaNum
import Derived.Lib.Join
import Derived.Lib.Fields
import Derived.Laws.StructEq
import Derived.Laws.MakeOwn
import Derived.Shelf.Strings.Builder1
import Derived.Shelf.Strings.Builder2
import Derived.Shelf.Strings.OnBuilder
import Derived.Shelf.Small.Bits
import Derived.Shelf.Small.Wraps
import Derived.Shelf.Strings.BuilderF
import Derived.Shelf.Strings.BuilderK
import Derived.Shelf.Strings.Builder2Cap
import Derived.Shelf.Strconv.Itoa0
import Derived.Shelf.Strconv.Itoa1
import Derived.Shelf.LaysM
import Derived.Shelf.Strconv.Itoa2
import Derived.Shelf.Strconv.Itoa3
import Derived.Shelf.Strings.Search1
import Derived.Shelf.Strings.Search2
import Derived.Shelf.Strings.Search3
import Derived.Shelf.Strings.Count
import Derived.Shelf.Strings.Shaped
import Derived.Shelf.Sort.Plain
import Derived.Shelf.Strings.Prefix
import Derived.Shelf.Strings.Split
import Derived.Shelf.Strings.Fields
import Derived.Shelf.Strings.SplitShaped
import Derived.Shelf.Unicode.Latin
import Derived.Shelf.Unicode.DecodeSlow
import Derived.Shelf.Unicode.Is16White
import Derived.Shelf.Unicode.IsSpaceAny
import Derived.Shelf.Unicode.Is16Any
import Derived.Shelf.Unicode.Is32Any
import Derived.Shelf.Unicode.ExclAny
import Derived.Shelf.Strings.BuilderCap
import Derived.Shelf.Slices.Turned
import Derived.Ground.Names2Prog
import Derived.Shelf.Slices.Clone
import Derived.Shelf.Slices.CompactS
import Derived.Shelf.Slices.Cells
import Derived.Shelf.Slices.In.SortNone
import Derived.Laws.IdiomRangeMap
import Derived.Lib.LaidTab
import Derived.Laws.Cover3
import Derived.ChangeKeysEq
import Derived.Laws.Small
import Derived.Lib.MapLaws
import Derived.Laws.Cover4
import Derived.Laws.IdiomStrings
import Derived.Test.YtealabaiamaojaaGreatDoorRows
import Derived.LaidSub
import Derived.Shelf.Vars
import Derived.Deep.DeepHandedRow
import Derived.Lay
import Derived.ChangeArms
import Derived.SizedLaws
namespace Go.JW

def act (n : Nat) (fr : Nat → Value) : Act := ⟨Array.ofFn (n := n) fun i => fr i.val, []⟩
def upd (fr : Nat → Value) (d : Nat) (v : Value) : Nat → Value := fun k => bif Nat.beq k d then v else fr k
def ev (n : Nat) (fr : Nat → Value) : Operand → Value
  | .tmp t => bif Nat.blt t n then fr t else undef
  | .const v => v
  | .global g => .pointer (some ⟨g, 0, none⟩)
  | .func f => .func (.func f) #[] #[]
theorem act_eval (n : Nat) (fr : Nat → Value) : (act n fr).eval = ev n fr := by
  funext x
  cases x with
  | tmp t =>
    simp only [Act.eval, act, ev, Array.getD_eq_getD_getElem?, Array.getElem?_ofFn]
    by_cases h : t < n
    · have : Nat.blt t n = true := by simpa [Nat.blt_eq] using h
      simp [h, this]
    · have : Nat.blt t n = false := by rw [Bool.eq_false_iff]; simpa [Nat.blt_eq] using h
      simp [h, this]
  | _ => rfl
theorem act_put (n : Nat) (fr : Nat → Value) (d : Nat) (v : Value) : (act n fr).put (some d) v = act n (upd fr d v) := by
  simp only [Act.put, act]
  congr 1
  apply Array.ext
  · simp
  · intro i h1 h2
    simp only [Array.getElem_ofFn, upd]
    by_cases h : d = i
    · subst h; simp
    · have : Nat.beq i d = false := by
        rw [Bool.eq_false_iff]; intro hb; exact h (Nat.eq_of_beq_eq_true hb).symm
      rw [Array.getElem_setIfInBounds_ne (by simpa using h1) h]
      simp [this]
theorem act_put_none (n : Nat) (fr : Nat → Value) (v : Value) : (act n fr).put none v = act n fr := rfl
def frameOf (l : List Value) : Nat → Value := fun k => l.getD k undef
theorem act_enter (args : Array Value) (n : Nat) (h : args.size ≤ n) :
    ({ tmps := args ++ Array.replicate (n - args.size) undef, defers := [] } : Act) = act n (frameOf args.toList) := by
  simp only [act, frameOf]
  congr 1
  apply Array.ext
  · simp; omega
  · intro i h1 h2
    simp only [Array.getElem_ofFn, List.getD_eq_getElem?_getD]
    by_cases hi : i < args.size
    · simp [hi]
    · rw [Array.getElem_append_right (by omega)]; simp [hi]

def base (f : FuncId) : Frame := { (default : Frame) with fn := f, kind := .normal }
def Run (P : Program) (f : FuncId) (R : Ending → World → Prop) (k : List Item) (a : Act) (w : World) : Prop :=
  ∀ cs, ∃ e w' fr, R e w' ∧ Comes P (lone ((base f).at a k) cs w) (lone fr cs w') e ∧ fr.fn = f ∧ fr.leaving P w' e
section
variable {P : Program} {f : FuncId} {R : Ending → World → Prop} {k : List Item} {a : Act} {w : World}
theorem Run.calls {fn : Func} {c : Code} {args : Array Value} (hf : P.funcs[f]? = some fn) (hb : fn.body = some c)
    (h : Run P f R [.code c] { tmps := args ++ Array.replicate (fn.ntmps - args.size) undef, defers := [] } w) : Calls P f args w R := by
  intro cs
  have henter : Frame.enter P f args .normal =
      (base f).at { tmps := args ++ Array.replicate (fn.ntmps - args.size) undef, defers := [] } [.code c] := by
    simp [Frame.enter, Frame.at, hf, hb, base]
  rw [henter]
  exact h cs
theorem Run.step {k' : List Item} {a' : Act} {w' : World} (hs : ∀ cs, step P (lone ((base f).at a k) cs w) = .next (lone ((base f).at a' k') cs w'))
    (h : Run P f R k' a' w') : Run P f R k a w := by
  intro cs
  obtain ⟨e, w2, fr, hR, hc, hn, hl⟩ := h cs
  exact ⟨e, w2, fr, hR, hc.of_steps (.one (hs cs)), hn, hl⟩
theorem Run.seq {x y : Code} (h : Run P f R (.code x :: .code y :: k) a w) : Run P f R (.code (.seq x y) :: k) a w := Run.step (fun _ => step_seq) h
theorem Run.skip (h : Run P f R k a w) : Run P f R (.code .skip :: k) a w := Run.step (fun _ => step_skip) h
theorem Run.block {id : Nat} {c : Code} (h : Run P f R (.code c :: .inBlock id :: k) a w) : Run P f R (.code (.block id c) :: k) a w := Run.step (fun _ => step_block) h
theorem Run.inBlock {id : Nat} (h : Run P f R k a w) : Run P f R (.inBlock id :: k) a w := Run.step (fun _ => step_inBlock) h
theorem Run.exit {id : Nat} {k' : List Item} (he : exitTo id k = some k') (h : Run P f R k' a w) : Run P f R (.code (.exit id) :: k) a w := Run.step (fun _ => step_exit he) h
theorem Run.cond {c : Operand} {x y : Code} {t : Bool} (hc : a.eval c = .bool t) (ht : t = true → Run P f R (.code x :: k) a w) (hf : t = false → Run P f R (.code y :: k) a w) :
    Run P f R (.code (.cond c x y) :: k) a w := by
  cases t
  · exact Run.step (fun _ => step_cond hc) (hf rfl)
  · exact Run.step (fun _ => step_cond hc) (ht rfl)
theorem Run.loop {c : Code} (I : Act → World → Prop) (μ : Act → World → Nat) (h0 : I a w)
    (round : ∀ a w, I a w → (∀ a' w', I a' w' → μ a' w' < μ a w → Run P f R (.inLoop c :: k) a' w') → Run P f R (.code c :: .inLoop c :: k) a w) :
    Run P f R (.code (.loop c) :: k) a w := by
  have key : ∀ n a w, μ a w = n → I a w → Run P f R (.code c :: .inLoop c :: k) a w := by
    intro n
    induction n using Nat.strongRecOn with
    | _ n ih =>
      intro a w hn hI
      refine round a w hI fun a' w' hI' hlt => ?_
      exact Run.step (fun _ => step_inLoop) (ih _ (hn ▸ hlt) a' w' rfl hI')
  exact Run.step (fun _ => step_loop) (key _ a w rfl h0)
theorem Run.ret {fn : Func} {v : Value} (hf : P.funcs[f]? = some fn) (hr : (results fn a.tmps).run P w = .ok v w) (hd : a.defers = []) (hR : R (.returned v) w) :
    Run P f R (.code .ret :: k) a w := by
  intro cs
  exact ⟨.returned v, w, _, hR, Steps.one step_ret, rfl, rfl, hd, rfl, fn, hf, hr⟩
theorem Run.fin {fn : Func} {v : Value} (hf : P.funcs[f]? = some fn) (hr : (results fn a.tmps).run P w = .ok v w) (hd : a.defers = []) (hR : R (.returned v) w) :
    Run P f R [] a w := by
  intro cs
  exact ⟨.returned v, w, _, hR, Steps.one step_end, rfl, rfl, hd, rfl, fn, hf, hr⟩
def QN (K : Act → World → Prop) : Exit → Act → World → Prop
  | .normal, a, w => K a w
  | _, _, _ => False
theorem Run.wp {c : Code} (h : c.wp P (QN (Run P f R k)) a w) : Run P f R (.code c :: k) a w := by
  intro cs
  obtain ⟨e, a', w', hq, harr⟩ := h (base f) k cs
  cases e with
  | normal =>
    obtain ⟨e, w2, fr, hR, hc, hn, hl⟩ := hq cs
    exact ⟨e, w2, fr, hR, hc.of_steps harr, hn, hl⟩
  | _ => exact hq.elim
end
end Go.JW
namespace Go.JW

abbrev PH := Nat → Option Obj
def hp (w : World) : PH := fun b => w.heap[b]?
def PH.le (g g' : PH) : Prop := ∀ b o, g b = some o → g' b = some o
theorem PH.le_refl (g : PH) : PH.le g g := fun _ _ h => h
theorem PH.le_trans {a b c : PH} (h : PH.le a b) (k : PH.le b c) : PH.le a c := fun x o hx => k x o (h x o hx)
structure VH where
  imm : PH
  cur : PH
structure HP where
  h : VH → (Nat → Prop) → Prop
  loc : ∀ {g g' : VH} {F : Nat → Prop}, h g F → (∀ b, F b → g'.cur b = g.cur b) → PH.le g.imm g'.imm → h g' F
def blk (b : Nat) (o : Obj) : HP := ⟨fun g F => F b ∧ g.cur b = some o, fun h hg _ => ⟨h.1, by rw [hg _ h.1]; exact h.2⟩⟩
def SepIn (g : VH) : List HP → (Nat → Prop) → Prop
  | [], _ => True
  | A :: K, F => ∃ F1 : Nat → Prop, A.h g F1 ∧ (∀ b, F1 b → F b) ∧ SepIn g K (fun b => F b ∧ ¬ F1 b)
theorem SepIn.mono {g : VH} {K : List HP} : ∀ {F F' : Nat → Prop}, SepIn g K F → (∀ b, F b → F' b) → SepIn g K F' := by
  induction K with
  | nil => intros; trivial
  | cons A K ih =>
    rintro F F' ⟨F1, h1, h2, h3⟩ hF
    exact ⟨F1, h1, fun b hb => hF b (h2 b hb), ih h3 fun b hb => ⟨hF b hb.1, hb.2⟩⟩
theorem SepIn.loc {g g' : VH} {K : List HP} : ∀ {F : Nat → Prop}, SepIn g K F → (∀ b, F b → g'.cur b = g.cur b) → PH.le g.imm g'.imm → SepIn g' K F := by
  induction K with
  | nil => intros; trivial
  | cons A K ih =>
    rintro F ⟨F1, h1, h2, h3⟩ hF hi
    exact ⟨F1, A.loc h1 (fun b hb => hF b (h2 b hb)) hi, h2, ih h3 (fun b hb => hF b hb.1) hi⟩
theorem SepIn.here {σ g g' : PH} {K : List HP} {F : Nat → Prop} (h : SepIn ⟨σ, g⟩ K F) (hg : ∀ b, F b → g' b = g b) : SepIn ⟨σ, g'⟩ K F := h.loc hg (PH.le_refl _)
theorem SepIn.over {σ σ' g g' : PH} {K : List HP} {F : Nat → Prop} (h : SepIn ⟨σ, g⟩ K F) (hg : ∀ b, F b → g' b = g b) (hs : PH.le σ σ') : SepIn ⟨σ', g'⟩ K F := h.loc hg hs
theorem SepIn.swap {g : VH} {A B : HP} {K : List HP} {F : Nat → Prop} (h : SepIn g (A :: B :: K) F) : SepIn g (B :: A :: K) F := by
  obtain ⟨F1, a1, a2, F2, b1, b2, r⟩ := h
  exact ⟨F2, b1, fun b hb => (b2 b hb).1, F1, a1, fun b hb => ⟨a2 b hb, fun h2 => (b2 b h2).2 hb⟩, r.mono fun b hb => ⟨⟨hb.1.1, hb.2⟩, hb.1.2⟩⟩
theorem SepIn.tail {g : VH} {A : HP} {K : List HP} {F : Nat → Prop} (h : SepIn g (A :: K) F) : SepIn g K F := by
  obtain ⟨F1, _, _, r⟩ := h
  exact r.mono fun b hb => hb.1
theorem SepIn.cons_sub {g : VH} {A : HP} {K K' : List HP} (hk : ∀ F, SepIn g K F → SepIn g K' F) {F : Nat → Prop} (h : SepIn g (A :: K) F) : SepIn g (A :: K') F := by
  obtain ⟨F1, h1, h2, r⟩ := h
  exact ⟨F1, h1, h2, hk _ r⟩
class FindB (b : Nat) (K : List HP) (o : outParam Obj) (put : outParam (HP → List HP)) (K' : outParam (List HP)) : Prop where
  get : ∀ {g : VH} {F : Nat → Prop}, SepIn g K F → SepIn g (blk b o :: K') F
  set : ∀ {A : HP} {g : VH} {F : Nat → Prop}, SepIn g (A :: K') F → SepIn g (put A) F
instance FindB.tail {b : Nat} {K : List HP} {o : Obj} {put : HP → List HP} {K' : List HP} {B : HP} [i : FindB b K o put K'] : FindB b (B :: K) o (fun A => B :: put A) (B :: K') where
  get h := SepIn.swap (SepIn.cons_sub (fun _ => i.get) h)
  set h := SepIn.cons_sub (fun _ => i.set) (SepIn.swap h)
instance FindB.head {b : Nat} {K : List HP} {o : Obj} : FindB b (blk b o :: K) o (fun A => A :: K) K where
  get h := h
  set h := h

structure Sat (w0 : World) (M : Nat → Prop) (σ : PH) (K : List HP) (w : World) : Prop where
  os : w.os = w0.os
  tape : w.tape = w0.tape
  output : w.output = w0.output
  size : w0.heap.size ≤ w.heap.size
  keep : ∀ b, b < w0.heap.size → ¬ M b → σ b = w0.heap[b]?
  imm : PH.le σ (hp w)
  sep : SepIn ⟨σ, hp w⟩ K (fun b => b < w.heap.size ∧ σ b = none)
theorem hp_lt {w : World} {b : Nat} {o : Obj} (h : hp w b = some o) : b < w.heap.size := (Array.getElem?_eq_some_iff.1 h).1
theorem hp_none {w : World} {b : Nat} (h : w.heap.size ≤ b) : hp w b = none := by simp [hp, h]
section
variable {w0 w w1 : World} {M : Nat → Prop} {σ : PH} {K K' : List HP}
theorem Sat.start (w : World) : Sat w (fun _ => False) (hp w) [] w := ⟨rfl, rfl, rfl, Nat.le_refl _, fun _ _ _ => rfl, PH.le_refl _, trivial⟩
theorem Sat.below (h : Sat w0 (fun _ => False) σ K w) : RowKit.Below w0.heap.size w0 w :=
  ⟨h.os, h.tape, h.output, h.size, fun k hk => by
    have e := h.keep k hk (fun h => h)
    have hs : w0.heap[k]? = some w0.heap[k] := Array.getElem?_eq_getElem hk
    rw [hs]
    exact h.imm k _ (e.trans hs)⟩
theorem Sat.weak (h : Sat w0 M σ K w) (hk : ∀ F, SepIn ⟨σ, hp w⟩ K F → SepIn ⟨σ, hp w⟩ K' F) : Sat w0 M σ K' w :=
  ⟨h.os, h.tape, h.output, h.size, h.keep, h.imm, hk _ h.sep⟩
theorem Sat.fresh (h : Sat w0 M σ K w) {b : Nat} (hb : w.heap.size ≤ b) : σ b = none := by
  cases e : σ b with
  | none => rfl
  | some o => have := hp_lt (h.imm b o e); omega
theorem heap_alloc_at (w : World) (o : Obj) (b : Nat) : hp (w.alloc o) b = if b = w.heap.size then some o else hp w b := by
  show (w.heap.push o)[b]? = _
  rw [Array.getElem?_push]; rfl
theorem Sat.alloc (h : Sat w0 M σ K w) (o : Obj) : Sat w0 M σ (blk w.heap.size o :: K) (w.alloc o) := by
  have hsz : (w.alloc o).heap.size = w.heap.size + 1 := by show (w.heap.push o).size = _; simp
  refine ⟨h.os, h.tape, h.output, by have := h.size; omega, h.keep, fun b x hb => ?_, fun b => b = w.heap.size, ⟨rfl, ?_⟩, ?_, ?_⟩
  · have := hp_lt (h.imm b x hb)
    rw [heap_alloc_at, if_neg (by omega)]; exact h.imm b x hb
  · show hp (w.alloc o) w.heap.size = _; rw [heap_alloc_at, if_pos rfl]
  · rintro b rfl
    exact ⟨by omega, h.fresh (Nat.le_refl _)⟩
  · refine (h.sep.here fun b hb => ?_).mono fun b hb => ⟨⟨by omega, hb.2⟩, by omega⟩
    rw [heap_alloc_at, if_neg (by omega)]
theorem Sat.ext (h : Sat w0 M σ K w) (hb : RowKit.Below w.heap.size w w1) : Sat w0 M σ K w1 := by
  refine ⟨hb.os.trans h.os, hb.tape.trans h.tape, hb.output.trans h.output, Nat.le_trans h.size hb.size, h.keep, fun b x hx => ?_, ?_⟩
  · have := h.imm b x hx
    show w1.heap[b]? = _
    rw [hb.block b (hp_lt this)]; exact this
  · refine (h.sep.here fun b hb' => ?_).mono fun b hb' => ⟨Nat.lt_of_lt_of_le hb'.1 hb.size, hb'.2⟩
    exact hb.block b hb'.1
def since (w w1 : World) : PH := fun b => if w.heap.size ≤ b then w1.heap[b]? else none
def grow (σ : PH) (w w1 : World) : PH := fun b => if w.heap.size ≤ b then w1.heap[b]? else σ b
theorem grow_le (h : Sat w0 M σ K w) : PH.le σ (grow σ w w1) := by
  intro b o hb
  have := hp_lt (h.imm b o hb)
  simp only [grow]; rw [if_neg (by omega)]; exact hb
theorem since_le (σ : PH) (w w1 : World) : PH.le (since w w1) (grow σ w w1) := by
  intro b o hb
  simp only [since, grow] at *
  split at hb
  · rename_i h; rw [if_pos h]; exact hb
  · simp at hb
theorem Sat.grow (h : Sat w0 M σ K w) (hb : RowKit.Below w.heap.size w w1) : Sat w0 M (grow σ w w1) K w1 := by
  have e := h.ext hb
  refine ⟨e.os, e.tape, e.output, e.size, fun b hb' hM => ?_, fun b x hx => ?_, ?_⟩
  · have := h.size
    simp only [JW.grow]; rw [if_neg (by omega)]; exact h.keep b hb' hM
  · simp only [JW.grow] at hx
    split at hx
    · exact hx
    · exact e.imm b x hx
  · refine (h.sep.over (fun b hb' => hb.block b hb'.1) (grow_le h)).mono fun b hb' => ⟨Nat.lt_of_lt_of_le hb'.1 hb.size, ?_⟩
    simp only [JW.grow]; rw [if_neg (by omega)]; exact hb'.2
theorem Sat.get (h : Sat w0 M σ K w) {b : Nat} {o : Obj} {put : HP → List HP} [i : FindB b K o put K'] : w.heap[b]? = some o := by
  obtain ⟨F1, h1, h2, _⟩ := i.get h.sep
  exact h1.2
theorem hp_set (w : World) (b : Nat) (o : Obj) (hb : b < w.heap.size) : hp { w with heap := w.heap.setIfInBounds b o } = fun x => if x = b then some o else hp w x := by
  funext x
  simp only [hp, Array.getElem?_setIfInBounds]
  by_cases h : b = x
  · subst h; simp [hb]
  · simp [h, Ne.symm h]
theorem Sat.put (h : Sat w0 M σ K w) {b : Nat} {o : Obj} {put : HP → List HP} [i : FindB b K o put K'] (o' : Obj) :
    Sat w0 M σ (put (blk b o')) { w with heap := w.heap.setIfInBounds b o' } := by
  obtain ⟨F1, h1, h2, h3⟩ := i.get h.sep
  have hb : b < w.heap.size := (h2 b h1.1).1
  have hs : ({ w with heap := w.heap.setIfInBounds b o' } : World).heap.size = w.heap.size := by simp
  refine ⟨h.os, h.tape, h.output, by rw [hs]; exact h.size, h.keep, fun x y hx => ?_, i.set ⟨F1, ⟨h1.1, ?_⟩, ?_, ?_⟩⟩
  · rw [hp_set w b o' hb]
    have hne : x ≠ b := fun e => by subst e; have := (h2 x h1.1).2; rw [this] at hx; exact absurd hx (by simp)
    simp only [if_neg hne]; exact h.imm x y hx
  · rw [hp_set w b o' hb]; simp
  · rw [hs]; exact h2
  · rw [hs]
    refine h3.here fun x hx => ?_
    have hne : x ≠ b := fun e => hx.2 (e ▸ h1.1)
    rw [hp_set w b o' hb]; simp [hne]
theorem Sat.drew (h : Sat w0 M σ K w) : Sat w0 M σ K w.drew := ⟨h.os, h.tape, h.output, h.size, h.keep, h.imm, h.sep⟩
end

structure RS (P : Program) (f : FuncId) (R : Ending → World → Prop) (k : List Item) (n : Nat) (fr : Nat → Value) (w0 : World) (M : Nat → Prop) (σ : PH) (K : List HP) : Prop where
  out : ∀ w, Sat w0 M σ K w → Run P f R k (act n fr) w
structure LS (P : Program) (q : Bool) (ops : Array Oper) (f : FuncId) (R : Ending → World → Prop) (k : List Item) (l : List Oper) (n : Nat) (fr : Nat → Value) (w0 : World) (M : Nat → Prop) (σ : PH) (K : List HP) : Prop where
  out : match q with
    | false => ∀ w, Sat w0 M σ K w → wpList P ops (QN (Run P f R k)) l (act n fr) w
    | true => wpQuiet P ops (Sat w0 M σ K) (fun a' => ∀ w', Sat w0 M σ K w' → Run P f R k a' w') l (act n fr)
section
variable {P : Program} {q : Bool} {ops : Array Oper} {f : FuncId} {R : Ending → World → Prop} {k : List Item} {n : Nat} {fr : Nat → Value} {w0 : World} {M : Nat → Prop} {σ : PH} {K : List HP}
theorem RS.enter {fn : Func} {c : Code} {l : List Value} {w : World} (hf : P.funcs[f]? = some fn) (hn : fn.ntmps = n) (hb : fn.body = some c) (hs : Nat.ble l.length n = true)
    (h : RS P f R [.code c] n (frameOf l) w (fun _ => False) (hp w) []) : Calls P f l.toArray w R := by
  refine Run.calls hf hb ?_
  rw [hn, act_enter _ _ (by simpa using hs)]
  exact h.out w (Sat.start w)
theorem RS.seq {x y : Code} (h : RS P f R (.code x :: .code y :: k) n fr w0 M σ K) : RS P f R (.code (.seq x y) :: k) n fr w0 M σ K := ⟨fun w hw => Run.seq (h.out w hw)⟩
theorem RS.skip (h : RS P f R k n fr w0 M σ K) : RS P f R (.code .skip :: k) n fr w0 M σ K := ⟨fun w hw => Run.skip (h.out w hw)⟩
theorem RS.block {id : Nat} {c : Code} (h : RS P f R (.code c :: .inBlock id :: k) n fr w0 M σ K) : RS P f R (.code (.block id c) :: k) n fr w0 M σ K := ⟨fun w hw => Run.block (h.out w hw)⟩
theorem RS.inBlock {id : Nat} (h : RS P f R k n fr w0 M σ K) : RS P f R (.inBlock id :: k) n fr w0 M σ K := ⟨fun w hw => Run.inBlock (h.out w hw)⟩
theorem RS.exit {id : Nat} {k' : List Item} (h : RS P f R k' n fr w0 M σ K) (he : exitTo id k = some k' := by rfl) : RS P f R (.code (.exit id) :: k) n fr w0 M σ K := ⟨fun w hw => Run.exit he (h.out w hw)⟩
theorem RS.cond {c : Operand} {x y : Code} {t : Bool} (ht : t = true → RS P f R (.code x :: k) n fr w0 M σ K) (hf : t = false → RS P f R (.code y :: k) n fr w0 M σ K) (hc : ev n fr c = .bool t := by rfl) :
    RS P f R (.code (.cond c x y) :: k) n fr w0 M σ K :=
  ⟨fun w hw => Run.cond (t := t) (by rw [act_eval]; exact hc) (fun h => (ht h).out w hw) (fun h => (hf h).out w hw)⟩
theorem RS.condT {c : Operand} {x y : Code} {t : Bool} (hx : RS P f R (.code x :: k) n fr w0 M σ K) (hc : ev n fr c = .bool t := by rfl) (h : t = true := by rfl) :
    RS P f R (.code (.cond c x y) :: k) n fr w0 M σ K := RS.cond (fun _ => hx) (fun h' => by rw [h] at h'; cases h') hc
theorem RS.condF {c : Operand} {x y : Code} {t : Bool} (hx : RS P f R (.code y :: k) n fr w0 M σ K) (hc : ev n fr c = .bool t := by rfl) (h : t = false := by rfl) :
    RS P f R (.code (.cond c x y) :: k) n fr w0 M σ K := RS.cond (fun h' => by rw [h] at h'; cases h') (fun _ => hx) hc
theorem RS.loop {X : Type} (I : X → Prop) (fx : X → Nat → Value) (σx : X → PH) (Kx : X → List HP) (μ : X → Nat) {c : Code} (x0 : X) (h0 : I x0) (hfr : fr = fx x0) (hσ : σ = σx x0) (hK : K = Kx x0)
    (round : ∀ x, I x → (∀ y, I y → μ y < μ x → RS P f R (.inLoop c :: k) n (fx y) w0 M (σx y) (Kx y)) → RS P f R (.code c :: .inLoop c :: k) n (fx x) w0 M (σx x) (Kx x)) :
    RS P f R (.code (.loop c) :: k) n fr w0 M σ K := by
  subst hfr hσ hK
  have key : ∀ m x, μ x = m → I x → RS P f R (.code c :: .inLoop c :: k) n (fx x) w0 M (σx x) (Kx x) := by
    intro m
    induction m using Nat.strongRecOn with
    | _ m ih =>
      intro x hm hI
      exact round x hI fun y hy hlt => ⟨fun w hw => Run.step (fun _ => step_inLoop) ((ih _ (hm ▸ hlt) y rfl hy).out w hw)⟩
  exact ⟨fun w hw => Run.step (fun _ => step_loop) ((key _ x0 rfl h0).out w hw)⟩
theorem RS.region {id : Nat} {l : List Oper} (h : LS P false l.toArray f R k l n fr w0 M σ K) : RS P f R (.code (.region id l.toArray false) :: k) n fr w0 M σ K :=
  ⟨fun w hw => Run.wp (wp_region_lit (h.out w hw))⟩
theorem RS.regionQ {id : Nat} {l : List Oper} (h : LS P true l.toArray f R k l n fr w0 M σ K) (hm : P.follows .mixedOrders = true) (hB : Region.lexB .any l.toArray = true) : RS P f R (.code (.region id l.toArray true) :: k) n fr w0 M σ K := by
  refine ⟨fun w hw => Run.wp (wp_region_quiet (C := Sat w0 M σ K) hm hB hw.drew ?_)⟩
  exact h.out
theorem LS.done (h : RS P f R k n fr w0 M σ K) : LS P q ops f R k [] n fr w0 M σ K := by
  cases q
  · exact ⟨fun w hw => wpList_nil (Q := QN (Run P f R k)) (h.out w hw)⟩
  · exact ⟨h.out⟩
theorem LS.val {o : Oper} {rest : List Oper} {d : Nat} {v : Value} (hg : o.guard = none) (hd : o.dst = some d)
    (ho : ∀ w, Sat w0 M σ K w → (execOp (ev n fr) o).run P w = .ok (.value v) w) (h : LS P q ops f R k rest n (upd fr d v) w0 M σ K) : LS P q ops f R k (o :: rest) n fr w0 M σ K := by
  cases q
  · refine ⟨fun w hw => ?_⟩
    refine wpList_plain hg fun K' hK' => ?_
    unfold Oper.wp
    rw [act_eval, ho w hw, Oper.upon_value, hd, act_put]
    exact hK' _ _ (h.out w hw)
  · refine ⟨wpQuiet_step fun K' hK' => ?_⟩
    simp only [Region.wanted, hg, if_true]
    refine ⟨v, fun w hw => ?_, hK' _ ?_⟩
    · unfold Oper.quietAt; rw [act_eval, ho w hw]; exact ⟨rfl, rfl⟩
    · rw [hd, act_put]; exact h.out
theorem LS.valW {o : Oper} {rest : List Oper} {d : Nat} (hg : o.guard = none) (hd : o.dst = some d)
    (ho : ∀ w, Sat w0 M σ K w → ∃ v w' σ' K', (execOp (ev n fr) o).run P w = .ok (.value v) w' ∧ Sat w0 M σ' K' w' ∧ LS P false ops f R k rest n (upd fr d v) w0 M σ' K') : LS P false ops f R k (o :: rest) n fr w0 M σ K := by
  refine ⟨fun w hw => ?_⟩
  obtain ⟨v, w', σ', K', h1, h2, h3⟩ := ho w hw
  refine wpList_plain hg fun K' hK' => ?_
  unfold Oper.wp
  rw [act_eval, h1, Oper.upon_value, hd, act_put]
  exact hK' _ _ (h3.out w' h2)
theorem LS.skipW {o : Oper} {rest : List Oper} (hg : o.guard = none) (hd : o.dst = none)
    (ho : ∀ w, Sat w0 M σ K w → ∃ w' σ' K', (execOp (ev n fr) o).run P w = .ok .skip w' ∧ Sat w0 M σ' K' w' ∧ LS P false ops f R k rest n fr w0 M σ' K') : LS P false ops f R k (o :: rest) n fr w0 M σ K := by
  refine ⟨fun w hw => ?_⟩
  obtain ⟨w', σ', K', h1, h2, h3⟩ := ho w hw
  refine wpList_plain hg fun K' hK' => ?_
  unfold Oper.wp
  rw [act_eval, h1, Oper.upon_skip, hd, act_put_none]
  exact hK' _ _ (h3.out w' h2)
theorem LS.enterW {o : Oper} {rest : List Oper} {d : Nat} {g : FuncId} {args : Array Value} (hg : o.guard = none) (hd : o.dst = some d)
    (ho : ∀ w, Sat w0 M σ K w → (execOp (ev n fr) o).run P w = .ok (.enter g args) w)
    (hc : ∀ w, Sat w0 M σ K w → Calls P g args w fun e w' => ∃ v σ' K', e = .returned v ∧ Sat w0 M σ' K' w' ∧ LS P false ops f R k rest n (upd fr d v) w0 M σ' K') : LS P false ops f R k (o :: rest) n fr w0 M σ K := by
  refine ⟨fun w hw => ?_⟩
  refine wpList_plain hg fun K' hK' => ?_
  unfold Oper.wp
  rw [act_eval, ho w hw, Oper.upon_enter]
  refine (hc w hw).mono ?_
  rintro e w' ⟨v, σ', K', rfl, h2, h3⟩
  simp only [hd, act_put]
  exact hK' _ _ (h3.out w' h2)
theorem LS.enterP {o : Oper} {rest : List Oper} {d : Nat} {g : FuncId} {args : Array Value} {v : Value} (hg : o.guard = none) (hd : o.dst = some d)
    (ho : ∀ w, Sat w0 M σ K w → (execOp (ev n fr) o).run P w = .ok (.enter g args) w)
    (hc : ∀ w, Sat w0 M σ K w → Calls P g args w fun e w' => e = .returned v ∧ Sat w0 M σ K w') (h : LS P q ops f R k rest n (upd fr d v) w0 M σ K) : LS P q ops f R k (o :: rest) n fr w0 M σ K := by
  cases q
  · exact LS.enterW hg hd ho fun w hw => (hc w hw).mono fun _ _ ⟨he, hs⟩ => ⟨v, σ, K, he, hs, h⟩
  · refine ⟨wpQuiet_step fun K' hK' => ?_⟩
    simp only [Region.wanted, hg, if_true]
    refine ⟨v, fun w hw => ?_, hK' _ ?_⟩
    · unfold Oper.quietAt; rw [act_eval, ho w hw]; exact ⟨rfl, hc w hw⟩
    · rw [hd, act_put]; exact h.out
theorem yielded_at {j g : Nat} {b : Bool} (hj : (ops[j]?).bind (·.dst) = some g) (hv : ev n fr (.tmp g) = .bool b) : yielded ops (act n fr).tmps j = some b := by
  have h1 : (act n fr).tmps.getD g undef = .bool b := by
    have := act_eval n fr
    have h2 := congrFun this (.tmp g)
    simp only [Act.eval] at h2
    rw [h2, hv]
  unfold yielded
  rw [hj]
  simp only [Option.bind_some]
  cases e : (act n fr).tmps[g]? with
  | none => rw [Array.getD_eq_getD_getElem?, e] at h1; simp [undef] at h1
  | some x => rw [Array.getD_eq_getD_getElem?, e] at h1; simp at h1; rw [h1]
theorem LS.on {rest : List Oper} {d : Option Tmp} {op : Op} {ty : TypeId} {pos : String} {aft : Array Edge} {j g : Nat} {b : Bool}
    (h : LS P q ops f R k (⟨d, op, ty, pos, aft, none⟩ :: rest) n fr w0 M σ K) (hj : (ops[j]?).bind (·.dst) = some g := by rfl) (hv : ev n fr (.tmp g) = .bool b := by rfl) :
    LS P q ops f R k (⟨d, op, ty, pos, aft, some (j, b)⟩ :: rest) n fr w0 M σ K := by
  have hy := yielded_at (ops := ops) hj hv
  cases q
  · refine ⟨fun w hw => ?_⟩
    have := h.out w hw
    unfold wpList at this ⊢
    simp only [Region.wanted, hy, if_true, beq_self_eq_true] at this ⊢
    exact this
  · have := h.out
    refine ⟨?_⟩
    unfold wpQuiet at this ⊢
    simp only [Region.wanted, hy, if_true, beq_self_eq_true] at this ⊢
    exact this
theorem LS.off {rest : List Oper} {d : Nat} {op : Op} {ty : TypeId} {pos : String} {aft : Array Edge} {j g : Nat} {b : Bool}
    (h : LS P q ops f R k rest n (upd fr d undef) w0 M σ K) (hj : (ops[j]?).bind (·.dst) = some g := by rfl) (hv : ev n fr (.tmp g) = .bool (!b) := by rfl) :
    LS P q ops f R k (⟨some d, op, ty, pos, aft, some (j, b)⟩ :: rest) n fr w0 M σ K := by
  have hy := yielded_at (ops := ops) hj hv
  cases q
  · refine ⟨fun w hw => ?_⟩
    have := h.out w hw
    unfold wpList
    simp only [Region.wanted, hy]
    rw [if_neg (by cases b <;> simp)]
    simp only [act_put]
    exact this
  · refine ⟨?_⟩
    unfold wpQuiet
    simp only [Region.wanted, hy]
    rw [if_neg (by cases b <;> simp)]
    simp only [act_put]
    exact h.out
theorem yielded_undef {j g : Nat} (hj : (ops[j]?).bind (·.dst) = some g) (hv : ev n fr (.tmp g) = undef) : yielded ops (act n fr).tmps j = none := by
  have h1 : (act n fr).tmps.getD g undef = undef := by
    have h2 := congrFun (act_eval n fr) (.tmp g)
    simp only [Act.eval] at h2
    rw [h2, hv]
  unfold yielded
  rw [hj]
  simp only [Option.bind_some]
  cases e : (act n fr).tmps[g]? with
  | none => rfl
  | some x => rw [Array.getD_eq_getD_getElem?, e] at h1; simp at h1; rw [h1]; rfl
theorem LS.offU {rest : List Oper} {d : Nat} {op : Op} {ty : TypeId} {pos : String} {aft : Array Edge} {j g : Nat} {b : Bool}
    (h : LS P q ops f R k rest n (upd fr d undef) w0 M σ K) (hj : (ops[j]?).bind (·.dst) = some g := by rfl) (hv : ev n fr (.tmp g) = undef := by rfl) :
    LS P q ops f R k (⟨some d, op, ty, pos, aft, some (j, b)⟩ :: rest) n fr w0 M σ K := by
  have hy := yielded_undef (ops := ops) hj hv
  cases q
  · refine ⟨fun w hw => ?_⟩
    have := h.out w hw
    unfold wpList
    simp only [Region.wanted, hy]
    rw [if_neg (by simp)]
    simp only [act_put]
    exact this
  · refine ⟨?_⟩
    unfold wpQuiet
    simp only [Region.wanted, hy]
    rw [if_neg (by simp)]
    simp only [act_put]
    exact h.out
theorem upd_same {g : Nat} {b : Value} (hv : fr g = b) : upd fr g b = fr := by
  funext x
  simp only [upd]
  by_cases h : Nat.beq x g = true
  · simp only [h, cond_true]; rw [Nat.eq_of_beq_eq_true h, hv]
  · simp [h]
theorem LS.part {l : List Oper} (g : Nat) {p : Bool} (ht : p = true → LS P q ops f R k l n (upd fr g (.bool true)) w0 M σ K) (hf : p = false → LS P q ops f R k l n (upd fr g (.bool false)) w0 M σ K)
    (hv : fr g = .bool p := by rfl) : LS P q ops f R k l n fr w0 M σ K := by
  cases p
  · have := hf rfl; rwa [upd_same hv] at this
  · have := ht rfl; rwa [upd_same hv] at this
theorem RS.part {l : List Item} (g : Nat) {p : Bool} (ht : p = true → RS P f R l n (upd fr g (.bool true)) w0 M σ K) (hf : p = false → RS P f R l n (upd fr g (.bool false)) w0 M σ K)
    (hv : fr g = .bool p := by rfl) : RS P f R l n fr w0 M σ K := by
  cases p
  · have := hf rfl; rwa [upd_same hv] at this
  · have := ht rfl; rwa [upd_same hv] at this
theorem RS.ret1 {fn : Func} {t : Nat} {v : Value} (hf : P.funcs[f]? = some fn) (h : ∀ w, Sat w0 M σ K w → R (.returned v) w) (hr : fn.results = #[.tmp t] := by rfl) (hv : ev n fr (.tmp t) = v := by rfl) :
    RS P f R (.code .ret :: k) n fr w0 M σ K := by
  refine ⟨fun w hw => ?_⟩
  refine Run.ret hf (results_tmp hr _ _ _) rfl ?_
  have : (act n fr).tmps.getD t undef = v := by have := congrFun (act_eval n fr) (.tmp t); simp only [Act.eval] at this; rw [this, hv]
  rw [this]; exact h w hw
theorem RS.fin0 {fn : Func} (hf : P.funcs[f]? = some fn) (h : ∀ w, Sat w0 M σ K w → R (.returned (.tuple #[])) w) (hr : fn.results = #[] := by rfl) :
    RS P f R [] n fr w0 M σ K := ⟨fun w hw => Run.fin hf (results_none hr _ _ _) rfl (h w hw)⟩
end
end Go.JW
namespace Go.JW
def Stp (G G' : Prop) : Prop := G' → G
section
variable {P : Program} {f : FuncId} {R : Ending → World → Prop} {k k' : List Item} {n id : Nat} {fr : Nat → Value} {w0 : World} {M : Nat → Prop} {σ : PH} {K : List HP} {l : List Oper} {x y : Code} {G : Prop}
theorem zS (h : Stp (RS P f R (.code x :: .code y :: k) n fr w0 M σ K) G) : Stp (RS P f R (.code (.seq x y) :: k) n fr w0 M σ K) G := fun g => RS.seq (h g)
theorem zR : Stp (RS P f R (.code (.region id l.toArray false) :: k) n fr w0 M σ K) (LS P false l.toArray f R k l n fr w0 M σ K) := fun g => RS.region g
theorem zQ (hm : P.follows .mixedOrders = true := by kernel_rfl) (hB : Region.lexB .any l.toArray = true := by kernel_rfl) : Stp (RS P f R (.code (.region id l.toArray true) :: k) n fr w0 M σ K) (LS P true l.toArray f R k l n fr w0 M σ K) := fun g => RS.regionQ g hm hB
theorem zK (h : Stp (RS P f R k n fr w0 M σ K) G) : Stp (RS P f R (.code .skip :: k) n fr w0 M σ K) G := fun g => RS.skip (h g)
theorem zI (h : Stp (RS P f R k n fr w0 M σ K) G) : Stp (RS P f R (.inBlock id :: k) n fr w0 M σ K) G := fun g => RS.inBlock (h g)
theorem zB (h : Stp (RS P f R (.code x :: .inBlock id :: k) n fr w0 M σ K) G) : Stp (RS P f R (.code (.block id x) :: k) n fr w0 M σ K) G := fun g => RS.block (h g)
theorem zE (he : exitTo id k = some k') (h : Stp (RS P f R k' n fr w0 M σ K) G) : Stp (RS P f R (.code (.exit id) :: k) n fr w0 M σ K) G := fun g => RS.exit (h g) he
theorem zO : Stp G G := fun g => g
end
theorem zN {G G' : Prop} (h : G') (s : Stp G G' := by repeat (first | apply zS | exact zR | exact zQ | apply zK | apply zI | apply zB | (apply zE; rfl) | exact zO)) : G := s h
theorem zD {G G' : Prop} (h : G') (s : Stp G G' := by repeat (first | apply zS | exact zR | apply zK | apply zI | apply zB | (apply zE; rfl) | exact zO)) : G := s h
end Go.JW
namespace Go.JW

def aggOf (P : Program) (t : TypeId) : Option Bool :=
  match P.underlying t with
  | some (.struct _) | some (.array ..) => some true
  | some _ => some false
  | none => none
def szOf (P : Program) (t : TypeId) : Option Nat := (P.info? t).map (·.size)
def zeroOf (P : Program) (t : TypeId) : Option (List Value) := ((P.info? t).bind (·.zero)).map fun z => z.cells.toList
def fldOf (P : Program) (t : TypeId) (i : Nat) : Option (Nat × Nat) :=
  match P.underlying t with
  | some (.struct fs) => (fs[i]?).bind fun f => (szOf P f.type).map fun s => (f.offset, s)
  | _ => none
class TInt (P : Program) (t : TypeId) (k : outParam IntKind) : Prop where eq : P.underlying t = some (.int k)
class TStr (P : Program) (t : TypeId) : Prop where eq : P.underlying t = some .string
class TBool (P : Program) (t : TypeId) : Prop where eq : P.underlying t = some .bool
class TSlice (P : Program) (t : TypeId) (e : outParam TypeId) : Prop where eq : P.underlying t = some (.slice e)
class TPtr (P : Program) (t : TypeId) (e : outParam TypeId) : Prop where eq : P.underlying t = some (.pointer e)
class TArr (P : Program) (t : TypeId) (l e : outParam Nat) : Prop where eq : P.underlying t = some (.array l e)
class TMap (P : Program) (t : TypeId) (k e : outParam TypeId) : Prop where eq : P.underlying t = some (.map k e)
class TSz (P : Program) (t : TypeId) (s : outParam Nat) : Prop where eq : szOf P t = some s
class TBytes (P : Program) (t : TypeId) (s : outParam Nat) : Prop where eq : (P.info? t).map (·.bytes) = some s
class TOne (P : Program) (t : TypeId) : Prop where
  agg : aggOf P t = some false
class TAgg (P : Program) (t : TypeId) : Prop where
  agg : aggOf P t = some true
class TZero (P : Program) (t : TypeId) (zs : outParam (List Value)) : Prop where eq : zeroOf P t = some zs
class TFld (P : Program) (t : TypeId) (i : Nat) (off s : outParam Nat) : Prop where eq : fldOf P t i = some (off, s + 1)
section
variable {P : Program} {t : TypeId} (w : World)
theorem run_sz {s : Nat} (h : szOf P t = some s) : (sizeOf t).run P w = .ok s w := by
  unfold szOf at h
  cases hi : P.info? t with
  | none => simp [hi] at h
  | some i => simp [hi] at h; simp [sizeOf, typeInfo, hi, h]
theorem run_agg {b : Bool} (h : aggOf P t = some b) : (isAgg t).run P w = .ok b w := by
  unfold aggOf at h
  cases hu : P.underlying t with
  | none => simp [hu] at h
  | some d => cases d <;> simp [hu] at h <;> subst h <;> simp [isAgg, run_underlying hu]
end

def nth : List Value → Nat → Option Value
  | [], _ => none
  | v :: _, 0 => some v
  | _ :: l, i + 1 => nth l i
theorem nth_eq (l : List Value) (i : Nat) : nth l i = l[i]? := by
  induction l generalizing i with
  | nil => simp [nth]
  | cons v l ih => cases i <;> simp [nth, ih]
def takeAt : List Value → Nat → Nat → Option (List Value)
  | _, _, 0 => some []
  | [], _, _ + 1 => none
  | v :: l, 0, m + 1 => match takeAt l 0 m with | some r => some (v :: r) | none => none
  | _ :: l, i + 1, m + 1 => takeAt l i (m + 1)
theorem takeAt_spec : ∀ (l : List Value) (i m : Nat) (r : List Value), takeAt l i m = some r → r.length = m ∧ ∀ j, j < m → l[i + j]? = r[j]? := by
  intro l
  induction l with
  | nil =>
    intro i m r h
    cases m with
    | zero => simp [takeAt] at h; subst h; simp
    | succ m => simp [takeAt] at h
  | cons v l ih =>
    intro i m r h
    cases m with
    | zero => simp [takeAt] at h; subst h; simp
    | succ m =>
      cases i with
      | zero =>
        simp only [takeAt] at h
        cases e : takeAt l 0 m with
        | none => simp [e] at h
        | some r' =>
          simp [e] at h; subst h
          obtain ⟨h1, h2⟩ := ih 0 m r' e
          refine ⟨by simp [h1], fun j hj => ?_⟩
          cases j with
          | zero => simp
          | succ j => have := h2 j (by omega); simpa using this
      | succ i =>
        simp only [takeAt] at h
        obtain ⟨h1, h2⟩ := ih i (m + 1) r h
        refine ⟨h1, fun j hj => ?_⟩
        have := h2 j hj
        rw [show i + 1 + j = (i + j) + 1 by omega]; simpa using this
def setAt : List Value → Nat → List Value → List Value
  | l, _, [] => l
  | [], _, _ :: _ => []
  | _ :: l, 0, v :: vs => v :: setAt l 0 vs
  | u :: l, i + 1, v :: vs => u :: setAt l i (v :: vs)
theorem setAt_length : ∀ (l : List Value) (i : Nat) (vs : List Value), (setAt l i vs).length = l.length := by
  intro l
  induction l with
  | nil => intro i vs; cases vs <;> simp [setAt]
  | cons u l ih => intro i vs; cases vs <;> cases i <;> simp [setAt, ih]
theorem setAt_nil (l : List Value) (i : Nat) : setAt l i [] = l := by cases l <;> simp [setAt]
theorem setAt_cons : ∀ (l : List Value) (i : Nat) (v : Value) (vs : List Value), setAt l i (v :: vs) = setAt (l.set i v) (i + 1) vs := by
  intro l
  induction l with
  | nil => intro i v vs; cases vs <;> simp [setAt]
  | cons u l ih =>
    intro i v vs
    cases i with
    | zero =>
      cases vs with
      | nil => simp [setAt, setAt_nil]
      | cons v' vs => simp [setAt]
    | succ i =>
      have := ih i v vs
      cases vs with
      | nil => simp [setAt, this]
      | cons v' vs => simp only [setAt, List.set_cons_succ]; rw [this]
def cellsL (v : Value) : List Value := match v with | .agg cs => cs.toList | v => [v]
theorem cells_toList (v : Value) : v.cells.toList = cellsL v := by cases v <;> rfl

section
variable {P : Program} {w : World} {b : Nat} {cs : List Value} {T : TypeId}
theorem cell_blk (h : w.heap[b]? = some (.cells cs.toArray T (0, 0))) (off : Nat) : w.cell? ⟨b, off, none⟩ = cs[off]? := by
  simp [World.cell?, h]
theorem add_off (b off i : Nat) : (⟨b, off, none⟩ : Addr).add i = ⟨b, off + i, none⟩ := by unfold Addr.add; split <;> simp_all
theorem frozen_blk (h : w.heap[b]? = some (.cells cs.toArray T (0, 0))) (off : Nat) : w.frozen? ⟨b, off, none⟩ = false := by
  simp [World.frozen?, h]
theorem setCell_blk (h : w.heap[b]? = some (.cells cs.toArray T (0, 0))) (off : Nat) (v : Value) :
    w.setCell ⟨b, off, none⟩ v = { w with heap := w.heap.setIfInBounds b (.cells (cs.set off v).toArray T (0, 0)) } := by
  unfold World.setCell
  congr 1
  apply Array.ext_getElem?
  intro i
  rw [Array.getElem?_modify, Array.getElem?_setIfInBounds]
  have hb : b < w.heap.size := (Array.getElem?_eq_some_iff.1 h).1
  by_cases hi : b = i
  · subst hi; rw [h]; simp [hb]
  · simp [hi]
theorem run_loadFrom (a : Nat → Option Value) (hrd : ∀ j v, a j = some v → w.cell? ⟨b, j, none⟩ = some v) :
    ∀ (m i off : Nat) (acc : Array Value) (vs : List Value), vs.length = m → (∀ j, j < m → a (off + i + j) = vs[j]?) →
      (loadCellsFrom ⟨b, off, none⟩ i m acc).run P w = .ok (acc ++ vs.toArray) w := by
  intro m
  induction m with
  | zero => intro i off acc vs hl _; obtain rfl := List.eq_nil_of_length_eq_zero hl; simp [loadCellsFrom]
  | succ m ih =>
    intro i off acc vs hl hv
    cases vs with
    | nil => simp at hl
    | cons v vs =>
      have h0 := hrd (off + i) v (by have := hv 0 (by omega); simpa using this)
      have := ih (i + 1) off (acc.push v) vs (by simpa using hl) (fun j hj => by have := hv (j + 1) (by omega); simpa [Nat.add_assoc, Nat.add_comm, Nat.add_left_comm] using this)
      simp [loadCellsFrom, add_off, h0, this]
theorem run_loadVar1 {t : TypeId} {v : Value} (ht : aggOf P t = some false) (off : Nat) (h : w.cell? ⟨b, off, none⟩ = some v) : (loadVar t ⟨b, off, none⟩).run P w = .ok v w := by
  simp [loadVar, run_agg w ht, h]
theorem run_loadVarA {t : TypeId} {s : Nat} {vs : List Value} (ht : aggOf P t = some true) (hs : szOf P t = some s) (off : Nat) (hl : vs.length = s) (h : ∀ j, j < s → w.cell? ⟨b, off + j, none⟩ = vs[j]?) :
    (loadVar t ⟨b, off, none⟩).run P w = .ok (.agg vs.toArray) w := by
  have := run_loadFrom (P := P) (w := w) (b := b) (fun j => w.cell? ⟨b, j, none⟩) (fun j v h => h) s 0 off #[] vs hl (fun j hj => by first | (simp; done) | (have h1 := h j hj; simpa using h1))
  simp [loadVar, run_agg w ht, run_sz w hs, loadCells, this]
theorem run_storeCellsL (off : Nat) : ∀ (vs : List Value) (i : Nat) (w : World) (cs : List Value), w.heap[b]? = some (.cells cs.toArray T (0, 0)) →
    off + i + vs.length ≤ cs.length → vs.all (·.oneCell') = true →
    (storeCells ⟨b, off, none⟩ vs i).run P w = .ok () { w with heap := w.heap.setIfInBounds b (.cells (setAt cs (off + i) vs).toArray T (0, 0)) } := by
  intro vs
  induction vs with
  | nil =>
    intro i w cs hb _ _
    simp only [storeCells, Sem.run_pure, setAt_nil]
    congr 1
    have : w.heap.setIfInBounds b (.cells cs.toArray T (0, 0)) = w.heap := by
      apply Array.ext_getElem?
      intro j
      rw [Array.getElem?_setIfInBounds]
      by_cases hj : b = j
      · subst hj; rw [hb]; simp [(Array.getElem?_eq_some_iff.1 hb).1]
      · simp [hj]
    rw [this]
  | cons v vs ih =>
    intro i w cs hb hl h1
    simp only [List.all_cons, Bool.and_eq_true] at h1
    simp only [List.length_cons] at hl
    have hbs : b < w.heap.size := (Array.getElem?_eq_some_iff.1 hb).1
    have hc : w.cell? ⟨b, off + i, none⟩ = some (cs[off + i]'(by omega)) := by rw [cell_blk hb]; exact List.getElem?_eq_getElem _
    have := ih (i + 1) { w with heap := w.heap.setIfInBounds b (.cells (cs.set (off + i) v).toArray T (0, 0)) } (cs.set (off + i) v) (by simp [hbs]) (by simp; omega) h1.2
    rw [setAt_cons]
    simp only [storeCells, add_off, Sem.run_bind, run_store P w _ v _ h1.1, hc, frozen_blk hb, setCell_blk hb, Bool.false_eq_true, if_false, Result.andThen_ok, this]
    simp only [Array.setIfInBounds_setIfInBounds, Nat.add_assoc]
theorem run_storeVarL {t : TypeId} {s : Nat} {v : Value} (hb : w.heap[b]? = some (.cells cs.toArray T (0, 0))) (hs : szOf P t = some s) (off : Nat) (hl : (cellsL v).length = s) (hr : off + s ≤ cs.length) (h1 : (cellsL v).all (·.oneCell') = true) :
    (storeVar t ⟨b, off, none⟩ v).run P w = .ok () { w with heap := w.heap.setIfInBounds b (.cells (setAt cs off (cellsL v)).toArray T (0, 0)) } := by
  have := run_storeCellsL (P := P) (b := b) (T := T) off (cellsL v) 0 w cs hb (by omega) h1
  have hz : v.cells.size = s := by rw [← Array.length_toList, cells_toList]; exact hl
  simp only [storeVar, Sem.run_bind, run_sz w hs, Result.andThen_ok, hz, ne_eq, not_true_eq_false, if_false, cells_toList, this, Nat.add_zero]
end

section
variable {P : Program} {q : Bool} {ops : Array Oper} {f : FuncId} {R : Ending → World → Prop} {k : List Item} {n : Nat} {fr : Nat → Value} {w0 : World} {M : Nat → Prop} {σ : PH} {K : List HP}
variable {rest : List Oper} {d : Nat} {ty : TypeId} {pos : String} {aft : Array Edge} {x y z : Operand} {t t' : TypeId}
theorem mv {v : Value} (h : LS P q ops f R k rest n (upd fr d v) w0 M σ K) (hx : ev n fr x = v := by rfl) : LS P q ops f R k (⟨some d, .move x, ty, pos, aft, none⟩ :: rest) n fr w0 M σ K :=
  LS.val rfl rfl (fun w _ => by simp [execOp, hx]) h
theorem as_ {v : Value} (h : LS P q ops f R k rest n (upd fr d v) w0 M σ K) (hx : ev n fr x = v := by rfl) : LS P q ops f R k (⟨some d, .assign x, ty, pos, aft, none⟩ :: rest) n fr w0 M σ K :=
  LS.val rfl rfl (fun w _ => by simp [execOp, hx]) h
theorem mvI {kk : IntKind} {m : Int} (h : LS P q ops f R k rest n (upd fr d (.int kk m)) w0 M σ K) (hx : ev n fr x = .int kk m := by rfl) : LS P q ops f R k (⟨some d, .move x, ty, pos, aft, none⟩ :: rest) n fr w0 M σ K := mv h hx
theorem asI {kk : IntKind} {m : Int} (h : LS P q ops f R k rest n (upd fr d (.int kk m)) w0 M σ K) (hx : ev n fr x = .int kk m := by rfl) : LS P q ops f R k (⟨some d, .assign x, ty, pos, aft, none⟩ :: rest) n fr w0 M σ K := as_ h hx
theorem mvB {m : Bool} (h : LS P q ops f R k rest n (upd fr d (.bool m)) w0 M σ K) (hx : ev n fr x = .bool m := by rfl) : LS P q ops f R k (⟨some d, .move x, ty, pos, aft, none⟩ :: rest) n fr w0 M σ K := mv h hx
theorem asB {m : Bool} (h : LS P q ops f R k rest n (upd fr d (.bool m)) w0 M σ K) (hx : ev n fr x = .bool m := by rfl) : LS P q ops f R k (⟨some d, .assign x, ty, pos, aft, none⟩ :: rest) n fr w0 M σ K := as_ h hx
theorem mvS {m : ByteArray} (h : LS P q ops f R k rest n (upd fr d (.string m)) w0 M σ K) (hx : ev n fr x = .string m := by rfl) : LS P q ops f R k (⟨some d, .move x, ty, pos, aft, none⟩ :: rest) n fr w0 M σ K := mv h hx
theorem asS {m : ByteArray} (h : LS P q ops f R k rest n (upd fr d (.string m)) w0 M σ K) (hx : ev n fr x = .string m := by rfl) : LS P q ops f R k (⟨some d, .assign x, ty, pos, aft, none⟩ :: rest) n fr w0 M σ K := as_ h hx
theorem mvL {m : Option Addr} {l c : Nat} (h : LS P q ops f R k rest n (upd fr d (.slice m l c)) w0 M σ K) (hx : ev n fr x = .slice m l c := by rfl) : LS P q ops f R k (⟨some d, .move x, ty, pos, aft, none⟩ :: rest) n fr w0 M σ K := mv h hx
theorem asL {m : Option Addr} {l c : Nat} (h : LS P q ops f R k rest n (upd fr d (.slice m l c)) w0 M σ K) (hx : ev n fr x = .slice m l c := by rfl) : LS P q ops f R k (⟨some d, .assign x, ty, pos, aft, none⟩ :: rest) n fr w0 M σ K := as_ h hx
theorem mvP {m : Option Addr} (h : LS P q ops f R k rest n (upd fr d (.pointer m)) w0 M σ K) (hx : ev n fr x = .pointer m := by rfl) : LS P q ops f R k (⟨some d, .move x, ty, pos, aft, none⟩ :: rest) n fr w0 M σ K := mv h hx
theorem asP {m : Option Addr} (h : LS P q ops f R k rest n (upd fr d (.pointer m)) w0 M σ K) (hx : ev n fr x = .pointer m := by rfl) : LS P q ops f R k (⟨some d, .assign x, ty, pos, aft, none⟩ :: rest) n fr w0 M σ K := as_ h hx
theorem mvT {m : Array Value} (h : LS P q ops f R k rest n (upd fr d (.tuple m)) w0 M σ K) (hx : ev n fr x = .tuple m := by rfl) : LS P q ops f R k (⟨some d, .move x, ty, pos, aft, none⟩ :: rest) n fr w0 M σ K := mv h hx
theorem asE0  (h : LS P q ops f R k rest n (upd fr d (.nilIface)) w0 M σ K) (hx : ev n fr x = .nilIface := by rfl) : LS P q ops f R k (⟨some d, .assign x, ty, pos, aft, none⟩ :: rest) n fr w0 M σ K := as_ h hx
theorem exec_bin {w : World} {op : BinOp} {kk : IntKind} {a b : Int} {v : Value} {g : Option (Nat × Bool)} (hx : ev n fr x = .int kk a) (hy : ev n fr y = .int kk b) (h : (binOp op t (.int kk a) (.int kk b)).run P w = .ok v w) :
    (execOp (ev n fr) ⟨some d, .binOp op t x y t', ty, pos, aft, g⟩).run P w = .ok (.value v) w := by
  simp only [execOp, hx, hy, eqGuard, Sem.run_bind]
  split <;> simp [h]
theorem addI {kk : IntKind} {a b : Int} (h : LS P q ops f R k rest n (upd fr d (.int kk (kk.wrap (a + b)))) w0 M σ K) (hx : ev n fr x = .int kk a := by rfl) (hy : ev n fr y = .int kk b := by rfl) :
    LS P q ops f R k (⟨some d, .binOp .add t x y t', ty, pos, aft, none⟩ :: rest) n fr w0 M σ K :=
  LS.val rfl rfl (fun w _ => exec_bin hx hy (by simp [binOp, Op.intArith])) h
theorem subI {kk : IntKind} {a b : Int} (h : LS P q ops f R k rest n (upd fr d (.int kk (kk.wrap (a - b)))) w0 M σ K) (hx : ev n fr x = .int kk a := by rfl) (hy : ev n fr y = .int kk b := by rfl) :
    LS P q ops f R k (⟨some d, .binOp .sub t x y t', ty, pos, aft, none⟩ :: rest) n fr w0 M σ K :=
  LS.val rfl rfl (fun w _ => exec_bin hx hy (by simp [binOp, Op.intArith])) h
theorem mulI {kk : IntKind} {a b : Int} (h : LS P q ops f R k rest n (upd fr d (.int kk (kk.wrap (a * b)))) w0 M σ K) (hx : ev n fr x = .int kk a := by rfl) (hy : ev n fr y = .int kk b := by rfl) :
    LS P q ops f R k (⟨some d, .binOp .mul t x y t', ty, pos, aft, none⟩ :: rest) n fr w0 M σ K :=
  LS.val rfl rfl (fun w _ => exec_bin hx hy (by simp [binOp, Op.intArith])) h
theorem quoI {kk : IntKind} {a b : Int} (h : LS P q ops f R k rest n (upd fr d (.int kk (kk.wrap (a.tdiv b)))) w0 M σ K) (hx : ev n fr x = .int kk a := by rfl) (hy : ev n fr y = .int kk b := by rfl) (hb : b ≠ 0 := by omega) :
    LS P q ops f R k (⟨some d, .binOp .quo t x y t', ty, pos, aft, none⟩ :: rest) n fr w0 M σ K :=
  LS.val rfl rfl (fun w _ => exec_bin hx hy (by simp [binOp, Op.intDiv, hb])) h
theorem remI {kk : IntKind} {a b : Int} (h : LS P q ops f R k rest n (upd fr d (.int kk (a.tmod b))) w0 M σ K) (hx : ev n fr x = .int kk a := by rfl) (hy : ev n fr y = .int kk b := by rfl) (hb : b ≠ 0 := by omega) :
    LS P q ops f R k (⟨some d, .binOp .rem t x y t', ty, pos, aft, none⟩ :: rest) n fr w0 M σ K :=
  LS.val rfl rfl (fun w _ => exec_bin hx hy (by simp [binOp, Op.intDiv, hb])) h
theorem ltI {kk : IntKind} {a b : Int} (h : LS P q ops f R k rest n (upd fr d (.bool (decide (a < b)))) w0 M σ K) (hx : ev n fr x = .int kk a := by rfl) (hy : ev n fr y = .int kk b := by rfl) :
    LS P q ops f R k (⟨some d, .binOp .lss t x y t', ty, pos, aft, none⟩ :: rest) n fr w0 M σ K :=
  LS.val rfl rfl (fun w _ => exec_bin hx hy (by simp [binOp, Op.intCmp])) h
theorem leI {kk : IntKind} {a b : Int} (h : LS P q ops f R k rest n (upd fr d (.bool (decide (a ≤ b)))) w0 M σ K) (hx : ev n fr x = .int kk a := by rfl) (hy : ev n fr y = .int kk b := by rfl) :
    LS P q ops f R k (⟨some d, .binOp .leq t x y t', ty, pos, aft, none⟩ :: rest) n fr w0 M σ K :=
  LS.val rfl rfl (fun w _ => exec_bin hx hy (by simp [binOp, Op.intCmp])) h
theorem gtI {kk : IntKind} {a b : Int} (h : LS P q ops f R k rest n (upd fr d (.bool (decide (b < a)))) w0 M σ K) (hx : ev n fr x = .int kk a := by rfl) (hy : ev n fr y = .int kk b := by rfl) :
    LS P q ops f R k (⟨some d, .binOp .gtr t x y t', ty, pos, aft, none⟩ :: rest) n fr w0 M σ K :=
  LS.val rfl rfl (fun w _ => exec_bin hx hy (by simp [binOp, Op.intCmp])) h
theorem geI {kk : IntKind} {a b : Int} (h : LS P q ops f R k rest n (upd fr d (.bool (decide (b ≤ a)))) w0 M σ K) (hx : ev n fr x = .int kk a := by rfl) (hy : ev n fr y = .int kk b := by rfl) :
    LS P q ops f R k (⟨some d, .binOp .geq t x y t', ty, pos, aft, none⟩ :: rest) n fr w0 M σ K :=
  LS.val rfl rfl (fun w _ => exec_bin hx hy (by simp [binOp, Op.intCmp])) h
theorem eqI {kk : IntKind} {a b : Int} (h : LS P q ops f R k rest n (upd fr d (.bool (decide (a = b)))) w0 M σ K) (hx : ev n fr x = .int kk a := by rfl) (hy : ev n fr y = .int kk b := by rfl) :
    LS P q ops f R k (⟨some d, .binOp .eql t x y t', ty, pos, aft, none⟩ :: rest) n fr w0 M σ K :=
  LS.val rfl rfl (fun w _ => exec_bin hx hy (by simp [binOp, Op.intCmp]; rfl)) h
theorem neI {kk : IntKind} {a b : Int} (h : LS P q ops f R k rest n (upd fr d (.bool (!decide (a = b)))) w0 M σ K) (hx : ev n fr x = .int kk a := by rfl) (hy : ev n fr y = .int kk b := by rfl) :
    LS P q ops f R k (⟨some d, .binOp .neq t x y t', ty, pos, aft, none⟩ :: rest) n fr w0 M σ K :=
  LS.val rfl rfl (fun w _ => exec_bin hx hy (by simp [binOp, Op.intCmp]; rfl)) h
theorem exec_binS {w : World} {op : BinOp} {a b : ByteArray} {v : Value} {g : Option (Nat × Bool)} (hx : ev n fr x = .string a) (hy : ev n fr y = .string b) (h : (binOp op t (.string a) (.string b)).run P w = .ok v w) :
    (execOp (ev n fr) ⟨some d, .binOp op t x y t', ty, pos, aft, g⟩).run P w = .ok (.value v) w := by
  simp only [execOp, hx, hy, eqGuard, Sem.run_bind]
  split <;> simp [h]
theorem addS {a b : ByteArray} (h : LS P q ops f R k rest n (upd fr d (.string (a ++ b))) w0 M σ K) (hx : ev n fr x = .string a := by rfl) (hy : ev n fr y = .string b := by rfl) (hs : a.size + b.size ≤ 9223372036854775807 := by omega) :
    LS P q ops f R k (⟨some d, .binOp .add t x y t', ty, pos, aft, none⟩ :: rest) n fr w0 M σ K :=
  LS.val rfl rfl (fun w _ => exec_binS hx hy (by
    simp only [binOp, Op.stringOp]
    have e : IntKind.i64.max = 9223372036854775807 := rfl
    rw [if_neg (by rw [e]; omega)]; rfl)) h
theorem str_beq (a b : ByteArray) : (a.toList == b.toList) = decide (a = b) := by
  rw [Bool.eq_iff_iff]
  simp only [beq_iff_eq, decide_eq_true_eq, ByteArray.toList_eq]
  constructor
  · intro h; cases a; cases b; simp at h; subst h; rfl
  · intro h; rw [h]
theorem eqS {a b : ByteArray} (h : LS P q ops f R k rest n (upd fr d (.bool (decide (a = b)))) w0 M σ K) (hx : ev n fr x = .string a := by rfl) (hy : ev n fr y = .string b := by rfl) :
    LS P q ops f R k (⟨some d, .binOp .eql t x y t', ty, pos, aft, none⟩ :: rest) n fr w0 M σ K :=
  LS.val rfl rfl (fun w _ => exec_binS hx hy (by simp only [binOp, Op.stringOp, str_beq]; rfl)) h
theorem neS {a b : ByteArray} (h : LS P q ops f R k rest n (upd fr d (.bool (!decide (a = b)))) w0 M σ K) (hx : ev n fr x = .string a := by rfl) (hy : ev n fr y = .string b := by rfl) :
    LS P q ops f R k (⟨some d, .binOp .neq t x y t', ty, pos, aft, none⟩ :: rest) n fr w0 M σ K :=
  LS.val rfl rfl (fun w _ => exec_binS hx hy (by simp only [binOp, Op.stringOp, str_beq]; rfl)) h
def sLt (a b : ByteArray) : Bool := Op.bytesLess a.toList b.toList
theorem geS {a b : ByteArray} (h : LS P q ops f R k rest n (upd fr d (.bool (!sLt a b))) w0 M σ K) (hx : ev n fr x = .string a := by rfl) (hy : ev n fr y = .string b := by rfl) :
    LS P q ops f R k (⟨some d, .binOp .geq t x y t', ty, pos, aft, none⟩ :: rest) n fr w0 M σ K :=
  LS.val rfl rfl (fun w _ => exec_binS hx hy (by simp only [binOp, Op.stringOp]; rfl)) h
theorem not_ {b : Bool} (h : LS P q ops f R k rest n (upd fr d (.bool (!b))) w0 M σ K) (hx : ev n fr x = .bool b := by rfl) :
    LS P q ops f R k (⟨some d, .unOp .not t x, ty, pos, aft, none⟩ :: rest) n fr w0 M σ K :=
  LS.val rfl rfl (fun w _ => by simp [execOp, hx, Op.unary]) h
theorem pk {c : Bool} {v : Value} (h : LS P q ops f R k rest n (upd fr d v) w0 M σ K) (hx : ev n fr x = .bool c := by rfl) (hv : (bif c then ev n fr y else ev n fr z) = v := by rfl) :
    LS P q ops f R k (⟨some d, .pick x y z, ty, pos, aft, none⟩ :: rest) n fr w0 M σ K :=
  LS.val rfl rfl (fun w _ => by subst hv; cases c <;> simp [execOp, hx, asBool]) h
theorem cvI {kk kd : IntKind} {a : Int} [hs : TInt P t kk] [hd : TInt P t' kd] (h : LS P q ops f R k rest n (upd fr d (.int kd (kd.wrap a))) w0 M σ K) (hx : ev n fr x = .int kk a := by rfl) :
    LS P q ops f R k (⟨some d, .convert t t' x, ty, pos, aft, none⟩ :: rest) n fr w0 M σ K :=
  LS.val rfl rfl (fun w _ => by simp [execOp, hx, convert, run_underlying hs.eq, run_underlying hd.eq, Conv.intToInt]) h
theorem extr {l : List Value} {i : Nat} {v : Value} (h : LS P q ops f R k rest n (upd fr d v) w0 M σ K) (hx : ev n fr x = .tuple l.toArray := by rfl) (hv : nth l i = some v := by rfl) :
    LS P q ops f R k (⟨some d, .extract x i, ty, pos, aft, none⟩ :: rest) n fr w0 M σ K :=
  LS.val rfl rfl (fun w _ => by rw [nth_eq] at hv; simp [execOp, hx, Instr.extract, hv]) h
theorem nilck {a : Addr} (h : LS P q ops f R k rest n (upd fr d (.pointer (some a))) w0 M σ K) (hx : ev n fr x = .pointer (some a) := by rfl) :
    LS P q ops f R k (⟨some d, .nilCheck x, ty, pos, aft, none⟩ :: rest) n fr w0 M σ K :=
  LS.val rfl rfl (fun w _ => by simp [execOp, hx]) h
theorem zero_cells {zs : List Value} (hz : zeroOf P t = some zs) (w : World) : ∃ z, (zeroValue t).run P w = .ok z w ∧ z.cells = zs.toArray := by
  unfold zeroOf at hz
  cases hi : P.info? t with
  | none => simp [hi] at hz
  | some i =>
    cases hzz : i.zero with
    | none => simp [hi, hzz] at hz
    | some z =>
      simp [hi, hzz] at hz
      exact ⟨z, by simp [zeroValue, typeInfo, hi, hzz], by rw [← hz]⟩
theorem alloc_ {zs : List Value} [hz : TZero P t zs] (h : ∀ b, LS P false ops f R k rest n (upd fr d (.pointer (some ⟨b, 0, none⟩))) w0 M σ (blk b (.cells zs.toArray t (0, 0)) :: K)) :
    LS P false ops f R k (⟨some d, .alloc t, ty, pos, aft, none⟩ :: rest) n fr w0 M σ K :=
  LS.valW rfl rfl fun w hw => by
    obtain ⟨z, h1, h2⟩ := zero_cells hz.eq w
    refine ⟨_, _, _, _, ?_, hw.alloc (.cells zs.toArray t (0, 0)), h _⟩
    simp [execOp, Instr.alloc, h1, newVar, newRow, h2]
theorem box_ {v : Value} {cs : List Value} (h : ∀ b, LS P false ops f R k rest n (upd fr d (.pointer (some ⟨b, 0, none⟩))) w0 M σ (blk b (.cells cs.toArray t (0, 0)) :: K)) (hx : ev n fr x = v := by rfl) (hc : cellsL v = cs := by rfl) :
    LS P false ops f R k (⟨some d, .box t x, ty, pos, aft, none⟩ :: rest) n fr w0 M σ K :=
  LS.valW rfl rfl fun w hw => by
    refine ⟨_, _, _, _, ?_, hw.alloc (.cells cs.toArray t (0, 0)), h _⟩
    have : v.cells = cs.toArray := by rw [← hc, ← cells_toList]
    simp [execOp, hx, Instr.box, newVar, newRow, this]
theorem ld1 {b off : Nat} {cs : List Value} {T : TypeId} {v : Value} {put : HP → List HP} {K' : List HP} [ht : TOne P t] (h : LS P q ops f R k rest n (upd fr d v) w0 M σ K) (hx : ev n fr x = .pointer (some ⟨b, off, none⟩) := by rfl)
    (hf : FindB b K (.cells cs.toArray T (0, 0)) put K' := by infer_instance) (hv : nth cs off = some v := by rfl) :
    LS P q ops f R k (⟨some d, .load t x, ty, pos, aft, none⟩ :: rest) n fr w0 M σ K :=
  LS.val rfl rfl (fun w hw => by
    have hb := hw.get (i := hf)
    rw [nth_eq] at hv
    have := run_loadVar1 (P := P) (w := w) (b := b) ht.agg off ((cell_blk hb off).trans hv)
    simp [execOp, hx, Instr.loadAt, Instr.sureAddr, this]) h
theorem ldA (vs : List Value) {b off s : Nat} {cs : List Value} {T : TypeId} {put : HP → List HP} {K' : List HP} [ht : TAgg P t] [hs : TSz P t s] (h : LS P q ops f R k rest n (upd fr d (.agg vs.toArray)) w0 M σ K) (hx : ev n fr x = .pointer (some ⟨b, off, none⟩) := by rfl)
    (hf : FindB b K (.cells cs.toArray T (0, 0)) put K' := by infer_instance) (hv : takeAt cs off s = some vs := by rfl) :
    LS P q ops f R k (⟨some d, .load t x, ty, pos, aft, none⟩ :: rest) n fr w0 M σ K :=
  LS.val rfl rfl (fun w hw => by
    have hb := hw.get (i := hf)
    obtain ⟨hl, hc⟩ := takeAt_spec _ _ _ _ hv
    have := run_loadVarA (P := P) (w := w) (b := b) ht.agg hs.eq off hl (fun j hj => (cell_blk hb (off + j)).trans (hc j hj))
    simp [execOp, hx, Instr.loadAt, Instr.sureAddr, this]) h
theorem st (v : Value) (cs' : List Value) {b off s : Nat} {cs : List Value} {T : TypeId} {put : HP → List HP} {K' : List HP} [hs : TSz P t s]
    (h : LS P false ops f R k rest n fr w0 M σ (put (blk b (.cells cs'.toArray T (0, 0))))) (hx : ev n fr x = .pointer (some ⟨b, off, none⟩) := by rfl) (hf : FindB b K (.cells cs.toArray T (0, 0)) put K' := by infer_instance) (hy : ev n fr y = v := by rfl)
    (hl : Nat.beq (cellsL v).length s = true := by rfl) (hr : Nat.ble (off + s) cs.length = true := by rfl) (h1 : (cellsL v).all (·.oneCell') = true := by rfl) (hc : setAt cs off (cellsL v) = cs' := by rfl) :
    LS P false ops f R k (⟨none, .store t x y, ty, pos, aft, none⟩ :: rest) n fr w0 M σ K :=
  LS.skipW rfl rfl fun w hw => by
    have hb := hw.get (i := hf)
    have := run_storeVarL (P := P) hb hs.eq off (Nat.eq_of_beq_eq_true hl) (Nat.le_of_ble_eq_true hr) h1
    rw [hc] at this
    exact ⟨_, _, _, by simp [execOp, hx, hy, Instr.storeAt, Instr.sureAddr, this], hw.put (i := hf) _, h⟩
theorem fld {b off i o s : Nat} [hf : TFld P t i o s] (h : LS P q ops f R k rest n (upd fr d (.pointer (some ⟨b, off + o, none⟩))) w0 M σ K) (hx : ev n fr x = .pointer (some ⟨b, off, none⟩) := by rfl) :
    LS P q ops f R k (⟨some d, .fieldAddr t x i, ty, pos, aft, none⟩ :: rest) n fr w0 M σ K :=
  LS.val rfl rfl (fun w _ => by
    have h1 := hf.eq
    unfold fldOf at h1
    cases hu : P.underlying t with
    | none => simp [hu] at h1
    | some dd =>
      cases dd <;> simp [hu] at h1
      rename_i fs
      cases hi : fs[i]? with
      | none => simp [hi] at h1
      | some fd =>
        simp [hi] at h1
        obtain ⟨hs, ho⟩ := h1
        have hsz := run_sz (P := P) (t := fd.type) w hs
        simp [execOp, hx, Instr.fieldAt, run_underlying hu, hi, Instr.sureAddr, fieldPlace, hsz, ho, add_off]) h
theorem idx {b off len cap i s : Nat} {e : TypeId} [ht : TSlice P t e] [hs : TSz P e s] {kk : IntKind} {j : Int} (h : LS P q ops f R k rest n (upd fr d (.pointer (some ⟨b, off + i * s, none⟩))) w0 M σ K)
    (hx : ev n fr x = .slice (some ⟨b, off, none⟩) len cap := by rfl) (hy : ev n fr y = .int kk j := by rfl) (hj : j = (i : Int) := by rfl) (hi : i < len := by omega) :
    LS P q ops f R k (⟨some d, .indexAddr t x y, ty, pos, aft, none⟩ :: rest) n fr w0 M σ K :=
  LS.val rfl rfl (fun w _ => by
    subst hj
    simp [execOp, hx, hy, Instr.indexAt, asIntOf, run_underlying ht.eq, hi, run_sz w hs.eq, add_off]) h
theorem lenS {s : ByteArray} [ht : TStr P t] (h : LS P q ops f R k rest n (upd fr d (.int .i64 s.size)) w0 M σ K) (hx : ev n fr x = .string s := by rfl) :
    LS P q ops f R k (⟨some d, .call ⟨.builtin .len, #[x], #[t]⟩, ty, pos, aft, none⟩ :: rest) n fr w0 M σ K :=
  LS.val rfl rfl (fun w _ => by simp [execOp, resolve, invoke, builtin, hx, Builtin.len_, run_underlying ht.eq, goInt]) h
theorem lenL {a : Option Addr} {len cap : Nat} {e : TypeId} [ht : TSlice P t e] (h : LS P q ops f R k rest n (upd fr d (.int .i64 len)) w0 M σ K) (hx : ev n fr x = .slice a len cap := by rfl) :
    LS P q ops f R k (⟨some d, .call ⟨.builtin .len, #[x], #[t]⟩, ty, pos, aft, none⟩ :: rest) n fr w0 M σ K :=
  LS.val rfl rfl (fun w _ => by simp [execOp, resolve, invoke, builtin, hx, Builtin.len_, run_underlying ht.eq, goInt]) h
theorem rngS {s : ByteArray} [ht : TStr P t] (h : ∀ b, LS P false ops f R k rest n (upd fr d (.pointer (some ⟨b, 0, none⟩))) w0 M σ (blk b (.stringIter s 0) :: K)) (hx : ev n fr x = .string s := by rfl) :
    LS P false ops f R k (⟨some d, .range t x, ty, pos, aft, none⟩ :: rest) n fr w0 M σ K :=
  LS.valW rfl rfl fun w hw => by
    refine ⟨_, _, _, _, ?_, hw.alloc (.stringIter s 0), h _⟩
    simp [execOp, hx, run_range_string _ _ _ ht.eq]; rfl
theorem nxtS {b pos' : Nat} {s : ByteArray} {put : HP → List HP} {K' : List HP} {it : Operand} (hp : pos' < s.size)
    (h : LS P false ops f R k rest n (upd fr d (.tuple (List.toArray [.bool true, .int .i64 pos', .int .i32 ((Utf8.decode s pos').1 : Int)]))) w0 M σ (put (blk b (.stringIter s (pos' + (Utf8.decode s pos').2)))))
    (hx : ev n fr it = .pointer (some ⟨b, 0, none⟩) := by rfl) (hf : FindB b K (.stringIter s pos') put K' := by infer_instance) :
    LS P false ops f R k (⟨some d, .next it true, ty, pos, aft, none⟩ :: rest) n fr w0 M σ K :=
  LS.valW rfl rfl fun w hw => by
    have hb := hw.get (i := hf)
    refine ⟨_, _, _, _, ?_, hw.put (i := hf) _, h⟩
    simp only [execOp, hx, Instr.next, getObj, setObj, Sem.run_bind, Sem.run, hb, Result.andThen_ok, hp, if_true]
    cases e : Utf8.decode s pos' with
    | mk c wd => simp [goInt]
theorem nxtSEnd {b pos' : Nat} {s : ByteArray} {put : HP → List HP} {K' : List HP} {it : Operand} (hp : ¬ pos' < s.size)
    (h : LS P q ops f R k rest n (upd fr d (.tuple (List.toArray [.bool false]))) w0 M σ K) (hx : ev n fr it = .pointer (some ⟨b, 0, none⟩) := by rfl) (hf : FindB b K (.stringIter s pos') put K' := by infer_instance) :
    LS P q ops f R k (⟨some d, .next it true, ty, pos, aft, none⟩ :: rest) n fr w0 M σ K :=
  LS.val rfl rfl (fun w hw => by
    have hb := hw.get (i := hf)
    simp [execOp, hx, Instr.next, getObj, Sem.run, hb, hp]) h
def callable (P : Program) (g : FuncId) : Bool :=
  match P.funcs[g]? with
  | some fn => fn.name != "runtime.NumGoroutine" && fn.body.isSome
  | none => false
class Fun (P : Program) (g : FuncId) : Prop where eq : callable P g = true
theorem run_callFunc {g : FuncId} (h : callable P g = true) (args : Array Value) (w : World) : (callFunc g args).run P w = .ok (.enter g args) w := by
  unfold callable at h
  cases hf : P.funcs[g]? with
  | none => simp [hf] at h
  | some fn =>
    simp only [hf, Bool.and_eq_true, bne_iff_ne, ne_eq] at h
    obtain ⟨h1, h2⟩ := h
    cases hb : fn.body with
    | none => simp [hb] at h2
    | some c => simp [callFunc, hf, h1, hb]
theorem exec_call {g : FuncId} {xs : Array Operand} {ts : Array TypeId} {args : List Value} {dd : Option Tmp} {gd : Option (Nat × Bool)} (h : callable P g = true) (hx : xs.toList.map (ev n fr) = args) (w : World) :
    (execOp (ev n fr) ⟨dd, .call ⟨.value (.func g), xs, ts⟩, ty, pos, aft, gd⟩).run P w = .ok (.enter g args.toArray) w := by
  have e : xs.map (ev n fr) = args.toArray := by rw [← hx]; cases xs; simp
  simp [execOp, resolve, ev, Deferred.ofValue, invoke, run_callFunc h, e]
theorem callP {g : FuncId} {xs : Array Operand} {ts : Array TypeId} {args : List Value} {v : Value} [i : Fun P g]
    (h : LS P q ops f R k rest n (upd fr d v) w0 M σ K) (hx : xs.toList.map (ev n fr) = args := by rfl)
    (hc : ∀ w, Sat w0 M σ K w → Calls P g args.toArray w fun e w' => e = .returned v ∧ RowKit.Below w.heap.size w w') :
    LS P q ops f R k (⟨some d, .call ⟨.value (.func g), xs, ts⟩, ty, pos, aft, none⟩ :: rest) n fr w0 M σ K :=
  LS.enterP rfl rfl (fun w _ => exec_call i.eq hx w) (fun w hw => (hc w hw).mono fun _ _ ⟨he, hb⟩ => ⟨he, hw.ext hb⟩) h
theorem callN {g : FuncId} {xs : Array Operand} {ts : Array TypeId} {args : List Value} {Q : Value → PH → PH → Prop} [i : Fun P g]
    (h : ∀ v τ σ', Q v τ σ' → PH.le σ σ' → PH.le τ σ' → LS P false ops f R k rest n (upd fr d v) w0 M σ' K) (hx : xs.toList.map (ev n fr) = args := by rfl)
    (hc : ∀ w, Sat w0 M σ K w → Calls P g args.toArray w fun e w' => ∃ v, e = .returned v ∧ RowKit.Below w.heap.size w w' ∧ Q v (since w w') (grow σ w w')) :
    LS P false ops f R k (⟨some d, .call ⟨.value (.func g), xs, ts⟩, ty, pos, aft, none⟩ :: rest) n fr w0 M σ K :=
  LS.enterW rfl rfl (fun w _ => exec_call i.eq hx w) fun w hw => (hc w hw).mono fun _ _ ⟨v, he, hb, hq⟩ => ⟨v, _, K, he, hw.grow hb, h v _ _ hq (grow_le hw) (since_le _ _ _)⟩

end
end Go.JW
namespace Go.JW

def hv (lo hi : Nat) (g fr : Nat → Value) : Nat → Value := fun k => bif Nat.ble lo k && Nat.blt k hi then g k else fr k
structure Out (lo hi : Nat) (fr' fr : Nat → Value) : Prop where
  out : ∀ k, (Nat.ble lo k && Nat.blt k hi) = false → fr' k = fr k
theorem Out.refl (lo hi : Nat) (fr : Nat → Value) : Out lo hi fr fr := ⟨fun _ _ => rfl⟩
theorem Out.hv {lo hi : Nat} {g fr : Nat → Value} : Out lo hi (hv lo hi g fr) fr := ⟨fun k hk => by simp [JW.hv, hk]⟩
theorem Out.upd {lo hi d : Nat} {v : Value} {fr' fr : Nat → Value} (h : Out lo hi fr' fr) (hd : (Nat.ble lo d && Nat.blt d hi) = true := by rfl) : Out lo hi (upd fr' d v) fr :=
  ⟨fun k hk => by
    have : Nat.beq k d = false := by
      rw [Bool.eq_false_iff]; intro hb
      rw [Nat.eq_of_beq_eq_true hb, hd] at hk; cases hk
    simp [JW.upd, this, h.out k hk]⟩
theorem Out.hvIn {lo hi lo' hi' : Nat} {g X fr : Nat → Value} (h : Out lo hi X fr) (h1 : Nat.ble lo lo' = true := by rfl) (h2 : Nat.ble hi' hi = true := by rfl) : Out lo hi (JW.hv lo' hi' g X) fr :=
  ⟨fun k hk => by
    have e : (Nat.ble lo' k && Nat.blt k hi') = false := by
      have a1 := Nat.le_of_ble_eq_true h1
      have a2 := Nat.le_of_ble_eq_true h2
      rw [Bool.eq_false_iff]
      intro hb
      rw [Bool.and_eq_true, Nat.ble_eq, Nat.blt_eq] at hb
      have : (Nat.ble lo k && Nat.blt k hi) = true := by rw [Bool.and_eq_true, Nat.ble_eq, Nat.blt_eq]; omega
      rw [this] at hk; cases hk
    simp only [JW.hv, e, cond_false]; exact h.out k hk⟩
def upds : List (Nat × Value) → (Nat → Value) → (Nat → Value)
  | [], f => f
  | (d, v) :: l, f => upd (upds l f) d v
def Live (fr : Nat → Value) : List (Nat × Value) → Prop
  | [] => True
  | (d, v) :: l => fr d = v ∧ Live fr l
theorem Live.upds {fr : Nat → Value} : ∀ {l : List (Nat × Value)}, Live fr l → upds l fr = fr := by
  intro l
  induction l with
  | nil => intro _; rfl
  | cons p l ih => obtain ⟨d, v⟩ := p; rintro ⟨h1, h2⟩; simp only [JW.upds, ih h2]; exact upd_same h1
theorem Out.eq {lo hi : Nat} {fr' fr : Nat → Value} (h : Out lo hi fr' fr) : JW.hv lo hi fr' fr = fr' := by
  funext k
  simp only [JW.hv]
  cases e : (Nat.ble lo k && Nat.blt k hi) with
  | true => simp
  | false => simp [h.out k e]

theorem wrapEq {x : Int} (h1 : -9223372036854775808 ≤ x) (h2 : x ≤ 9223372036854775807) : IntKind.i64.wrap x = x := IntWalk.i64_in _ ⟨h1, h2⟩
theorem intV {k : IntKind} {x y : Int} (e : x = y) : Value.int k x = .int k y := by rw [e]
theorem retI {k : IntKind} {x y : Int} (e : x = y) : Ending.returned (.int k x) = .returned (.int k y) := by rw [e]
theorem retB {x y : Bool} (e : x = y) : Ending.returned (.bool x) = .returned (.bool y) := by rw [e]
class Take (A : HP) (K : List HP) (K' : outParam (List HP)) : Prop where
  get : ∀ {g : VH} {F : Nat → Prop}, SepIn g K F → SepIn g (A :: K') F
instance Take.tail {A B : HP} {K K' : List HP} [i : Take A K K'] : Take A (B :: K) (B :: K') where
  get h := SepIn.swap (SepIn.cons_sub (fun _ => i.get) h)
instance Take.head {A : HP} {K : List HP} : Take A (A :: K) K where
  get h := h
class Less (K K' : List HP) : Prop where
  get : ∀ {g : VH} {F : Nat → Prop}, SepIn g K F → SepIn g K' F
instance Less.nil {K : List HP} : Less K [] where
  get _ := trivial
instance Less.cons {A : HP} {K K1 K' : List HP} [i : Take A K K1] [j : Less K1 K'] : Less K (A :: K') where
  get h := SepIn.cons_sub (fun _ => j.get) (i.get h)
section
variable {P : Program} {q : Bool} {ops : Array Oper} {f : FuncId} {R : Ending → World → Prop} {k : List Item} {n : Nat} {fr : Nat → Value} {w0 : World} {M : Nat → Prop} {σ : PH} {K K' : List HP}
theorem RS.to (h : RS P f R k n fr w0 M σ K') (i : Less K K' := by infer_instance) : RS P f R k n fr w0 M σ K := ⟨fun w hw => h.out w (hw.weak fun _ => i.get)⟩
theorem LS.to {l : List Oper} (h : LS P false ops f R k l n fr w0 M σ K') (i : Less K K' := by infer_instance) : LS P false ops f R k l n fr w0 M σ K := ⟨fun w hw => h.out w (hw.weak fun _ => i.get)⟩
theorem Sat.to {w : World} (h : Sat w0 M σ K w) (i : Less K K' := by infer_instance) : Sat w0 M σ K' w := h.weak fun _ => i.get
theorem RS.loopF {X : Type} (lo hi : Nat) (I : X → Prop) (live : X → List (Nat × Value)) (σx : X → PH) (Kx : X → List HP) (μ : X → Nat) {c : Code} (x0 : X) (h0 : I x0) (hl : Live fr (live x0)) (hσ : σ = σx x0) (hK : Less K (Kx x0))
    (round : ∀ x g, I x → (∀ {fr' σ' K'} y, I y → μ y < μ x → Live fr' (live y) → Out lo hi fr' fr → Less K' (Kx y) → σ' = σx y → RS P f R (.inLoop c :: k) n fr' w0 M σ' K') →
      RS P f R (.code c :: .inLoop c :: k) n (upds (live x) (hv lo hi g fr)) w0 M (σx x) (Kx x)) :
    RS P f R (.code (.loop c) :: k) n fr w0 M σ K := by
  refine RS.to (K' := Kx x0) ?_ hK
  refine RS.loop (X := X × (Nat → Value)) (fun x => I x.1) (fun x => upds (live x.1) (hv lo hi x.2 fr)) (fun x => σx x.1) (fun x => Kx x.1) (fun x => μ x.1) (x0, fr) h0 ?_ hσ rfl ?_
  · simp only [(Out.refl lo hi fr).eq, hl.upds]
  · rintro ⟨x, g⟩ hI ih
    refine round x g hI fun {fr' _ _} y hy hlt hl' ho hk hs => RS.to ?_ hk
    subst hs
    have := ih (y, fr') hy hlt
    simpa only [ho.eq, hl'.upds] using this
theorem LS.cut {l : List Oper} (lo hi : Nat) (live : List (Nat × Value)) (hk : ∀ g, RS P f R k n (upds live (hv lo hi g fr)) w0 M σ K)
    (h : (∀ {fr'}, Live fr' live → Out lo hi fr' fr → RS P f R k n fr' w0 M σ K) → LS P q ops f R k l n fr w0 M σ K) : LS P q ops f R k l n fr w0 M σ K :=
  h fun {fr'} hl ho => by have := hk fr'; rwa [ho.eq, hl.upds] at this
theorem RS.cut {X : Type} {c : Item} (lo hi : Nat) (I : X → Prop) (live : X → List (Nat × Value)) (σx : X → PH) (Kx : X → List HP) (hk : ∀ x g, I x → RS P f R k n (upds (live x) (hv lo hi g fr)) w0 M (σx x) (Kx x))
    (h : (∀ {fr' σ' K'} x, I x → Live fr' (live x) → Out lo hi fr' fr → Less K' (Kx x) → σ' = σx x → RS P f R k n fr' w0 M σ' K') → RS P f R (c :: k) n fr w0 M σ K) : RS P f R (c :: k) n fr w0 M σ K :=
  h fun {fr' _ _} x hI hl ho hK hs => RS.to (by subst hs; have := hk x fr' hI; rwa [ho.eq, hl.upds] at this) hK
variable {rest : List Oper} {d : Nat} {ty : TypeId} {pos : String} {aft : Array Edge} {x y z : Operand} {t t' : TypeId}
theorem addN {a b : Int} (h : LS P q ops f R k rest n (upd fr d (.int .i64 (a + b))) w0 M σ K) (hx : ev n fr x = .int .i64 a := by rfl) (hy : ev n fr y = .int .i64 b := by rfl) (h1 : -9223372036854775808 ≤ a + b := by omega) (h2 : a + b ≤ 9223372036854775807 := by omega) :
    LS P q ops f R k (⟨some d, .binOp .add t x y t', ty, pos, aft, none⟩ :: rest) n fr w0 M σ K := addI (by rw [wrapEq h1 h2]; exact h) hx hy
theorem subN {a b : Int} (h : LS P q ops f R k rest n (upd fr d (.int .i64 (a - b))) w0 M σ K) (hx : ev n fr x = .int .i64 a := by rfl) (hy : ev n fr y = .int .i64 b := by rfl) (h1 : -9223372036854775808 ≤ a - b := by omega) (h2 : a - b ≤ 9223372036854775807 := by omega) :
    LS P q ops f R k (⟨some d, .binOp .sub t x y t', ty, pos, aft, none⟩ :: rest) n fr w0 M σ K := subI (by rw [wrapEq h1 h2]; exact h) hx hy
theorem cvN {kk : IntKind} {a : Int} [hs : TInt P t kk] [hd : TInt P t' .i64] (h : LS P q ops f R k rest n (upd fr d (.int .i64 a)) w0 M σ K) (hx : ev n fr x = .int kk a := by rfl) (h1 : -9223372036854775808 ≤ a := by omega) (h2 : a ≤ 9223372036854775807 := by omega) :
    LS P q ops f R k (⟨some d, .convert t t' x, ty, pos, aft, none⟩ :: rest) n fr w0 M σ K := cvI (by rw [wrapEq h1 h2]; exact h) hx
theorem boolV {a b : Bool} (h : a = b) : Value.bool a = .bool b := by rw [h]
end
end Go.JW
namespace Go.JW

def PH.cell (σ : PH) (b off : Nat) : Option Value :=
  match σ b with
  | some (.cells c _ _) => c[off]?
  | _ => none
theorem PH.cell_mono {σ σ' : PH} (h : PH.le σ σ') {b off : Nat} {v : Value} (hc : σ.cell b off = some v) : σ'.cell b off = some v := by
  unfold PH.cell at *
  cases e : σ b with
  | none => simp [e] at hc
  | some o => rw [h b o e]; simpa [e] using hc
theorem PH.cell_world {w : World} {b off : Nat} : (hp w).cell b off = w.cell? ⟨b, off, none⟩ := by
  simp only [PH.cell, hp, World.cell?]
  cases w.heap[b]? with
  | none => rfl
  | some o => cases o <;> simp
theorem PH.cells_mono {σ σ' : PH} (h : PH.le σ σ') {b off n : Nat} {vs : List Value} (hl : vs.length = n) (hc : ∀ j, j < n → σ.cell b (off + j) = vs[j]?) : ∀ j, j < n → σ'.cell b (off + j) = vs[j]? := by
  intro j hj
  have h1 := hc j hj
  rw [List.getElem?_eq_getElem (by omega)] at h1 ⊢
  exact PH.cell_mono h h1

class Rep (α : Type) where
  sz : Nat
  rep : PH → List Value → α → Prop
  len : ∀ {σ : PH} {cs : List Value} {a : α}, rep σ cs a → cs.length = sz
  one : ∀ {σ : PH} {cs : List Value} {a : α}, rep σ cs a → cs.all (·.oneCell') = true
  mono : ∀ {σ σ' : PH} {cs : List Value} {a : α}, rep σ cs a → PH.le σ σ' → rep σ' cs a
abbrev I64 (n : Int) : Prop := -9223372036854775808 ≤ n ∧ n ≤ 9223372036854775807
instance : Rep Int where
  sz := 1
  rep _ cs n := cs = [.int .i64 n] ∧ I64 n
  len h := by rw [h.1]; rfl
  one h := by rw [h.1]; rfl
  mono h _ := h
instance : Rep Bool where
  sz := 1
  rep _ cs n := cs = [.bool n]
  len h := by rw [h]; rfl
  one h := by rw [h]; rfl
  mono h _ := h
instance : Rep ByteArray where
  sz := 1
  rep _ cs s := cs = [.string s] ∧ s.size ≤ 140737488355328
  len h := by rw [h.1]; rfl
  one h := by rw [h.1]; rfl
  mono h _ := h
def RowAt {α : Type} [Rep α] (σ : PH) (b o : Nat) (l : List α) : Prop :=
  ∀ i (h : i < l.length), ∃ vs, (∀ j, j < Rep.sz α → σ.cell b (o + i * Rep.sz α + j) = vs[j]?) ∧ Rep.rep σ vs l[i]
def RepL {α : Type} [Rep α] (σ : PH) (v : Value) (l : List α) : Prop :=
  l.length ≤ 140737488355328 ∧ ∃ a cap, v = .slice a l.length cap ∧ l.length ≤ cap ∧ (l ≠ [] → ∃ b o, a = some ⟨b, o, none⟩ ∧ RowAt σ b o l)
theorem RowAt.mono {α : Type} [Rep α] {σ σ' : PH} {b o : Nat} {l : List α} (h : RowAt σ b o l) (hs : PH.le σ σ') : RowAt σ' b o l := by
  intro i hi
  obtain ⟨vs, h1, h2⟩ := h i hi
  exact ⟨vs, PH.cells_mono hs (Rep.len h2) h1, Rep.mono h2 hs⟩
theorem RepL.mono {α : Type} [Rep α] {σ σ' : PH} {v : Value} {l : List α} (h : RepL σ v l) (hs : PH.le σ σ') : RepL σ' v l := by
  obtain ⟨h0, a, cap, h1, h2, h3⟩ := h
  exact ⟨h0, a, cap, h1, h2, fun hn => let ⟨b, o, e, r⟩ := h3 hn; ⟨b, o, e, r.mono hs⟩⟩
instance {α : Type} [Rep α] : Rep (List α) where
  sz := 1
  rep σ cs l := ∃ v, cs = [v] ∧ RepL σ v l
  len h := by obtain ⟨v, rfl, _⟩ := h; rfl
  one h := by obtain ⟨v, rfl, _, a, cap, rfl, _⟩ := h; rfl
  mono h hs := let ⟨v, e, r⟩ := h; ⟨v, e, r.mono hs⟩
theorem RepL.nil {α : Type} [Rep α] (σ : PH) (a : Option Addr) (cap : Nat) : RepL σ (.slice a 0 cap) ([] : List α) := ⟨by simp, a, cap, rfl, by simp, fun h => absurd rfl h⟩
theorem RepL.form {α : Type} [Rep α] {σ : PH} {v : Value} {l : List α} (h : RepL σ v l) : ∃ a cap, v = .slice a l.length cap := let ⟨_, a, cap, e, _⟩ := h; ⟨a, cap, e⟩
theorem RepL.addr {α : Type} [Rep α] {σ : PH} {a : Option Addr} {n cap : Nat} {l : List α} (h : RepL σ (.slice a n cap) l) (hn : l ≠ []) : ∃ b o, a = some ⟨b, o, none⟩ ∧ RowAt σ b o l := by
  obtain ⟨_, a', cap', e, _, r⟩ := h
  injection e with e1 e2 e3
  subst e1; exact r hn
theorem RepL.len {α : Type} [Rep α] {σ : PH} {a : Option Addr} {n cap : Nat} {l : List α} (h : RepL σ (.slice a n cap) l) : n = l.length := by
  obtain ⟨_, a', cap', e, _, r⟩ := h
  injection e
theorem RepL.cap {α : Type} [Rep α] {σ : PH} {a : Option Addr} {n cap : Nat} {l : List α} (h : RepL σ (.slice a n cap) l) : l.length ≤ cap := by
  obtain ⟨_, a', cap', e, hc, r⟩ := h
  injection e with e1 e2 e3; subst e3; exact hc
theorem RowAt.str {σ : PH} {b o : Nat} {l : List ByteArray} (h : RowAt σ b o l) (i : Nat) (hi : i < l.length) : σ.cell b (o + i * 1) = some (.string l[i]) ∧ l[i].size ≤ 140737488355328 := by
  obtain ⟨vs, h1, h2, h3⟩ := h i hi
  have := h1 0 (by show 0 < 1; omega)
  rw [h2] at this
  exact ⟨this, h3⟩
theorem RowAt.int {σ : PH} {b o : Nat} {l : List Int} (h : RowAt σ b o l) (i : Nat) (hi : i < l.length) : σ.cell b (o + i * 1) = some (.int .i64 l[i]) ∧ I64 l[i] := by
  obtain ⟨vs, h1, h2, h3⟩ := h i hi
  have := h1 0 (by show 0 < 1; omega)
  rw [h2] at this
  exact ⟨this, h3⟩

section
variable {P : Program} {q : Bool} {ops : Array Oper} {f : FuncId} {R : Ending → World → Prop} {k : List Item} {n : Nat} {fr : Nat → Value} {w0 : World} {M : Nat → Prop} {σ : PH} {K : List HP}
variable {rest : List Oper} {d : Nat} {ty : TypeId} {pos : String} {aft : Array Edge} {x y z : Operand} {t t' : TypeId}
theorem Sat.cell {w : World} (hw : Sat w0 M σ K w) {b off : Nat} {v : Value} (h : σ.cell b off = some v) : w.cell? ⟨b, off, none⟩ = some v := by
  rw [← PH.cell_world]; exact PH.cell_mono hw.imm h
theorem ldS {b off : Nat} {v : Value} [ht : TOne P t] (hc : σ.cell b off = some v) (h : LS P q ops f R k rest n (upd fr d v) w0 M σ K) (hx : ev n fr x = .pointer (some ⟨b, off, none⟩) := by rfl) :
    LS P q ops f R k (⟨some d, .load t x, ty, pos, aft, none⟩ :: rest) n fr w0 M σ K :=
  LS.val rfl rfl (fun w hw => by
    have := run_loadVar1 (P := P) (w := w) (b := b) ht.agg off (hw.cell hc)
    simp [execOp, hx, Instr.loadAt, Instr.sureAddr, this]) h
theorem ldSA {b off s : Nat} {vs : List Value} [ht : TAgg P t] [hs : TSz P t s] (hl : vs.length = s) (hc : ∀ j, j < s → σ.cell b (off + j) = vs[j]?) (h : LS P q ops f R k rest n (upd fr d (.agg vs.toArray)) w0 M σ K) (hx : ev n fr x = .pointer (some ⟨b, off, none⟩) := by rfl) :
    LS P q ops f R k (⟨some d, .load t x, ty, pos, aft, none⟩ :: rest) n fr w0 M σ K :=
  LS.val rfl rfl (fun w hw => by
    have := run_loadVarA (P := P) (w := w) (b := b) ht.agg hs.eq off hl (fun j hj => by
      have h1 := hc j hj
      rw [List.getElem?_eq_getElem (by omega)] at h1 ⊢
      exact hw.cell h1)
    simp [execOp, hx, Instr.loadAt, Instr.sureAddr, this]) h
end
end Go.JW
namespace Go.JW

def plOf (P : Program) (t : TypeId) : Option (List (Nat × Nat)) :=
  match P.underlying t with
  | some (.struct fs) => fs.toList.mapM fun f => (szOf P f.type).map fun s => (f.offset, s)
  | _ => none
class TPl (P : Program) (t : TypeId) (pl : outParam (List (Nat × Nat))) : Prop where eq : plOf P t = some pl
def nthP : List (Nat × Nat) → Nat → Option (Nat × Nat)
  | [], _ => none
  | p :: _, 0 => some p
  | _ :: l, i + 1 => nthP l i
theorem nthP_eq (l : List (Nat × Nat)) (i : Nat) : nthP l i = l[i]? := by
  induction l generalizing i with
  | nil => simp [nthP]
  | cons v l ih => cases i <;> simp [nthP, ih]
def fillL (place : Nat → Option (Nat × Nat)) (cells : List Value) : List (Nat × Value) → Option (List Value)
  | [] => some cells
  | (i, v) :: rest =>
    match place i with
    | none => none
    | some (off, size) => bif Nat.beq (cellsL v).length size && Nat.ble (off + (cellsL v).length) cells.length then fillL place (setAt cells off (cellsL v)) rest else none
theorem foldl_set (off : Nat) : ∀ (vs : List Value) (j : Nat) (cs : Array Value), (vs.zipIdx j).foldl (fun (cs : Array Value) (p : Value × Nat) => cs.setIfInBounds (off + p.2) p.1) cs = (setAt cs.toList (off + j) vs).toArray := by
  intro vs
  induction vs with
  | nil => intro j cs; simp [setAt_nil]
  | cons v vs ih =>
    intro j cs
    rw [List.zipIdx_cons, List.foldl_cons, ih, setAt_cons]
    simp [Nat.add_assoc]
theorem fill_list (place : Nat → Option (Nat × Nat)) : ∀ (parts : List (Nat × Value)) (cells cs : List Value), fillL place cells parts = some cs → Instr.fill place cells.toArray parts = some cs.toArray := by
  intro parts
  induction parts with
  | nil => intro cells cs h; simp [fillL] at h; subst h; rfl
  | cons p parts ih =>
    obtain ⟨i, v⟩ := p
    intro cells cs h
    simp only [fillL] at h
    cases hp : place i with
    | none => simp [hp] at h
    | some q =>
      obtain ⟨off, size⟩ := q
      simp only [hp] at h
      cases hc : (Nat.beq (cellsL v).length size && Nat.ble (off + (cellsL v).length) cells.length) with
      | false => simp [hc] at h
      | true =>
        simp only [hc, cond_true] at h
        rw [Bool.and_eq_true, Nat.ble_eq] at hc
        have h1 := Nat.eq_of_beq_eq_true hc.1
        have hz : v.cells.size = (cellsL v).length := by rw [← cells_toList]; simp
        simp only [Instr.fill, hp]
        rw [if_neg (by rw [hz]; simp; omega)]
        have e : (v.cells.zipIdx.foldl (fun cs (c, j) => cs.setIfInBounds (off + j) c) cells.toArray) = (setAt cells off (cellsL v)).toArray := by
          have := foldl_set off (cellsL v) 0 cells.toArray
          rw [← Array.foldl_toList]
          rw [Array.toList_zipIdx, cells_toList]
          simpa using this
        rw [e]
        exact ih _ _ h

section
variable {P : Program}
theorem run_places {fs : Array Field} {pl : List (Nat × Nat)} (w : World) (h : fs.toList.mapM (fun f => (szOf P f.type).map fun s => (f.offset, s)) = some pl) :
    (fs.mapM fun f => do pure (f.offset, ← sizeOf f.type) : Sem _).run P w = .ok pl.toArray w := by
  have key : ∀ (l : List Field) (pl : List (Nat × Nat)), l.mapM (fun f => (szOf P f.type).map fun s => (f.offset, s)) = some pl → (l.mapM fun f => do pure (f.offset, ← sizeOf f.type) : Sem _).run P w = .ok pl w := by
    intro l
    induction l with
    | nil => intro pl h; simp at h; subst h; simp
    | cons f l ih =>
      intro pl h
      rw [List.mapM_cons] at h
      cases hs : szOf P f.type with
      | none => simp [hs] at h
      | some s =>
        cases hm : l.mapM (fun f => (szOf P f.type).map fun s => (f.offset, s)) with
        | none => simp [hs, hm] at h
        | some pl' =>
          simp [hs, hm] at h
          subst h
          have := ih pl' hm
          simp at this
          simp [List.mapM_cons, run_sz w hs, this]
  have := key fs.toList pl h
  rw [Array.mapM_eq_mapM_toList]
  show (Bind.bind _ _ : Sem _).run P w = _
  rw [Sem.run_bind, this]
  rfl
theorem run_build {t : TypeId} {pl : List (Nat × Nat)} {zs cs : List Value} {parts : List (Nat × Value)} (w : World) (hp : plOf P t = some pl) (hz : zeroOf P t = some zs) (h : fillL (nthP pl) zs parts = some cs) :
    (Instr.build t parts.toArray).run P w = .ok (.agg cs.toArray) w := by
  unfold plOf at hp
  cases hu : P.underlying t with
  | none => simp [hu] at hp
  | some dd =>
    cases dd <;> simp only [hu] at hp <;> try cases hp
    rename_i fs
    obtain ⟨z, h1, h2⟩ := zero_cells hz w
    have h3 := run_places w hp
    have e : (fun i => pl.toArray[i]?) = nthP pl := by funext i; rw [nthP_eq]; simp
    have h4 := fill_list (nthP pl) parts zs cs h
    simp only [Instr.build, Sem.run_bind, h1, Result.andThen_ok, run_underlying hu, h3, h2]
    rw [e, h4]
    rfl
end
def catL (s : Nat) : List Value → Option (List Value)
  | [] => some []
  | v :: l => bif Nat.beq (cellsL v).length s then (catL s l).map (cellsL v ++ ·) else none
theorem setAt_mid : ∀ (a b c d : List Value), b.length = d.length → setAt (a ++ b ++ c) a.length d = a ++ d ++ c := by
  intro a
  induction a with
  | nil =>
    intro b c d
    induction b generalizing d with
    | nil => intro h; cases d with
      | nil => simp [setAt_nil]
      | cons _ _ => simp at h
    | cons x b ih =>
      intro h
      cases d with
      | nil => simp at h
      | cons y d =>
        have := ih d (by simpa using h)
        simp only [List.nil_append, List.length_nil] at this
        simp only [List.nil_append, List.cons_append, List.length_nil, setAt, this]
  | cons x a ih =>
    intro b c d h
    have := ih b c d h
    cases d with
    | nil => simp [setAt_nil] at *; exact h
    | cons y d => simp only [List.cons_append, List.length_cons, setAt] at this ⊢; rw [this]
theorem fill_cat (s : Nat) : ∀ (l : List Value) (cs : List Value) (i : Nat) (a b : List Value), catL s l = some cs → a.length = i * s → b.length = l.length * s →
    fillL (fun i => some (i * s, s)) (a ++ b) (l.zipIdx i |>.map fun p => (p.2, p.1)) = some (a ++ cs) := by
  intro l
  induction l with
  | nil => intro cs i a b h ha hb; simp [catL] at h; subst h; simp at hb; subst hb; simp [fillL]
  | cons v l ih =>
    intro cs i a b h ha hb
    simp only [catL] at h
    cases hc : Nat.beq (cellsL v).length s with
    | false => simp [hc] at h
    | true =>
      simp only [hc, cond_true, Option.map_eq_some_iff] at h
      obtain ⟨cs', h1, rfl⟩ := h
      have hl := Nat.eq_of_beq_eq_true hc
      simp only [List.length_cons, Nat.succ_mul] at hb
      have e1 : b = b.take s ++ b.drop s := (List.take_append_drop s b).symm
      have ht : (b.take s).length = s := by rw [List.length_take]; omega
      have hd : (b.drop s).length = l.length * s := by rw [List.length_drop]; omega
      simp only [List.zipIdx_cons, List.map_cons, fillL]
      have hc2 : (Nat.beq (cellsL v).length s && Nat.ble (i * s + (cellsL v).length) (a ++ b).length) = true := by
        rw [Bool.and_eq_true, Nat.ble_eq]; refine ⟨hc, ?_⟩; rw [List.length_append]; omega
      rw [hc2, cond_true, ← ha, e1, ← List.append_assoc, setAt_mid a (b.take s) (b.drop s) (cellsL v) (by omega)]
      have := ih cs' (i + 1) (a ++ cellsL v) (b.drop s) h1 (by rw [List.length_append, Nat.succ_mul]; omega) hd
      rw [this, List.append_assoc]
theorem run_buildSlice {P : Program} {t e : TypeId} {s : Nat} {zs cs vs : List Value} {parts : List (Nat × Value)} (w : World) (ht : P.underlying t = some (.slice e)) (hs : szOf P e = some s) (hz : zeroOf P e = some zs) (hp : parts = vs.zipIdx.map fun p => (p.2, p.1))
    (hc : catL s vs = some cs) (hb : vs.length * s ≤ 16777216) : (Instr.buildSlice t vs.length parts.toArray).run P w = .ok (.slice (some ⟨w.heap.size, 0, none⟩) vs.length vs.length) (w.alloc (.cells cs.toArray e)) := by
  subst hp
  obtain ⟨z, h1, h2⟩ := zero_cells hz w
  have key : ∀ zc : Array Value, Instr.fill (fun i => some (i * s, s)) ((Array.range (vs.length * s)).map (fun x => zc[x % zc.size]!)) (vs.zipIdx.map fun p => (p.2, p.1)) = some cs.toArray := by
    intro zc
    have hl := fill_cat s vs cs 0 [] ((Array.range (vs.length * s)).map (fun x => zc[x % zc.size]!)).toList hc (by simp) (by simp)
    have := fill_list _ _ _ _ hl
    rwa [List.nil_append, Array.toArray_toList] at this
  have hb' : ¬ (16777216 < vs.length * s) := by omega
  by_cases h0 : vs.length * s = 0
  · have := key #[]
    simp only [h0] at this
    simp at this
    simp [Instr.buildSlice, run_underlying ht, run_sz w hs, h0, this, newRow]
  · have := key z.cells
    simp [Instr.buildSlice, run_underlying ht, run_sz w hs, hb', h0, h1, this, newRow]

def rowH (e : TypeId) (s : Nat) (v : Value) (m : Nat) (cs : List Value) : HP :=
  ⟨fun g F => cs.length = m * s ∧ cs.all (·.oneCell') = true ∧ ∃ a cap, v = .slice a m cap ∧ m ≤ cap ∧ cap ≤ 9223372036854775807 ∧ ((m = 0 ∧ cap = 0) ∨ ∃ b c0, a = some ⟨b, 0, none⟩ ∧ F b ∧ g.cur b = some (.cells (List.toArray c0) e (0, 0)) ∧ cap * s ≤ c0.length ∧ c0.take (m * s) = cs),
   fun ⟨h1, h0, a, cap, h2, h3, h4, h5⟩ hg _ => ⟨h1, h0, a, cap, h2, h3, h4, h5.elim .inl fun ⟨b, c0, h6, h7, h8, h9⟩ => .inr ⟨b, c0, h6, h7, by rw [hg _ h7]; exact h8, h9⟩⟩⟩
class FindR (v : Value) (K : List HP) (e s m : outParam Nat) (cs : outParam (List Value)) (put : outParam (HP → List HP)) (K' : outParam (List HP)) : Prop where
  get : ∀ {g : VH} {F : Nat → Prop}, SepIn g K F → SepIn g (rowH e s v m cs :: K') F
  set : ∀ {A : HP} {g : VH} {F : Nat → Prop}, SepIn g (A :: K') F → SepIn g (put A) F
instance FindR.tail {v : Value} {K : List HP} {e s m : Nat} {cs : List Value} {put : HP → List HP} {K' : List HP} {B : HP} [i : FindR v K e s m cs put K'] : FindR v (B :: K) e s m cs (fun A => B :: put A) (B :: K') where
  get h := SepIn.swap (SepIn.cons_sub (fun _ => i.get) h)
  set h := SepIn.cons_sub (fun _ => i.set) (SepIn.swap h)
instance FindR.head {v : Value} {K : List HP} {e s m : Nat} {cs : List Value} : FindR v (rowH e s v m cs :: K) e s m cs (fun A => A :: K) K where
  get h := h
  set h := h
section
variable {P : Program}
theorem run_append_roomL {w : World} {t tx ty e : TypeId} {s b m cap k : Nat} {c0 news : List Value} {x : Value} (ht : P.underlying t = some (.slice e)) (hs : szOf P e = some s) (hb : w.heap[b]? = some (.cells c0.toArray e (0, 0))) (hx : Src P s tx x k news w)
    (hroom : m + k ≤ cap) (hc : cap * s ≤ c0.length) :
    (Builtin.append_ #[t, tx] ty #[.slice (some ⟨b, 0, none⟩) m cap, x]).run P w = .ok (.slice (some ⟨b, 0, none⟩) (m + k) cap) { w with heap := w.heap.setIfInBounds b (.cells (setAt c0 (m * s) news).toArray e (0, 0)) } := by
  have hl : (m + k) * s ≤ cap * s := Nat.mul_le_mul_right s hroom
  rw [Nat.add_mul] at hl
  have hst := run_storeCellsL (P := P) (b := b) (T := e) (m * s) news 0 w c0 hb (by rw [hx.newsLen]; omega) (by rw [List.all_eq_true]; exact hx.one)
  have hsz := run_sz (P := P) w hs
  rcases hx.kind with ⟨e', hk⟩ | hk <;> simp [Builtin.append_, run_underlying ht, run_underlying hk, hsz, hx.len, hroom, hx.cells, add_off, hst]
theorem setAt_take : ∀ (l : List Value) (i : Nat) (vs : List Value), i + vs.length ≤ l.length → (setAt l i vs).take (i + vs.length) = l.take i ++ vs := by
  intro l
  induction l with
  | nil => intro i vs h; cases vs with
    | nil => simp [setAt]
    | cons v vs => simp at h
  | cons u l ih =>
    intro i vs h
    cases vs with
    | nil => simp [setAt]
    | cons v vs =>
      cases i with
      | zero => have := ih 0 vs (by simp at h ⊢; omega); simp [setAt] at this ⊢; exact this
      | succ i =>
        have := ih i (v :: vs) (by simp at h ⊢; omega)
        simp only [setAt, List.length_cons, List.take_succ_cons, List.cons_append] at this ⊢
        rw [show i + 1 + (vs.length + 1) = (i + (vs.length + 1)) + 1 by omega, List.take_succ_cons, this]
end
section
variable {w0 w : World} {M : Nat → Prop} {σ : PH} {K K' : List HP}
theorem Sat.getR (h : Sat w0 M σ K w) {v : Value} {e s m : Nat} {cs : List Value} {put : HP → List HP} [i : FindR v K e s m cs put K'] : ∃ F, (rowH e s v m cs).h ⟨σ, hp w⟩ F ∧ (∀ b, F b → b < w.heap.size ∧ σ b = none) := by
  obtain ⟨F1, h1, h2, _⟩ := i.get h.sep
  exact ⟨F1, h1, h2⟩
theorem Sat.putG {A : HP} (h : Sat w0 M σ (A :: K') w) {B : HP} {b : Nat} {o' : Obj} (hA : ∀ F, A.h ⟨σ, hp w⟩ F → (∀ x, F x → x < w.heap.size ∧ σ x = none) → F b ∧ B.h ⟨σ, fun x => if x = b then some o' else hp w x⟩ F) :
    Sat w0 M σ (B :: K') { w with heap := w.heap.setIfInBounds b o' } := by
  obtain ⟨F1, h1, h2, h3⟩ := h.sep
  obtain ⟨hF, hB⟩ := hA F1 h1 h2
  have hb : b < w.heap.size := (h2 b hF).1
  have hs : ({ w with heap := w.heap.setIfInBounds b o' } : World).heap.size = w.heap.size := by simp
  refine ⟨h.os, h.tape, h.output, by rw [hs]; exact h.size, h.keep, fun x y hx => ?_, F1, ?_, ?_, ?_⟩
  · rw [hp_set w b o' hb]
    have hne : x ≠ b := fun e => by subst e; have := (h2 x hF).2; rw [this] at hx; exact absurd hx (by simp)
    simp only [if_neg hne]; exact h.imm x y hx
  · rw [hp_set w b o' hb]; exact hB
  · rw [hs]; exact h2
  · rw [hs]
    refine h3.here fun x hx => ?_
    have hne : x ≠ b := fun e => hx.2 (e ▸ hF)
    rw [hp_set w b o' hb]; simp [hne]
theorem Sat.one {A : HP} (h : Sat w0 M σ (A :: K') w) {B : HP} (hA : ∀ F, A.h ⟨σ, hp w⟩ F → B.h ⟨σ, hp w⟩ F) : Sat w0 M σ (B :: K') w :=
  ⟨h.os, h.tape, h.output, h.size, h.keep, h.imm, let ⟨F1, h1, h2, h3⟩ := h.sep; ⟨F1, hA F1 h1, h2, h3⟩⟩
end
section
variable {P : Program} {q : Bool} {ops : Array Oper} {f : FuncId} {R : Ending → World → Prop} {k : List Item} {n : Nat} {fr : Nat → Value} {w0 : World} {M : Nat → Prop} {σ : PH} {K K' : List HP}
variable {rest : List Oper} {d : Nat} {ty : TypeId} {pos : String} {aft : Array Edge} {x y z : Operand} {t t' : TypeId}
theorem RS.nilRow (e s : Nat) (h : RS P f R k n fr w0 M σ (rowH e s (.slice none 0 0) 0 [] :: K)) : RS P f R k n fr w0 M σ K :=
  ⟨fun w hw => h.out w (hw.weak fun F hF => ⟨fun _ => False, ⟨by simp, rfl, none, 0, rfl, by omega, by omega, .inl ⟨rfl, rfl⟩⟩, fun _ h => h.elim, hF.mono fun b hb => ⟨hb, fun h => h⟩⟩)⟩
theorem appRun {w : World} {e s by_ m kk : Nat} {zs cs news : List Value} {v vy : Value} {put : HP → List HP} [ht : TSlice P t e] [hs : TSz P e s] [hby : TBytes P e by_] [hz : TZero P e zs] [hf : FindR v K e s m cs put K'] (hw : Sat w0 M σ K w) (hsrc : Src P s t' vy kk news w)
    (hzs : Nat.beq zs.length s = true) (hb : (m + kk) * by_ ≤ 140737488355328) (hm : m + kk ≤ 140737488355328) :
    ∃ v' w', (Builtin.append_ #[t, t'] ty #[v, vy]).run P w = .ok v' w' ∧ Sat w0 M σ (put (rowH e s v' (m + kk) (cs ++ news))) w' := by
  have hS := hw.weak fun _ => hf.get
  obtain ⟨F, ⟨h1, h1c, a, cap, rfl, h2, h3, h4⟩, hF⟩ := hw.getR (i := hf)
  have hone : (cs ++ news).all (·.oneCell') = true := by rw [List.all_append, h1c, Bool.true_and, List.all_eq_true]; exact hsrc.one
  have hlen : (cs ++ news).length = (m + kk) * s := by rw [List.length_append, h1, hsrc.newsLen, Nat.add_mul]
  by_cases h00 : m = 0 ∧ kk = 0 ∧ cap = 0
  · obtain ⟨rfl, rfl, rfl⟩ := h00
    have hnews : news = [] := List.eq_nil_of_length_eq_zero (by rw [hsrc.newsLen]; simp)
    have hcs : cs = [] := List.eq_nil_of_length_eq_zero (by rw [h1]; simp)
    subst hnews; subst hcs
    refine ⟨.slice a 0 0, w, ?_, ?_⟩
    · have hsz := run_sz (P := P) w hs.eq
      cases a <;> rcases hsrc.kind with ⟨e', hk⟩ | hk <;> simp [Builtin.append_, run_underlying ht.eq, run_underlying hk, hsz, hsrc.len, hsrc.cells, storeCells]
    · exact (hw.weak fun _ => hf.get).weak fun _ => hf.set
  by_cases hr : m + kk ≤ cap
  · rcases h4 with ⟨rfl, rfl⟩ | ⟨b, c0, rfl, h5, h6, h7, h8⟩
    · exact absurd ⟨rfl, by omega, rfl⟩ h00
    · have := run_append_roomL (P := P) (ty := ty) ht.eq hs.eq h6 hsrc hr h7
      refine ⟨_, _, this, ?_⟩
      refine Sat.weak (K := rowH e s (.slice (some ⟨b, 0, none⟩) (m + kk) cap) (m + kk) (cs ++ news) :: K') ?_ fun _ => hf.set
      refine hS.putG fun F' ⟨_, _, a', cap', g1, g2, g3, g4⟩ hF' => ?_
      injection g1 with g1a g1b g1c
      subst g1a; subst g1c
      have hle : (m + kk) * s ≤ cap * s := Nat.mul_le_mul_right s hr
      rw [Nat.add_mul] at hle
      rcases g4 with ⟨hm0, hc0⟩ | ⟨b', c0', g5, g6, g7, g8, g9⟩
      · exact absurd ⟨hm0, by omega, hc0⟩ h00
      · injection g5 with g5; injection g5 with g5
        subst g5
        have hcc : c0' = c0 := by
          have : some (Obj.cells c0'.toArray e (0, 0)) = some (Obj.cells c0.toArray e (0, 0)) := g7.symm.trans h6
          injection this with this; injection this with this; simpa using this
        subst hcc
        refine ⟨g6, hlen, hone, _, _, rfl, hr, h3, .inr ⟨b, setAt c0' (m * s) news, rfl, g6, by simp, by rw [setAt_length]; exact h7, ?_⟩⟩
        rw [show (m + kk) * s = m * s + news.length by rw [hsrc.newsLen, Nat.add_mul], setAt_take _ _ _ (by rw [hsrc.newsLen]; omega), h8]
  · have hg : cap < m + kk := by omega
    have hbe := hby.eq
    have hse := hs.eq
    have hze := hz.eq
    unfold zeroOf at hze
    unfold szOf at hse
    cases hi : P.info? e with
    | none => simp [hi] at hse
    | some i =>
      cases hzz : i.zero with
      | none => simp [hi, hzz] at hze
      | some z =>
        simp [hi] at hse hbe
        simp [hi, hzz] at hze
        subst hse; subst hbe
        have hzsz : z.cells.size = i.size := by rw [← Array.length_toList, hze]; exact Nat.eq_of_beq_eq_true hzs
        have hold : (Builtin.firstCells i.size m (.slice a m cap)).run P w.drew = .ok cs.toArray w.drew := by
          rcases h4 with ⟨rfl, rfl⟩ | ⟨b, c0, rfl, _, h6, h7, h8⟩
          · have : cs = [] := List.eq_nil_of_length_eq_zero (by rw [h1]; simp)
            subst this
            cases a with
            | none => exact run_firstCells_none _ _ _ _ _
            | some ad => exact run_firstCells_some w.drew i.size 0 ad 0 0 [] (by simp) (by simp)
          · refine run_firstCells_some w.drew i.size m _ m cap cs h1 fun j u hj => ?_
            rw [add_off]
            have : w.drew.cell? ⟨b, 0 + j, none⟩ = c0[0 + j]? := cell_blk (w := w.drew) h6 _
            rw [this, Nat.zero_add]
            rw [← h8, List.getElem?_take] at hj
            split at hj
            · exact hj
            · cases hj
        have hrun := run_append_grow_src (P := P) w t t' ty e i z ht.eq hi hzz a m cap cs hold vy kk news hsrc hg (by omega) (growslice_fits hg hb)
        have hge := grownCap_ge w (m + kk) cap e
        have hcm : grownCap w (m + kk) cap e ≤ maxLen := grownCap_le_maxLen w (m + kk) cap e (by simp [maxLen]; omega)
        refine ⟨_, _, hrun, Sat.weak (K := _ :: K') ?_ fun _ => hf.set⟩
        have hA := ((hS.weak fun F hF => hF.tail).drew).alloc (.cells ((cs ++ news).toArray ++ Builtin.zeroCells z.cells (grownCap w (m + kk) cap e - (m + kk))) e)
        refine hA.one fun F' ⟨g1, g2⟩ => ⟨hlen, hone, _, _, rfl, hge, by simp [maxLen] at hcm; omega, .inr ⟨_, ((cs ++ news).toArray ++ Builtin.zeroCells z.cells (grownCap w (m + kk) cap e - (m + kk))).toList, rfl, g1, by rw [Array.toArray_toList]; exact g2, ?_, ?_⟩⟩
        · rw [Array.toList_append, List.length_append, Array.length_toList, Array.length_toList, size_zeroCells, hzsz, List.size_toArray, hlen, ← Nat.add_mul]; exact Nat.mul_le_mul_right _ (by omega)
        · rw [Array.toList_append, ← hlen]; exact List.take_left
theorem appR {e s by_ m kk : Nat} {zs cs news : List Value} {v vy : Value} {put : HP → List HP} [ht : TSlice P t e] [hs : TSz P e s] [hby : TBytes P e by_] [hz : TZero P e zs]
    (hsrc : ∀ w, Sat w0 M σ K w → Src P s t' vy kk news w)
    (h : ∀ v', LS P false ops f R k rest n (upd fr d v') w0 M σ (put (rowH e s v' (m + kk) (cs ++ news)))) (hx : ev n fr x = v := by rfl) (hy : ev n fr y = vy := by rfl) (hf : FindR v K e s m cs put K' := by infer_instance)
    (hzs : Nat.beq zs.length s = true := by rfl) (hb : (m + kk) * by_ ≤ 140737488355328 := by omega) (hm : m + kk ≤ 140737488355328 := by omega) :
    LS P false ops f R k (⟨some d, .call ⟨.builtin .append, #[x, y], #[t, t']⟩, ty, pos, aft, none⟩ :: rest) n fr w0 M σ K :=
  LS.valW rfl rfl fun w hw => by
    obtain ⟨v', w', h1, h2⟩ := appRun (t := t) (ty := ty) (hf := hf) hw (hsrc w hw) hzs hb hm
    exact ⟨v', w', σ, _, by simp [execOp, resolve, invoke, builtin, hx, hy, h1], h2, h v'⟩
theorem srcB {w : World} {b s m c e' : Nat} {cs news : List Value} {T : TypeId} {put : HP → List HP} (hw : Sat w0 M σ K w) (hk : P.underlying t' = some (.slice e')) (hf : FindB b K (.cells cs.toArray T (0, 0)) put K' := by infer_instance)
    (hn : takeAt cs 0 (m * s) = some news := by rfl) (h1 : news.all (·.oneCell') = true := by rfl) : Src P s t' (.slice (some ⟨b, 0, none⟩) m c) m news w := by
  obtain ⟨g1, g2⟩ := takeAt_spec _ _ _ _ hn
  refine Src.ofSlice w hk _ _ _ _ g1 (fun j u hj => ?_) (by rw [List.all_eq_true] at h1; exact h1)
  have hj' : j < m * s := by rw [← g1]; exact (List.getElem?_eq_some_iff.1 hj).1
  rw [add_off, cell_blk hw.get, g2 j hj', hj]
theorem srcS {α : Type} [Rep α] {w : World} {e' c : Nat} {a : Option Addr} {news : List Value} {l : List α} (hw : Sat w0 M σ K w) (hk : P.underlying t' = some (.slice e')) (hl : news.length = l.length * Rep.sz α)
    (hr : l ≠ [] → ∃ b o, a = some ⟨b, o, none⟩ ∧ ∀ j, j < news.length → σ.cell b (o + j) = news[j]?) (h1 : news.all (·.oneCell') = true) : Src P (Rep.sz α) t' (.slice a l.length c) l.length news w := by
  rw [List.all_eq_true] at h1
  by_cases hn : l = []
  · subst hn
    have : news = [] := List.eq_nil_of_length_eq_zero (by rw [hl]; simp)
    subst this
    cases a with
    | none => exact Src.ofNil w hk c
    | some ad => exact Src.ofSlice w hk _ _ _ _ (by simp) (by simp) (by simp)
  · obtain ⟨b, o, rfl, hc⟩ := hr hn
    refine Src.ofSlice w hk _ _ _ _ hl (fun j u hj => ?_) h1
    have hj' := (List.getElem?_eq_some_iff.1 hj).1
    rw [add_off, hw.cell ((hc j hj').trans hj)]
theorem bld {pl : List (Nat × Nat)} {zs : List Value} {parts : Array (Nat × Operand)} {vals : List (Nat × Value)} (cs : List Value) [hp : TPl P t pl] [hz : TZero P t zs] (h : LS P q ops f R k rest n (upd fr d (.agg cs.toArray)) w0 M σ K)
    (hx : parts.toList.map (fun p => (p.1, ev n fr p.2)) = vals := by rfl) (hc : fillL (nthP pl) zs vals = some cs := by rfl) :
    LS P q ops f R k (⟨some d, .build t parts, ty, pos, aft, none⟩ :: rest) n fr w0 M σ K :=
  LS.val rfl rfl (fun w _ => by
    have e : (parts.map fun (i, x) => (i, ev n fr x)) = vals.toArray := by rw [← hx]; cases parts; simp
    simp [execOp, e, run_build w hp.eq hz.eq hc]) h
theorem bldS {e s : Nat} {zs : List Value} {parts : Array (Nat × Operand)} {len : Nat} (vs : List Value) (cs : List Value) [ht : TSlice P t e] [hs : TSz P e s] [hz : TZero P e zs]
    (h : ∀ b, LS P false ops f R k rest n (upd fr d (.slice (some ⟨b, 0, none⟩) len len)) w0 M σ (blk b (.cells cs.toArray e (0, 0)) :: K))
    (hx : parts.toList.map (fun p => (p.1, ev n fr p.2)) = vs.zipIdx.map (fun p => (p.2, p.1)) := by rfl) (hc : catL s vs = some cs := by rfl) (hl : Nat.beq vs.length len = true := by rfl) (hb : Nat.ble (vs.length * s) 16777216 = true := by rfl) :
    LS P false ops f R k (⟨some d, .buildSlice t len parts, ty, pos, aft, none⟩ :: rest) n fr w0 M σ K :=
  LS.valW rfl rfl fun w hw => by
    have el := Nat.eq_of_beq_eq_true hl
    subst el
    have e1 : (parts.map fun (i, x) => (i, ev n fr x)) = (vs.zipIdx.map fun p => (p.2, p.1)).toArray := by rw [← hx]; cases parts; simp
    have := run_buildSlice w ht.eq hs.eq hz.eq rfl hc (Nat.le_of_ble_eq_true hb)
    exact ⟨_, _, σ, _, by simp [execOp, e1, this], hw.alloc _, h _⟩
theorem shrI {kk kd : IntKind} {a b : Int} (h : LS P q ops f R k rest n (upd fr d (.int kk (a.fdiv (2 ^ min b.toNat kk.bits)))) w0 M σ K) (hx : ev n fr x = .int kk a := by rfl) (hy : ev n fr y = .int kd b := by rfl) (hb : 0 ≤ b := by omega) :
    LS P q ops f R k (⟨some d, .binOp .shr t x y t', ty, pos, aft, none⟩ :: rest) n fr w0 M σ K :=
  LS.val rfl rfl (fun w _ => by
    have hb' : ¬ b < 0 := by omega
    simp only [execOp, hx, hy, eqGuard, Sem.run_bind]
    split <;> simp [binOp, Op.shift, hb']) h
theorem cvU {kk : IntKind} {a : Int} [hs : TInt P t kk] [hd : TInt P t' .u64] (h : LS P q ops f R k rest n (upd fr d (.int .u64 a)) w0 M σ K) (hx : ev n fr x = .int kk a := by rfl) (h1 : 0 ≤ a := by omega) (h2 : a ≤ 9223372036854775807 := by omega) :
    LS P q ops f R k (⟨some d, .convert t t' x, ty, pos, aft, none⟩ :: rest) n fr w0 M σ K := cvI (by rw [IntWalk.u64_in _ ⟨h1, by omega⟩]; exact h) hx
theorem tdivRange {a b : Int} (ha : I64 a) (hb : 0 < b) : -9223372036854775808 ≤ a.tdiv b ∧ a.tdiv b ≤ 9223372036854775807 := by
  obtain ⟨h1, h2⟩ := ha
  have h3 : (a.tdiv b).natAbs ≤ a.natAbs := Int.natAbs_tdiv_le_natAbs a b
  have h4 : a < 0 → a.tdiv b ≤ 0 := fun h => by
    have h5 : 0 ≤ (-a).tdiv b := Int.tdiv_nonneg (by omega) (by omega)
    rw [Int.neg_tdiv] at h5; omega
  omega
theorem quoN {a b : Int} (h : LS P q ops f R k rest n (upd fr d (.int .i64 (a.tdiv b))) w0 M σ K) (hx : ev n fr x = .int .i64 a := by rfl) (hy : ev n fr y = .int .i64 b := by rfl) (ha : I64 a := by first | assumption | omega) (hb : 0 < b := by omega) :
    LS P q ops f R k (⟨some d, .binOp .quo t x y t', ty, pos, aft, none⟩ :: rest) n fr w0 M σ K :=
  quoI (by rw [wrapEq (tdivRange ha hb).1 (tdivRange ha hb).2]; exact h) hx hy (by omega)
theorem slc (l hh m : Nat) {a : Option Addr} {len cap s : Nat} {e : TypeId} {lo hi mx : Option Operand} [ht : TSlice P t e] [hs : TSz P e s]
    (h : LS P q ops f R k rest n (upd fr d (.slice (if m = l then a else a.map (·.add (l * s))) (hh - l) (m - l))) w0 M σ K) (hx : ev n fr x = .slice a len cap := by rfl)
    (hb : ∀ w, (Instr.sliceBounds true len cap (lo.map (ev n fr)) (hi.map (ev n fr)) (mx.map (ev n fr))).run P w = .ok (l, hh, m) w) :
    LS P q ops f R k (⟨some d, .slice t x lo hi mx, ty, pos, aft, none⟩ :: rest) n fr w0 M σ K :=
  LS.val rfl rfl (fun w _ => by
    simp [execOp, hx, Instr.sliceAt, run_underlying ht.eq, Instr.slice, hb, run_sz w hs.eq]) h
theorem slcLo (l : Nat) {a : Option Addr} {len cap s : Nat} {e : TypeId} {lo : Operand} {kk : IntKind} {j : Int} (v : Value) [ht : TSlice P t e] [hs : TSz P e s]
    (h : LS P q ops f R k rest n (upd fr d v) w0 M σ K) (hx : ev n fr x = .slice a len cap := by rfl) (hlo : ev n fr lo = .int kk j := by rfl) (hj : j = (l : Int) := by omega) (hl : l ≤ len := by omega)
    (hv : .slice (if cap = l then a else a.map (·.add (l * s))) (len - l) (cap - l) = v := by rfl) :
    LS P q ops f R k (⟨some d, .slice t x (some lo) none none, ty, pos, aft, none⟩ :: rest) n fr w0 M σ K := by
  subst hv
  exact slc l len cap h hx (fun w => by subst hj; simp [Instr.sliceBounds, hlo, run_sliceBound, hl])
theorem slcHi (l : Nat) {a : Option Addr} {len cap s : Nat} {e : TypeId} {lo : Operand} {kk : IntKind} {j : Int} (v : Value) [ht : TSlice P t e] [hs : TSz P e s]
    (h : LS P q ops f R k rest n (upd fr d v) w0 M σ K) (hx : ev n fr x = .slice a len cap := by rfl) (hlo : ev n fr lo = .int kk j := by rfl) (hj : j = (l : Int) := by omega) (hl : l ≤ cap := by omega)
    (hv : .slice (if cap = 0 then a else a) l cap = v := by rfl) :
    LS P q ops f R k (⟨some d, .slice t x none (some lo) none, ty, pos, aft, none⟩ :: rest) n fr w0 M σ K := by
  subst hv
  refine slc 0 l cap ?_ hx (fun w => by subst hj; simp [Instr.sliceBounds, hlo, run_sliceBound, hl])
  have e : (a.map (·.add (0 * s))) = a := by cases a <;> simp [Addr.add]
  simp only [e, Nat.sub_zero]; exact h
theorem Sat.freezeRow {w : World} {v : Value} {e s m : Nat} {cs : List Value} {put : HP → List HP} (hw : Sat w0 M σ K w) (hf : FindR v K e s m cs put K' := by infer_instance) :
    ∃ a cap σ', v = .slice a m cap ∧ m ≤ cap ∧ PH.le σ σ' ∧ Sat w0 M σ' K' w ∧ cs.length = m * s ∧ cs.all (·.oneCell') = true ∧
      ((m = 0 ∧ cap = 0) ∨ ∃ b, a = some ⟨b, 0, none⟩ ∧ (b < w0.heap.size → M b) ∧ (hp w).cell b 0 = (hp w).cell b 0 ∧ σ' b = hp w b ∧ ∀ j, j < m * s → σ'.cell b j = cs[j]?) := by
  obtain ⟨F1, ⟨h1, h1c, a, cap, rfl, h2, h3, h4⟩, h5, h6⟩ := hf.get hw.sep
  rcases h4 with ⟨rfl, rfl⟩ | ⟨b, c0, rfl, g1, g2, g3, g4⟩
  · exact ⟨a, 0, σ, rfl, by omega, PH.le_refl _, hw.weak (fun F hF => (hf.get hF).tail), h1, h1c, .inl ⟨rfl, rfl⟩⟩
  · have hn := (h5 b g1).2
    refine ⟨_, cap, fun x => if x = b then hp w b else σ x, rfl, h2, fun x y hx => ?_, ⟨hw.os, hw.tape, hw.output, hw.size, fun x hx hM => ?_, fun x y hx => ?_, ?_⟩, h1, h1c, .inr ⟨b, rfl, fun hb => ?_, rfl, by simp, fun j hj => ?_⟩⟩
    · by_cases e : x = b
      · subst e; rw [hn] at hx; cases hx
      · simpa [e] using hx
    · by_cases e : x = b
      · subst e
        have := hw.keep x hx hM
        rw [hn] at this
        have h5 : w0.heap[x]? = some w0.heap[x] := Array.getElem?_eq_getElem hx
        rw [h5] at this; cases this
      · simpa [e] using hw.keep x hx hM
    · by_cases e : x = b
      · subst e; simpa using hx
      · simp [e] at hx; exact hw.imm x y hx
    · refine (h6.over (g' := hp w) (σ' := fun x => if x = b then hp w b else σ x) (fun _ _ => rfl) (fun x y hx => by
        by_cases e : x = b
        · subst e; rw [hn] at hx; cases hx
        · simpa [e] using hx)).mono fun x hx => ⟨hx.1.1, ?_⟩
      have : x ≠ b := fun e => hx.2 (e ▸ g1)
      simp [this]; exact hx.1.2
    · refine Classical.byContradiction fun hM => ?_
      have := hw.keep b hb hM
      rw [hn] at this
      have h5 : w0.heap[b]? = some w0.heap[b] := Array.getElem?_eq_getElem hb
      rw [h5] at this; cases this
    · have g2 : hp w b = _ := g2
      have : PH.cell (fun x => if x = b then hp w b else σ x) b j = c0[j]? := by simp [PH.cell, g2]
      rw [this, ← g4, List.getElem?_take, if_pos hj]
end
end Go.JW
namespace Go.Proofs.YtealabaiamaojaaGreatDoor
open Go.JW
instance : TInt Tryz.prog 2 .i64 := ⟨by kernel_rfl⟩
instance : TOne Tryz.prog 2 := ⟨by kernel_rfl⟩
instance : TSz Tryz.prog 2 1 := ⟨by kernel_rfl⟩
instance : TBytes Tryz.prog 2 8 := ⟨by kernel_rfl⟩
instance : TZero Tryz.prog 2 [.int .i64 0] := ⟨by kernel_rfl⟩
instance : TInt Tryz.prog 3 .i64 := ⟨by kernel_rfl⟩
instance : TOne Tryz.prog 3 := ⟨by kernel_rfl⟩
instance : TSz Tryz.prog 3 1 := ⟨by kernel_rfl⟩
instance : TBytes Tryz.prog 3 8 := ⟨by kernel_rfl⟩
instance : TZero Tryz.prog 3 [.int .i64 0] := ⟨by kernel_rfl⟩
instance : TBool Tryz.prog 4 := ⟨by kernel_rfl⟩
instance : TOne Tryz.prog 4 := ⟨by kernel_rfl⟩
instance : TSz Tryz.prog 4 1 := ⟨by kernel_rfl⟩
instance : TBytes Tryz.prog 4 1 := ⟨by kernel_rfl⟩
instance : TZero Tryz.prog 4 [.bool false] := ⟨by kernel_rfl⟩
instance : TInt Tryz.prog 5 .u8 := ⟨by kernel_rfl⟩
instance : TOne Tryz.prog 5 := ⟨by kernel_rfl⟩
instance : TSz Tryz.prog 5 1 := ⟨by kernel_rfl⟩
instance : TBytes Tryz.prog 5 1 := ⟨by kernel_rfl⟩
instance : TZero Tryz.prog 5 [.int .u8 0] := ⟨by kernel_rfl⟩
instance : TAgg Tryz.prog 7 := ⟨by kernel_rfl⟩
instance : TSz Tryz.prog 7 4 := ⟨by kernel_rfl⟩
instance : TBytes Tryz.prog 7 24 := ⟨by kernel_rfl⟩
instance : TZero Tryz.prog 7 [.int .i64 0, .int .i64 0, .bool false, .int .u8 0] := ⟨by kernel_rfl⟩
instance : TPl Tryz.prog 7 [(0, 1), (1, 1), (2, 1), (3, 1)] := ⟨by kernel_rfl⟩
instance : TFld Tryz.prog 7 0 0 0 := ⟨by kernel_rfl⟩
instance : TFld Tryz.prog 7 1 1 0 := ⟨by kernel_rfl⟩
instance : TFld Tryz.prog 7 2 2 0 := ⟨by kernel_rfl⟩
instance : TFld Tryz.prog 7 3 3 0 := ⟨by kernel_rfl⟩
instance : TStr Tryz.prog 9 := ⟨by kernel_rfl⟩
instance : TOne Tryz.prog 9 := ⟨by kernel_rfl⟩
instance : TSz Tryz.prog 9 1 := ⟨by kernel_rfl⟩
instance : TBytes Tryz.prog 9 16 := ⟨by kernel_rfl⟩
instance : TZero Tryz.prog 9 [.string ⟨#[]⟩] := ⟨by kernel_rfl⟩
instance : TInt Tryz.prog 12 .u64 := ⟨by kernel_rfl⟩
instance : TOne Tryz.prog 12 := ⟨by kernel_rfl⟩
instance : TSz Tryz.prog 12 1 := ⟨by kernel_rfl⟩
instance : TBytes Tryz.prog 12 8 := ⟨by kernel_rfl⟩
instance : TZero Tryz.prog 12 [.int .u64 0] := ⟨by kernel_rfl⟩
instance : TAgg Tryz.prog 13 := ⟨by kernel_rfl⟩
instance : TSz Tryz.prog 13 2 := ⟨by kernel_rfl⟩
instance : TBytes Tryz.prog 13 24 := ⟨by kernel_rfl⟩
instance : TZero Tryz.prog 13 [.string ⟨#[]⟩, .int .u64 0] := ⟨by kernel_rfl⟩
instance : TPl Tryz.prog 13 [(0, 1), (1, 1)] := ⟨by kernel_rfl⟩
instance : TFld Tryz.prog 13 0 0 0 := ⟨by kernel_rfl⟩
instance : TFld Tryz.prog 13 1 1 0 := ⟨by kernel_rfl⟩
instance : TPtr Tryz.prog 15 226 := ⟨by kernel_rfl⟩
instance : TOne Tryz.prog 15 := ⟨by kernel_rfl⟩
instance : TSz Tryz.prog 15 1 := ⟨by kernel_rfl⟩
instance : TBytes Tryz.prog 15 8 := ⟨by kernel_rfl⟩
instance : TZero Tryz.prog 15 [.pointer none] := ⟨by kernel_rfl⟩
instance : TPtr Tryz.prog 16 229 := ⟨by kernel_rfl⟩
instance : TOne Tryz.prog 16 := ⟨by kernel_rfl⟩
instance : TSz Tryz.prog 16 1 := ⟨by kernel_rfl⟩
instance : TBytes Tryz.prog 16 8 := ⟨by kernel_rfl⟩
instance : TZero Tryz.prog 16 [.pointer none] := ⟨by kernel_rfl⟩
instance : TPtr Tryz.prog 17 236 := ⟨by kernel_rfl⟩
instance : TOne Tryz.prog 17 := ⟨by kernel_rfl⟩
instance : TSz Tryz.prog 17 1 := ⟨by kernel_rfl⟩
instance : TBytes Tryz.prog 17 8 := ⟨by kernel_rfl⟩
instance : TZero Tryz.prog 17 [.pointer none] := ⟨by kernel_rfl⟩
instance : TAgg Tryz.prog 18 := ⟨by kernel_rfl⟩
instance : TSz Tryz.prog 18 1 := ⟨by kernel_rfl⟩
instance : TBytes Tryz.prog 18 8 := ⟨by kernel_rfl⟩
instance : TZero Tryz.prog 18 [.pointer none] := ⟨by kernel_rfl⟩
instance : TPl Tryz.prog 18 [(0, 1)] := ⟨by kernel_rfl⟩
instance : TFld Tryz.prog 18 0 0 0 := ⟨by kernel_rfl⟩
instance : TOne Tryz.prog 20 := ⟨by kernel_rfl⟩
instance : TSz Tryz.prog 20 1 := ⟨by kernel_rfl⟩
instance : TBytes Tryz.prog 20 16 := ⟨by kernel_rfl⟩
instance : TZero Tryz.prog 20 [.nilIface] := ⟨by kernel_rfl⟩
instance : TInt Tryz.prog 21 .i32 := ⟨by kernel_rfl⟩
instance : TOne Tryz.prog 21 := ⟨by kernel_rfl⟩
instance : TSz Tryz.prog 21 1 := ⟨by kernel_rfl⟩
instance : TBytes Tryz.prog 21 4 := ⟨by kernel_rfl⟩
instance : TZero Tryz.prog 21 [.int .i32 0] := ⟨by kernel_rfl⟩
instance : TSlice Tryz.prog 22 3 := ⟨by kernel_rfl⟩
instance : TOne Tryz.prog 22 := ⟨by kernel_rfl⟩
instance : TSz Tryz.prog 22 1 := ⟨by kernel_rfl⟩
instance : TBytes Tryz.prog 22 24 := ⟨by kernel_rfl⟩
instance : TZero Tryz.prog 22 [.slice none 0 0] := ⟨by kernel_rfl⟩
instance : TPtr Tryz.prog 24 67 := ⟨by kernel_rfl⟩
instance : TOne Tryz.prog 24 := ⟨by kernel_rfl⟩
instance : TSz Tryz.prog 24 1 := ⟨by kernel_rfl⟩
instance : TBytes Tryz.prog 24 8 := ⟨by kernel_rfl⟩
instance : TZero Tryz.prog 24 [.pointer none] := ⟨by kernel_rfl⟩
instance : TSlice Tryz.prog 26 37 := ⟨by kernel_rfl⟩
instance : TOne Tryz.prog 26 := ⟨by kernel_rfl⟩
instance : TSz Tryz.prog 26 1 := ⟨by kernel_rfl⟩
instance : TBytes Tryz.prog 26 24 := ⟨by kernel_rfl⟩
instance : TZero Tryz.prog 26 [.slice none 0 0] := ⟨by kernel_rfl⟩
instance : TAgg Tryz.prog 27 := ⟨by kernel_rfl⟩
instance : TSz Tryz.prog 27 2 := ⟨by kernel_rfl⟩
instance : TBytes Tryz.prog 27 16 := ⟨by kernel_rfl⟩
instance : TZero Tryz.prog 27 [.int .i64 0, .int .i64 0] := ⟨by kernel_rfl⟩
instance : TPl Tryz.prog 27 [(0, 1), (1, 1)] := ⟨by kernel_rfl⟩
instance : TFld Tryz.prog 27 0 0 0 := ⟨by kernel_rfl⟩
instance : TFld Tryz.prog 27 1 1 0 := ⟨by kernel_rfl⟩
instance : TAgg Tryz.prog 28 := ⟨by kernel_rfl⟩
instance : TSz Tryz.prog 28 2 := ⟨by kernel_rfl⟩
instance : TBytes Tryz.prog 28 16 := ⟨by kernel_rfl⟩
instance : TZero Tryz.prog 28 [.int .i64 0, .int .i64 0] := ⟨by kernel_rfl⟩
instance : TPl Tryz.prog 28 [(0, 1), (1, 1)] := ⟨by kernel_rfl⟩
instance : TFld Tryz.prog 28 0 0 0 := ⟨by kernel_rfl⟩
instance : TFld Tryz.prog 28 1 1 0 := ⟨by kernel_rfl⟩
instance : TSlice Tryz.prog 29 9 := ⟨by kernel_rfl⟩
instance : TOne Tryz.prog 29 := ⟨by kernel_rfl⟩
instance : TSz Tryz.prog 29 1 := ⟨by kernel_rfl⟩
instance : TBytes Tryz.prog 29 24 := ⟨by kernel_rfl⟩
instance : TZero Tryz.prog 29 [.slice none 0 0] := ⟨by kernel_rfl⟩
instance : TAgg Tryz.prog 30 := ⟨by kernel_rfl⟩
instance : TSz Tryz.prog 30 6 := ⟨by kernel_rfl⟩
instance : TBytes Tryz.prog 30 88 := ⟨by kernel_rfl⟩
instance : TZero Tryz.prog 30 [.string ⟨#[]⟩, .int .i64 0, .int .i64 0, .slice none 0 0, .slice none 0 0, .bool false] := ⟨by kernel_rfl⟩
instance : TPl Tryz.prog 30 [(0, 1), (1, 2), (3, 1), (4, 1), (5, 1)] := ⟨by kernel_rfl⟩
instance : TFld Tryz.prog 30 0 0 0 := ⟨by kernel_rfl⟩
instance : TFld Tryz.prog 30 1 1 1 := ⟨by kernel_rfl⟩
instance : TFld Tryz.prog 30 2 3 0 := ⟨by kernel_rfl⟩
instance : TFld Tryz.prog 30 3 4 0 := ⟨by kernel_rfl⟩
instance : TFld Tryz.prog 30 4 5 0 := ⟨by kernel_rfl⟩
instance : TAgg Tryz.prog 31 := ⟨by kernel_rfl⟩
instance : TSz Tryz.prog 31 6 := ⟨by kernel_rfl⟩
instance : TBytes Tryz.prog 31 88 := ⟨by kernel_rfl⟩
instance : TZero Tryz.prog 31 [.string ⟨#[]⟩, .int .i64 0, .int .i64 0, .slice none 0 0, .slice none 0 0, .bool false] := ⟨by kernel_rfl⟩
instance : TPl Tryz.prog 31 [(0, 1), (1, 2), (3, 1), (4, 1), (5, 1)] := ⟨by kernel_rfl⟩
instance : TFld Tryz.prog 31 0 0 0 := ⟨by kernel_rfl⟩
instance : TFld Tryz.prog 31 1 1 1 := ⟨by kernel_rfl⟩
instance : TFld Tryz.prog 31 2 3 0 := ⟨by kernel_rfl⟩
instance : TFld Tryz.prog 31 3 4 0 := ⟨by kernel_rfl⟩
instance : TFld Tryz.prog 31 4 5 0 := ⟨by kernel_rfl⟩
instance : TAgg Tryz.prog 32 := ⟨by kernel_rfl⟩
instance : TSz Tryz.prog 32 10 := ⟨by kernel_rfl⟩
instance : TBytes Tryz.prog 32 152 := ⟨by kernel_rfl⟩
instance : TZero Tryz.prog 32 [.int .i64 0, .int .i64 0, .slice none 0 0, .slice none 0 0, .string ⟨#[]⟩, .int .i64 0, .int .i64 0, .slice none 0 0, .slice none 0 0, .bool false] := ⟨by kernel_rfl⟩
instance : TPl Tryz.prog 32 [(0, 1), (1, 1), (2, 1), (3, 1), (4, 6)] := ⟨by kernel_rfl⟩
instance : TFld Tryz.prog 32 0 0 0 := ⟨by kernel_rfl⟩
instance : TFld Tryz.prog 32 1 1 0 := ⟨by kernel_rfl⟩
instance : TFld Tryz.prog 32 2 2 0 := ⟨by kernel_rfl⟩
instance : TFld Tryz.prog 32 3 3 0 := ⟨by kernel_rfl⟩
instance : TFld Tryz.prog 32 4 4 5 := ⟨by kernel_rfl⟩
instance : TAgg Tryz.prog 33 := ⟨by kernel_rfl⟩
instance : TSz Tryz.prog 33 10 := ⟨by kernel_rfl⟩
instance : TBytes Tryz.prog 33 152 := ⟨by kernel_rfl⟩
instance : TZero Tryz.prog 33 [.int .i64 0, .int .i64 0, .slice none 0 0, .slice none 0 0, .string ⟨#[]⟩, .int .i64 0, .int .i64 0, .slice none 0 0, .slice none 0 0, .bool false] := ⟨by kernel_rfl⟩
instance : TPl Tryz.prog 33 [(0, 1), (1, 1), (2, 1), (3, 1), (4, 6)] := ⟨by kernel_rfl⟩
instance : TFld Tryz.prog 33 0 0 0 := ⟨by kernel_rfl⟩
instance : TFld Tryz.prog 33 1 1 0 := ⟨by kernel_rfl⟩
instance : TFld Tryz.prog 33 2 2 0 := ⟨by kernel_rfl⟩
instance : TFld Tryz.prog 33 3 3 0 := ⟨by kernel_rfl⟩
instance : TFld Tryz.prog 33 4 4 5 := ⟨by kernel_rfl⟩
instance : TAgg Tryz.prog 36 := ⟨by kernel_rfl⟩
instance : TSz Tryz.prog 36 5 := ⟨by kernel_rfl⟩
instance : TBytes Tryz.prog 36 56 := ⟨by kernel_rfl⟩
instance : TZero Tryz.prog 36 [.string ⟨#[]⟩, .string ⟨#[]⟩, .int .i64 0, .int .i64 0, .bool false] := ⟨by kernel_rfl⟩
instance : TPl Tryz.prog 36 [(0, 1), (1, 1), (2, 2), (4, 1)] := ⟨by kernel_rfl⟩
instance : TFld Tryz.prog 36 0 0 0 := ⟨by kernel_rfl⟩
instance : TFld Tryz.prog 36 1 1 0 := ⟨by kernel_rfl⟩
instance : TFld Tryz.prog 36 2 2 1 := ⟨by kernel_rfl⟩
instance : TFld Tryz.prog 36 3 4 0 := ⟨by kernel_rfl⟩
instance : TAgg Tryz.prog 37 := ⟨by kernel_rfl⟩
instance : TSz Tryz.prog 37 5 := ⟨by kernel_rfl⟩
instance : TBytes Tryz.prog 37 56 := ⟨by kernel_rfl⟩
instance : TZero Tryz.prog 37 [.string ⟨#[]⟩, .string ⟨#[]⟩, .int .i64 0, .int .i64 0, .bool false] := ⟨by kernel_rfl⟩
instance : TPl Tryz.prog 37 [(0, 1), (1, 1), (2, 2), (4, 1)] := ⟨by kernel_rfl⟩
instance : TFld Tryz.prog 37 0 0 0 := ⟨by kernel_rfl⟩
instance : TFld Tryz.prog 37 1 1 0 := ⟨by kernel_rfl⟩
instance : TFld Tryz.prog 37 2 2 1 := ⟨by kernel_rfl⟩
instance : TFld Tryz.prog 37 3 4 0 := ⟨by kernel_rfl⟩
instance : TSlice Tryz.prog 38 33 := ⟨by kernel_rfl⟩
instance : TOne Tryz.prog 38 := ⟨by kernel_rfl⟩
instance : TSz Tryz.prog 38 1 := ⟨by kernel_rfl⟩
instance : TBytes Tryz.prog 38 24 := ⟨by kernel_rfl⟩
instance : TZero Tryz.prog 38 [.slice none 0 0] := ⟨by kernel_rfl⟩
instance : TSlice Tryz.prog 44 46 := ⟨by kernel_rfl⟩
instance : TOne Tryz.prog 44 := ⟨by kernel_rfl⟩
instance : TSz Tryz.prog 44 1 := ⟨by kernel_rfl⟩
instance : TBytes Tryz.prog 44 24 := ⟨by kernel_rfl⟩
instance : TZero Tryz.prog 44 [.slice none 0 0] := ⟨by kernel_rfl⟩
instance : TAgg Tryz.prog 45 := ⟨by kernel_rfl⟩
instance : TSz Tryz.prog 45 3 := ⟨by kernel_rfl⟩
instance : TBytes Tryz.prog 45 40 := ⟨by kernel_rfl⟩
instance : TZero Tryz.prog 45 [.int .i64 0, .int .i64 0, .slice none 0 0] := ⟨by kernel_rfl⟩
instance : TPl Tryz.prog 45 [(0, 1), (1, 1), (2, 1)] := ⟨by kernel_rfl⟩
instance : TFld Tryz.prog 45 0 0 0 := ⟨by kernel_rfl⟩
instance : TFld Tryz.prog 45 1 1 0 := ⟨by kernel_rfl⟩
instance : TFld Tryz.prog 45 2 2 0 := ⟨by kernel_rfl⟩
instance : TAgg Tryz.prog 46 := ⟨by kernel_rfl⟩
instance : TSz Tryz.prog 46 3 := ⟨by kernel_rfl⟩
instance : TBytes Tryz.prog 46 40 := ⟨by kernel_rfl⟩
instance : TZero Tryz.prog 46 [.int .i64 0, .int .i64 0, .slice none 0 0] := ⟨by kernel_rfl⟩
instance : TPl Tryz.prog 46 [(0, 1), (1, 1), (2, 1)] := ⟨by kernel_rfl⟩
instance : TFld Tryz.prog 46 0 0 0 := ⟨by kernel_rfl⟩
instance : TFld Tryz.prog 46 1 1 0 := ⟨by kernel_rfl⟩
instance : TFld Tryz.prog 46 2 2 0 := ⟨by kernel_rfl⟩
instance : TPtr Tryz.prog 56 58 := ⟨by kernel_rfl⟩
instance : TOne Tryz.prog 56 := ⟨by kernel_rfl⟩
instance : TSz Tryz.prog 56 1 := ⟨by kernel_rfl⟩
instance : TBytes Tryz.prog 56 8 := ⟨by kernel_rfl⟩
instance : TZero Tryz.prog 56 [.pointer none] := ⟨by kernel_rfl⟩
instance : TAgg Tryz.prog 57 := ⟨by kernel_rfl⟩
instance : TSz Tryz.prog 57 2 := ⟨by kernel_rfl⟩
instance : TBytes Tryz.prog 57 32 := ⟨by kernel_rfl⟩
instance : TZero Tryz.prog 57 [.slice none 0 0, .int .i64 0] := ⟨by kernel_rfl⟩
instance : TPl Tryz.prog 57 [(0, 1), (1, 1)] := ⟨by kernel_rfl⟩
instance : TFld Tryz.prog 57 0 0 0 := ⟨by kernel_rfl⟩
instance : TFld Tryz.prog 57 1 1 0 := ⟨by kernel_rfl⟩
instance : TAgg Tryz.prog 58 := ⟨by kernel_rfl⟩
instance : TSz Tryz.prog 58 2 := ⟨by kernel_rfl⟩
instance : TBytes Tryz.prog 58 32 := ⟨by kernel_rfl⟩
instance : TZero Tryz.prog 58 [.slice none 0 0, .int .i64 0] := ⟨by kernel_rfl⟩
instance : TPl Tryz.prog 58 [(0, 1), (1, 1)] := ⟨by kernel_rfl⟩
instance : TFld Tryz.prog 58 0 0 0 := ⟨by kernel_rfl⟩
instance : TFld Tryz.prog 58 1 1 0 := ⟨by kernel_rfl⟩
instance : TSlice Tryz.prog 63 4 := ⟨by kernel_rfl⟩
instance : TOne Tryz.prog 63 := ⟨by kernel_rfl⟩
instance : TSz Tryz.prog 63 1 := ⟨by kernel_rfl⟩
instance : TBytes Tryz.prog 63 24 := ⟨by kernel_rfl⟩
instance : TZero Tryz.prog 63 [.slice none 0 0] := ⟨by kernel_rfl⟩
instance : TSlice Tryz.prog 65 21 := ⟨by kernel_rfl⟩
instance : TOne Tryz.prog 65 := ⟨by kernel_rfl⟩
instance : TSz Tryz.prog 65 1 := ⟨by kernel_rfl⟩
instance : TBytes Tryz.prog 65 24 := ⟨by kernel_rfl⟩
instance : TZero Tryz.prog 65 [.slice none 0 0] := ⟨by kernel_rfl⟩
instance : TAgg Tryz.prog 66 := ⟨by kernel_rfl⟩
instance : TSz Tryz.prog 66 3 := ⟨by kernel_rfl⟩
instance : TBytes Tryz.prog 66 40 := ⟨by kernel_rfl⟩
instance : TZero Tryz.prog 66 [.slice none 0 0, .int .i64 0, .int .i64 0] := ⟨by kernel_rfl⟩
instance : TPl Tryz.prog 66 [(0, 1), (1, 1), (2, 1)] := ⟨by kernel_rfl⟩
instance : TFld Tryz.prog 66 0 0 0 := ⟨by kernel_rfl⟩
instance : TFld Tryz.prog 66 1 1 0 := ⟨by kernel_rfl⟩
instance : TFld Tryz.prog 66 2 2 0 := ⟨by kernel_rfl⟩
instance : TAgg Tryz.prog 67 := ⟨by kernel_rfl⟩
instance : TSz Tryz.prog 67 3 := ⟨by kernel_rfl⟩
instance : TBytes Tryz.prog 67 40 := ⟨by kernel_rfl⟩
instance : TZero Tryz.prog 67 [.slice none 0 0, .int .i64 0, .int .i64 0] := ⟨by kernel_rfl⟩
instance : TPl Tryz.prog 67 [(0, 1), (1, 1), (2, 1)] := ⟨by kernel_rfl⟩
instance : TFld Tryz.prog 67 0 0 0 := ⟨by kernel_rfl⟩
instance : TFld Tryz.prog 67 1 1 0 := ⟨by kernel_rfl⟩
instance : TFld Tryz.prog 67 2 2 0 := ⟨by kernel_rfl⟩
instance : TSlice Tryz.prog 71 5 := ⟨by kernel_rfl⟩
instance : TOne Tryz.prog 71 := ⟨by kernel_rfl⟩
instance : TSz Tryz.prog 71 1 := ⟨by kernel_rfl⟩
instance : TBytes Tryz.prog 71 24 := ⟨by kernel_rfl⟩
instance : TZero Tryz.prog 71 [.slice none 0 0] := ⟨by kernel_rfl⟩
instance : TAgg Tryz.prog 73 := ⟨by kernel_rfl⟩
instance : TSz Tryz.prog 73 1 := ⟨by kernel_rfl⟩
instance : TBytes Tryz.prog 73 16 := ⟨by kernel_rfl⟩
instance : TZero Tryz.prog 73 [.string ⟨#[]⟩] := ⟨by kernel_rfl⟩
instance : TPl Tryz.prog 73 [(0, 1)] := ⟨by kernel_rfl⟩
instance : TFld Tryz.prog 73 0 0 0 := ⟨by kernel_rfl⟩
instance : TAgg Tryz.prog 74 := ⟨by kernel_rfl⟩
instance : TSz Tryz.prog 74 1 := ⟨by kernel_rfl⟩
instance : TBytes Tryz.prog 74 16 := ⟨by kernel_rfl⟩
instance : TZero Tryz.prog 74 [.string ⟨#[]⟩] := ⟨by kernel_rfl⟩
instance : TPl Tryz.prog 74 [(0, 1)] := ⟨by kernel_rfl⟩
instance : TFld Tryz.prog 74 0 0 0 := ⟨by kernel_rfl⟩
instance : TAgg Tryz.prog 89 := ⟨by kernel_rfl⟩
instance : TSz Tryz.prog 89 1 := ⟨by kernel_rfl⟩
instance : TBytes Tryz.prog 89 8 := ⟨by kernel_rfl⟩
instance : TZero Tryz.prog 89 [.int .i64 0] := ⟨by kernel_rfl⟩
instance : TPl Tryz.prog 89 [(0, 1)] := ⟨by kernel_rfl⟩
instance : TFld Tryz.prog 89 0 0 0 := ⟨by kernel_rfl⟩
instance : TAgg Tryz.prog 90 := ⟨by kernel_rfl⟩
instance : TSz Tryz.prog 90 1 := ⟨by kernel_rfl⟩
instance : TBytes Tryz.prog 90 8 := ⟨by kernel_rfl⟩
instance : TZero Tryz.prog 90 [.int .i64 0] := ⟨by kernel_rfl⟩
instance : TPl Tryz.prog 90 [(0, 1)] := ⟨by kernel_rfl⟩
instance : TFld Tryz.prog 90 0 0 0 := ⟨by kernel_rfl⟩
instance : TAgg Tryz.prog 91 := ⟨by kernel_rfl⟩
instance : TSz Tryz.prog 91 0 := ⟨by kernel_rfl⟩
instance : TBytes Tryz.prog 91 0 := ⟨by kernel_rfl⟩
instance : TZero Tryz.prog 91 [] := ⟨by kernel_rfl⟩
instance : TPl Tryz.prog 91 [] := ⟨by kernel_rfl⟩
instance : TAgg Tryz.prog 92 := ⟨by kernel_rfl⟩
instance : TSz Tryz.prog 92 0 := ⟨by kernel_rfl⟩
instance : TBytes Tryz.prog 92 0 := ⟨by kernel_rfl⟩
instance : TZero Tryz.prog 92 [] := ⟨by kernel_rfl⟩
instance : TPl Tryz.prog 92 [] := ⟨by kernel_rfl⟩
instance : TInt Tryz.prog 95 .u64 := ⟨by kernel_rfl⟩
instance : TOne Tryz.prog 95 := ⟨by kernel_rfl⟩
instance : TSz Tryz.prog 95 1 := ⟨by kernel_rfl⟩
instance : TBytes Tryz.prog 95 8 := ⟨by kernel_rfl⟩
instance : TZero Tryz.prog 95 [.int .u64 0] := ⟨by kernel_rfl⟩
instance : TInt Tryz.prog 100 .i64 := ⟨by kernel_rfl⟩
instance : TOne Tryz.prog 100 := ⟨by kernel_rfl⟩
instance : TSz Tryz.prog 100 1 := ⟨by kernel_rfl⟩
instance : TBytes Tryz.prog 100 8 := ⟨by kernel_rfl⟩
instance : TZero Tryz.prog 100 [.int .i64 0] := ⟨by kernel_rfl⟩
instance : TArr Tryz.prog 118 256 5 := ⟨by kernel_rfl⟩
instance : TAgg Tryz.prog 118 := ⟨by kernel_rfl⟩
instance : TSz Tryz.prog 118 256 := ⟨by kernel_rfl⟩
instance : TBytes Tryz.prog 118 256 := ⟨by kernel_rfl⟩
instance : TZero Tryz.prog 118 [.int .u8 0, .int .u8 0, .int .u8 0, .int .u8 0, .int .u8 0, .int .u8 0, .int .u8 0, .int .u8 0, .int .u8 0, .int .u8 0, .int .u8 0, .int .u8 0, .int .u8 0, .int .u8 0, .int .u8 0, .int .u8 0, .int .u8 0, .int .u8 0, .int .u8 0, .int .u8 0, .int .u8 0, .int .u8 0, .int .u8 0, .int .u8 0, .int .u8 0, .int .u8 0, .int .u8 0, .int .u8 0, .int .u8 0, .int .u8 0, .int .u8 0, .int .u8 0, .int .u8 0, .int .u8 0, .int .u8 0, .int .u8 0, .int .u8 0, .int .u8 0, .int .u8 0, .int .u8 0, .int .u8 0, .int .u8 0, .int .u8 0, .int .u8 0, .int .u8 0, .int .u8 0, .int .u8 0, .int .u8 0, .int .u8 0, .int .u8 0, .int .u8 0, .int .u8 0, .int .u8 0, .int .u8 0, .int .u8 0, .int .u8 0, .int .u8 0, .int .u8 0, .int .u8 0, .int .u8 0, .int .u8 0, .int .u8 0, .int .u8 0, .int .u8 0, .int .u8 0, .int .u8 0, .int .u8 0, .int .u8 0, .int .u8 0, .int .u8 0, .int .u8 0, .int .u8 0, .int .u8 0, .int .u8 0, .int .u8 0, .int .u8 0, .int .u8 0, .int .u8 0, .int .u8 0, .int .u8 0, .int .u8 0, .int .u8 0, .int .u8 0, .int .u8 0, .int .u8 0, .int .u8 0, .int .u8 0, .int .u8 0, .int .u8 0, .int .u8 0, .int .u8 0, .int .u8 0, .int .u8 0, .int .u8 0, .int .u8 0, .int .u8 0, .int .u8 0, .int .u8 0, .int .u8 0, .int .u8 0, .int .u8 0, .int .u8 0, .int .u8 0, .int .u8 0, .int .u8 0, .int .u8 0, .int .u8 0, .int .u8 0, .int .u8 0, .int .u8 0, .int .u8 0, .int .u8 0, .int .u8 0, .int .u8 0, .int .u8 0, .int .u8 0, .int .u8 0, .int .u8 0, .int .u8 0, .int .u8 0, .int .u8 0, .int .u8 0, .int .u8 0, .int .u8 0, .int .u8 0, .int .u8 0, .int .u8 0, .int .u8 0, .int .u8 0, .int .u8 0, .int .u8 0, .int .u8 0, .int .u8 0, .int .u8 0, .int .u8 0, .int .u8 0, .int .u8 0, .int .u8 0, .int .u8 0, .int .u8 0, .int .u8 0, .int .u8 0, .int .u8 0, .int .u8 0, .int .u8 0, .int .u8 0, .int .u8 0, .int .u8 0, .int .u8 0, .int .u8 0, .int .u8 0, .int .u8 0, .int .u8 0, .int .u8 0, .int .u8 0, .int .u8 0, .int .u8 0, .int .u8 0, .int .u8 0, .int .u8 0, .int .u8 0, .int .u8 0, .int .u8 0, .int .u8 0, .int .u8 0, .int .u8 0, .int .u8 0, .int .u8 0, .int .u8 0, .int .u8 0, .int .u8 0, .int .u8 0, .int .u8 0, .int .u8 0, .int .u8 0, .int .u8 0, .int .u8 0, .int .u8 0, .int .u8 0, .int .u8 0, .int .u8 0, .int .u8 0, .int .u8 0, .int .u8 0, .int .u8 0, .int .u8 0, .int .u8 0, .int .u8 0, .int .u8 0, .int .u8 0, .int .u8 0, .int .u8 0, .int .u8 0, .int .u8 0, .int .u8 0, .int .u8 0, .int .u8 0, .int .u8 0, .int .u8 0, .int .u8 0, .int .u8 0, .int .u8 0, .int .u8 0, .int .u8 0, .int .u8 0, .int .u8 0, .int .u8 0, .int .u8 0, .int .u8 0, .int .u8 0, .int .u8 0, .int .u8 0, .int .u8 0, .int .u8 0, .int .u8 0, .int .u8 0, .int .u8 0, .int .u8 0, .int .u8 0, .int .u8 0, .int .u8 0, .int .u8 0, .int .u8 0, .int .u8 0, .int .u8 0, .int .u8 0, .int .u8 0, .int .u8 0, .int .u8 0, .int .u8 0, .int .u8 0, .int .u8 0, .int .u8 0, .int .u8 0, .int .u8 0, .int .u8 0, .int .u8 0, .int .u8 0, .int .u8 0, .int .u8 0, .int .u8 0, .int .u8 0, .int .u8 0, .int .u8 0, .int .u8 0, .int .u8 0, .int .u8 0, .int .u8 0, .int .u8 0, .int .u8 0, .int .u8 0, .int .u8 0, .int .u8 0, .int .u8 0, .int .u8 0, .int .u8 0] := ⟨by kernel_rfl⟩
instance : TPtr Tryz.prog 121 123 := ⟨by kernel_rfl⟩
instance : TOne Tryz.prog 121 := ⟨by kernel_rfl⟩
instance : TSz Tryz.prog 121 1 := ⟨by kernel_rfl⟩
instance : TBytes Tryz.prog 121 8 := ⟨by kernel_rfl⟩
instance : TZero Tryz.prog 121 [.pointer none] := ⟨by kernel_rfl⟩
instance : TAgg Tryz.prog 122 := ⟨by kernel_rfl⟩
instance : TSz Tryz.prog 122 2 := ⟨by kernel_rfl⟩
instance : TBytes Tryz.prog 122 32 := ⟨by kernel_rfl⟩
instance : TZero Tryz.prog 122 [.pointer none, .slice none 0 0] := ⟨by kernel_rfl⟩
instance : TPl Tryz.prog 122 [(0, 1), (1, 1)] := ⟨by kernel_rfl⟩
instance : TFld Tryz.prog 122 0 0 0 := ⟨by kernel_rfl⟩
instance : TFld Tryz.prog 122 1 1 0 := ⟨by kernel_rfl⟩
instance : TAgg Tryz.prog 123 := ⟨by kernel_rfl⟩
instance : TSz Tryz.prog 123 2 := ⟨by kernel_rfl⟩
instance : TBytes Tryz.prog 123 32 := ⟨by kernel_rfl⟩
instance : TZero Tryz.prog 123 [.pointer none, .slice none 0 0] := ⟨by kernel_rfl⟩
instance : TPl Tryz.prog 123 [(0, 1), (1, 1)] := ⟨by kernel_rfl⟩
instance : TFld Tryz.prog 123 0 0 0 := ⟨by kernel_rfl⟩
instance : TFld Tryz.prog 123 1 1 0 := ⟨by kernel_rfl⟩
instance : TOne Tryz.prog 124 := ⟨by kernel_rfl⟩
instance : TSz Tryz.prog 124 1 := ⟨by kernel_rfl⟩
instance : TBytes Tryz.prog 124 16 := ⟨by kernel_rfl⟩
instance : TZero Tryz.prog 124 [.nilIface] := ⟨by kernel_rfl⟩
instance : TOne Tryz.prog 125 := ⟨by kernel_rfl⟩
instance : TSz Tryz.prog 125 1 := ⟨by kernel_rfl⟩
instance : TBytes Tryz.prog 125 16 := ⟨by kernel_rfl⟩
instance : TZero Tryz.prog 125 [.nilIface] := ⟨by kernel_rfl⟩
instance : TPtr Tryz.prog 130 132 := ⟨by kernel_rfl⟩
instance : TOne Tryz.prog 130 := ⟨by kernel_rfl⟩
instance : TSz Tryz.prog 130 1 := ⟨by kernel_rfl⟩
instance : TBytes Tryz.prog 130 8 := ⟨by kernel_rfl⟩
instance : TZero Tryz.prog 130 [.pointer none] := ⟨by kernel_rfl⟩
instance : TAgg Tryz.prog 131 := ⟨by kernel_rfl⟩
instance : TSz Tryz.prog 131 3 := ⟨by kernel_rfl⟩
instance : TBytes Tryz.prog 131 32 := ⟨by kernel_rfl⟩
instance : TZero Tryz.prog 131 [.string ⟨#[]⟩, .int .i64 0, .bool false] := ⟨by kernel_rfl⟩
instance : TPl Tryz.prog 131 [(0, 1), (1, 1), (2, 1)] := ⟨by kernel_rfl⟩
instance : TFld Tryz.prog 131 0 0 0 := ⟨by kernel_rfl⟩
instance : TFld Tryz.prog 131 1 1 0 := ⟨by kernel_rfl⟩
instance : TFld Tryz.prog 131 2 2 0 := ⟨by kernel_rfl⟩
instance : TAgg Tryz.prog 132 := ⟨by kernel_rfl⟩
instance : TSz Tryz.prog 132 3 := ⟨by kernel_rfl⟩
instance : TBytes Tryz.prog 132 32 := ⟨by kernel_rfl⟩
instance : TZero Tryz.prog 132 [.string ⟨#[]⟩, .int .i64 0, .bool false] := ⟨by kernel_rfl⟩
instance : TPl Tryz.prog 132 [(0, 1), (1, 1), (2, 1)] := ⟨by kernel_rfl⟩
instance : TFld Tryz.prog 132 0 0 0 := ⟨by kernel_rfl⟩
instance : TFld Tryz.prog 132 1 1 0 := ⟨by kernel_rfl⟩
instance : TFld Tryz.prog 132 2 2 0 := ⟨by kernel_rfl⟩
instance : TSlice Tryz.prog 139 141 := ⟨by kernel_rfl⟩
instance : TOne Tryz.prog 139 := ⟨by kernel_rfl⟩
instance : TSz Tryz.prog 139 1 := ⟨by kernel_rfl⟩
instance : TBytes Tryz.prog 139 24 := ⟨by kernel_rfl⟩
instance : TZero Tryz.prog 139 [.slice none 0 0] := ⟨by kernel_rfl⟩
instance : TAgg Tryz.prog 140 := ⟨by kernel_rfl⟩
instance : TSz Tryz.prog 140 2 := ⟨by kernel_rfl⟩
instance : TBytes Tryz.prog 140 16 := ⟨by kernel_rfl⟩
instance : TZero Tryz.prog 140 [.int .i64 0, .int .i64 0] := ⟨by kernel_rfl⟩
instance : TPl Tryz.prog 140 [(0, 1), (1, 1)] := ⟨by kernel_rfl⟩
instance : TFld Tryz.prog 140 0 0 0 := ⟨by kernel_rfl⟩
instance : TFld Tryz.prog 140 1 1 0 := ⟨by kernel_rfl⟩
instance : TAgg Tryz.prog 141 := ⟨by kernel_rfl⟩
instance : TSz Tryz.prog 141 2 := ⟨by kernel_rfl⟩
instance : TBytes Tryz.prog 141 16 := ⟨by kernel_rfl⟩
instance : TZero Tryz.prog 141 [.int .i64 0, .int .i64 0] := ⟨by kernel_rfl⟩
instance : TPl Tryz.prog 141 [(0, 1), (1, 1)] := ⟨by kernel_rfl⟩
instance : TFld Tryz.prog 141 0 0 0 := ⟨by kernel_rfl⟩
instance : TFld Tryz.prog 141 1 1 0 := ⟨by kernel_rfl⟩
instance : TInt Tryz.prog 142 .u32 := ⟨by kernel_rfl⟩
instance : TOne Tryz.prog 142 := ⟨by kernel_rfl⟩
instance : TSz Tryz.prog 142 1 := ⟨by kernel_rfl⟩
instance : TBytes Tryz.prog 142 4 := ⟨by kernel_rfl⟩
instance : TZero Tryz.prog 142 [.int .u32 0] := ⟨by kernel_rfl⟩
instance : TPtr Tryz.prog 144 162 := ⟨by kernel_rfl⟩
instance : TOne Tryz.prog 144 := ⟨by kernel_rfl⟩
instance : TSz Tryz.prog 144 1 := ⟨by kernel_rfl⟩
instance : TBytes Tryz.prog 144 8 := ⟨by kernel_rfl⟩
instance : TZero Tryz.prog 144 [.pointer none] := ⟨by kernel_rfl⟩
instance : TPtr Tryz.prog 146 5 := ⟨by kernel_rfl⟩
instance : TOne Tryz.prog 146 := ⟨by kernel_rfl⟩
instance : TSz Tryz.prog 146 1 := ⟨by kernel_rfl⟩
instance : TBytes Tryz.prog 146 8 := ⟨by kernel_rfl⟩
instance : TZero Tryz.prog 146 [.pointer none] := ⟨by kernel_rfl⟩
instance : TPtr Tryz.prog 147 149 := ⟨by kernel_rfl⟩
instance : TOne Tryz.prog 147 := ⟨by kernel_rfl⟩
instance : TSz Tryz.prog 147 1 := ⟨by kernel_rfl⟩
instance : TBytes Tryz.prog 147 8 := ⟨by kernel_rfl⟩
instance : TZero Tryz.prog 147 [.pointer none] := ⟨by kernel_rfl⟩
instance : TAgg Tryz.prog 148 := ⟨by kernel_rfl⟩
instance : TSz Tryz.prog 148 2 := ⟨by kernel_rfl⟩
instance : TBytes Tryz.prog 148 24 := ⟨by kernel_rfl⟩
instance : TZero Tryz.prog 148 [.string ⟨#[]⟩, .bool false] := ⟨by kernel_rfl⟩
instance : TPl Tryz.prog 148 [(0, 1), (1, 1)] := ⟨by kernel_rfl⟩
instance : TFld Tryz.prog 148 0 0 0 := ⟨by kernel_rfl⟩
instance : TFld Tryz.prog 148 1 1 0 := ⟨by kernel_rfl⟩
instance : TAgg Tryz.prog 149 := ⟨by kernel_rfl⟩
instance : TSz Tryz.prog 149 2 := ⟨by kernel_rfl⟩
instance : TBytes Tryz.prog 149 24 := ⟨by kernel_rfl⟩
instance : TZero Tryz.prog 149 [.string ⟨#[]⟩, .bool false] := ⟨by kernel_rfl⟩
instance : TPl Tryz.prog 149 [(0, 1), (1, 1)] := ⟨by kernel_rfl⟩
instance : TFld Tryz.prog 149 0 0 0 := ⟨by kernel_rfl⟩
instance : TFld Tryz.prog 149 1 1 0 := ⟨by kernel_rfl⟩
instance : TSlice Tryz.prog 159 165 := ⟨by kernel_rfl⟩
instance : TOne Tryz.prog 159 := ⟨by kernel_rfl⟩
instance : TSz Tryz.prog 159 1 := ⟨by kernel_rfl⟩
instance : TBytes Tryz.prog 159 24 := ⟨by kernel_rfl⟩
instance : TZero Tryz.prog 159 [.slice none 0 0] := ⟨by kernel_rfl⟩
instance : TSlice Tryz.prog 160 168 := ⟨by kernel_rfl⟩
instance : TOne Tryz.prog 160 := ⟨by kernel_rfl⟩
instance : TSz Tryz.prog 160 1 := ⟨by kernel_rfl⟩
instance : TBytes Tryz.prog 160 24 := ⟨by kernel_rfl⟩
instance : TZero Tryz.prog 160 [.slice none 0 0] := ⟨by kernel_rfl⟩
instance : TAgg Tryz.prog 161 := ⟨by kernel_rfl⟩
instance : TSz Tryz.prog 161 3 := ⟨by kernel_rfl⟩
instance : TBytes Tryz.prog 161 56 := ⟨by kernel_rfl⟩
instance : TZero Tryz.prog 161 [.slice none 0 0, .slice none 0 0, .int .i64 0] := ⟨by kernel_rfl⟩
instance : TPl Tryz.prog 161 [(0, 1), (1, 1), (2, 1)] := ⟨by kernel_rfl⟩
instance : TFld Tryz.prog 161 0 0 0 := ⟨by kernel_rfl⟩
instance : TFld Tryz.prog 161 1 1 0 := ⟨by kernel_rfl⟩
instance : TFld Tryz.prog 161 2 2 0 := ⟨by kernel_rfl⟩
instance : TAgg Tryz.prog 162 := ⟨by kernel_rfl⟩
instance : TSz Tryz.prog 162 3 := ⟨by kernel_rfl⟩
instance : TBytes Tryz.prog 162 56 := ⟨by kernel_rfl⟩
instance : TZero Tryz.prog 162 [.slice none 0 0, .slice none 0 0, .int .i64 0] := ⟨by kernel_rfl⟩
instance : TPl Tryz.prog 162 [(0, 1), (1, 1), (2, 1)] := ⟨by kernel_rfl⟩
instance : TFld Tryz.prog 162 0 0 0 := ⟨by kernel_rfl⟩
instance : TFld Tryz.prog 162 1 1 0 := ⟨by kernel_rfl⟩
instance : TFld Tryz.prog 162 2 2 0 := ⟨by kernel_rfl⟩
instance : TInt Tryz.prog 163 .u16 := ⟨by kernel_rfl⟩
instance : TOne Tryz.prog 163 := ⟨by kernel_rfl⟩
instance : TSz Tryz.prog 163 1 := ⟨by kernel_rfl⟩
instance : TBytes Tryz.prog 163 2 := ⟨by kernel_rfl⟩
instance : TZero Tryz.prog 163 [.int .u16 0] := ⟨by kernel_rfl⟩
instance : TAgg Tryz.prog 164 := ⟨by kernel_rfl⟩
instance : TSz Tryz.prog 164 3 := ⟨by kernel_rfl⟩
instance : TBytes Tryz.prog 164 6 := ⟨by kernel_rfl⟩
instance : TZero Tryz.prog 164 [.int .u16 0, .int .u16 0, .int .u16 0] := ⟨by kernel_rfl⟩
instance : TPl Tryz.prog 164 [(0, 1), (1, 1), (2, 1)] := ⟨by kernel_rfl⟩
instance : TFld Tryz.prog 164 0 0 0 := ⟨by kernel_rfl⟩
instance : TFld Tryz.prog 164 1 1 0 := ⟨by kernel_rfl⟩
instance : TFld Tryz.prog 164 2 2 0 := ⟨by kernel_rfl⟩
instance : TAgg Tryz.prog 165 := ⟨by kernel_rfl⟩
instance : TSz Tryz.prog 165 3 := ⟨by kernel_rfl⟩
instance : TBytes Tryz.prog 165 6 := ⟨by kernel_rfl⟩
instance : TZero Tryz.prog 165 [.int .u16 0, .int .u16 0, .int .u16 0] := ⟨by kernel_rfl⟩
instance : TPl Tryz.prog 165 [(0, 1), (1, 1), (2, 1)] := ⟨by kernel_rfl⟩
instance : TFld Tryz.prog 165 0 0 0 := ⟨by kernel_rfl⟩
instance : TFld Tryz.prog 165 1 1 0 := ⟨by kernel_rfl⟩
instance : TFld Tryz.prog 165 2 2 0 := ⟨by kernel_rfl⟩
instance : TAgg Tryz.prog 167 := ⟨by kernel_rfl⟩
instance : TSz Tryz.prog 167 3 := ⟨by kernel_rfl⟩
instance : TBytes Tryz.prog 167 12 := ⟨by kernel_rfl⟩
instance : TZero Tryz.prog 167 [.int .u32 0, .int .u32 0, .int .u32 0] := ⟨by kernel_rfl⟩
instance : TPl Tryz.prog 167 [(0, 1), (1, 1), (2, 1)] := ⟨by kernel_rfl⟩
instance : TFld Tryz.prog 167 0 0 0 := ⟨by kernel_rfl⟩
instance : TFld Tryz.prog 167 1 1 0 := ⟨by kernel_rfl⟩
instance : TFld Tryz.prog 167 2 2 0 := ⟨by kernel_rfl⟩
instance : TAgg Tryz.prog 168 := ⟨by kernel_rfl⟩
instance : TSz Tryz.prog 168 3 := ⟨by kernel_rfl⟩
instance : TBytes Tryz.prog 168 12 := ⟨by kernel_rfl⟩
instance : TZero Tryz.prog 168 [.int .u32 0, .int .u32 0, .int .u32 0] := ⟨by kernel_rfl⟩
instance : TPl Tryz.prog 168 [(0, 1), (1, 1), (2, 1)] := ⟨by kernel_rfl⟩
instance : TFld Tryz.prog 168 0 0 0 := ⟨by kernel_rfl⟩
instance : TFld Tryz.prog 168 1 1 0 := ⟨by kernel_rfl⟩
instance : TFld Tryz.prog 168 2 2 0 := ⟨by kernel_rfl⟩
instance : TArr Tryz.prog 170 24 5 := ⟨by kernel_rfl⟩
instance : TAgg Tryz.prog 170 := ⟨by kernel_rfl⟩
instance : TSz Tryz.prog 170 24 := ⟨by kernel_rfl⟩
instance : TBytes Tryz.prog 170 24 := ⟨by kernel_rfl⟩
instance : TZero Tryz.prog 170 [.int .u8 0, .int .u8 0, .int .u8 0, .int .u8 0, .int .u8 0, .int .u8 0, .int .u8 0, .int .u8 0, .int .u8 0, .int .u8 0, .int .u8 0, .int .u8 0, .int .u8 0, .int .u8 0, .int .u8 0, .int .u8 0, .int .u8 0, .int .u8 0, .int .u8 0, .int .u8 0, .int .u8 0, .int .u8 0, .int .u8 0, .int .u8 0] := ⟨by kernel_rfl⟩
instance : TInt Tryz.prog 171 .u64 := ⟨by kernel_rfl⟩
instance : TOne Tryz.prog 171 := ⟨by kernel_rfl⟩
instance : TSz Tryz.prog 171 1 := ⟨by kernel_rfl⟩
instance : TBytes Tryz.prog 171 8 := ⟨by kernel_rfl⟩
instance : TZero Tryz.prog 171 [.int .u64 0] := ⟨by kernel_rfl⟩
instance : TOne Tryz.prog 176 := ⟨by kernel_rfl⟩
instance : TSz Tryz.prog 176 1 := ⟨by kernel_rfl⟩
instance : TBytes Tryz.prog 176 8 := ⟨by kernel_rfl⟩
instance : TZero Tryz.prog 176 [.pointer none] := ⟨by kernel_rfl⟩
instance : TPtr Tryz.prog 187 165 := ⟨by kernel_rfl⟩
instance : TOne Tryz.prog 187 := ⟨by kernel_rfl⟩
instance : TSz Tryz.prog 187 1 := ⟨by kernel_rfl⟩
instance : TBytes Tryz.prog 187 8 := ⟨by kernel_rfl⟩
instance : TZero Tryz.prog 187 [.pointer none] := ⟨by kernel_rfl⟩
instance : TPtr Tryz.prog 188 168 := ⟨by kernel_rfl⟩
instance : TOne Tryz.prog 188 := ⟨by kernel_rfl⟩
instance : TSz Tryz.prog 188 1 := ⟨by kernel_rfl⟩
instance : TBytes Tryz.prog 188 8 := ⟨by kernel_rfl⟩
instance : TZero Tryz.prog 188 [.pointer none] := ⟨by kernel_rfl⟩
instance : TArr Tryz.prog 190 20 171 := ⟨by kernel_rfl⟩
instance : TAgg Tryz.prog 190 := ⟨by kernel_rfl⟩
instance : TSz Tryz.prog 190 20 := ⟨by kernel_rfl⟩
instance : TBytes Tryz.prog 190 160 := ⟨by kernel_rfl⟩
instance : TZero Tryz.prog 190 [.int .u64 0, .int .u64 0, .int .u64 0, .int .u64 0, .int .u64 0, .int .u64 0, .int .u64 0, .int .u64 0, .int .u64 0, .int .u64 0, .int .u64 0, .int .u64 0, .int .u64 0, .int .u64 0, .int .u64 0, .int .u64 0, .int .u64 0, .int .u64 0, .int .u64 0, .int .u64 0] := ⟨by kernel_rfl⟩
instance : TArr Tryz.prog 191 65 5 := ⟨by kernel_rfl⟩
instance : TAgg Tryz.prog 191 := ⟨by kernel_rfl⟩
instance : TSz Tryz.prog 191 65 := ⟨by kernel_rfl⟩
instance : TBytes Tryz.prog 191 65 := ⟨by kernel_rfl⟩
instance : TZero Tryz.prog 191 [.int .u8 0, .int .u8 0, .int .u8 0, .int .u8 0, .int .u8 0, .int .u8 0, .int .u8 0, .int .u8 0, .int .u8 0, .int .u8 0, .int .u8 0, .int .u8 0, .int .u8 0, .int .u8 0, .int .u8 0, .int .u8 0, .int .u8 0, .int .u8 0, .int .u8 0, .int .u8 0, .int .u8 0, .int .u8 0, .int .u8 0, .int .u8 0, .int .u8 0, .int .u8 0, .int .u8 0, .int .u8 0, .int .u8 0, .int .u8 0, .int .u8 0, .int .u8 0, .int .u8 0, .int .u8 0, .int .u8 0, .int .u8 0, .int .u8 0, .int .u8 0, .int .u8 0, .int .u8 0, .int .u8 0, .int .u8 0, .int .u8 0, .int .u8 0, .int .u8 0, .int .u8 0, .int .u8 0, .int .u8 0, .int .u8 0, .int .u8 0, .int .u8 0, .int .u8 0, .int .u8 0, .int .u8 0, .int .u8 0, .int .u8 0, .int .u8 0, .int .u8 0, .int .u8 0, .int .u8 0, .int .u8 0, .int .u8 0, .int .u8 0, .int .u8 0, .int .u8 0] := ⟨by kernel_rfl⟩
instance : TInt Tryz.prog 202 .i64 := ⟨by kernel_rfl⟩
instance : TOne Tryz.prog 202 := ⟨by kernel_rfl⟩
instance : TSz Tryz.prog 202 1 := ⟨by kernel_rfl⟩
instance : TBytes Tryz.prog 202 8 := ⟨by kernel_rfl⟩
instance : TZero Tryz.prog 202 [.int .i64 0] := ⟨by kernel_rfl⟩
instance : TArr Tryz.prog 209 32 5 := ⟨by kernel_rfl⟩
instance : TAgg Tryz.prog 209 := ⟨by kernel_rfl⟩
instance : TSz Tryz.prog 209 32 := ⟨by kernel_rfl⟩
instance : TBytes Tryz.prog 209 32 := ⟨by kernel_rfl⟩
instance : TZero Tryz.prog 209 [.int .u8 0, .int .u8 0, .int .u8 0, .int .u8 0, .int .u8 0, .int .u8 0, .int .u8 0, .int .u8 0, .int .u8 0, .int .u8 0, .int .u8 0, .int .u8 0, .int .u8 0, .int .u8 0, .int .u8 0, .int .u8 0, .int .u8 0, .int .u8 0, .int .u8 0, .int .u8 0, .int .u8 0, .int .u8 0, .int .u8 0, .int .u8 0, .int .u8 0, .int .u8 0, .int .u8 0, .int .u8 0, .int .u8 0, .int .u8 0, .int .u8 0, .int .u8 0] := ⟨by kernel_rfl⟩
instance : TArr Tryz.prog 210 64 5 := ⟨by kernel_rfl⟩
instance : TAgg Tryz.prog 210 := ⟨by kernel_rfl⟩
instance : TSz Tryz.prog 210 64 := ⟨by kernel_rfl⟩
instance : TBytes Tryz.prog 210 64 := ⟨by kernel_rfl⟩
instance : TZero Tryz.prog 210 [.int .u8 0, .int .u8 0, .int .u8 0, .int .u8 0, .int .u8 0, .int .u8 0, .int .u8 0, .int .u8 0, .int .u8 0, .int .u8 0, .int .u8 0, .int .u8 0, .int .u8 0, .int .u8 0, .int .u8 0, .int .u8 0, .int .u8 0, .int .u8 0, .int .u8 0, .int .u8 0, .int .u8 0, .int .u8 0, .int .u8 0, .int .u8 0, .int .u8 0, .int .u8 0, .int .u8 0, .int .u8 0, .int .u8 0, .int .u8 0, .int .u8 0, .int .u8 0, .int .u8 0, .int .u8 0, .int .u8 0, .int .u8 0, .int .u8 0, .int .u8 0, .int .u8 0, .int .u8 0, .int .u8 0, .int .u8 0, .int .u8 0, .int .u8 0, .int .u8 0, .int .u8 0, .int .u8 0, .int .u8 0, .int .u8 0, .int .u8 0, .int .u8 0, .int .u8 0, .int .u8 0, .int .u8 0, .int .u8 0, .int .u8 0, .int .u8 0, .int .u8 0, .int .u8 0, .int .u8 0, .int .u8 0, .int .u8 0, .int .u8 0, .int .u8 0] := ⟨by kernel_rfl⟩
instance : TInt Tryz.prog 211 .u64 := ⟨by kernel_rfl⟩
instance : TOne Tryz.prog 211 := ⟨by kernel_rfl⟩
instance : TSz Tryz.prog 211 1 := ⟨by kernel_rfl⟩
instance : TBytes Tryz.prog 211 8 := ⟨by kernel_rfl⟩
instance : TZero Tryz.prog 211 [.int .u64 0] := ⟨by kernel_rfl⟩
instance : TPtr Tryz.prog 215 3 := ⟨by kernel_rfl⟩
instance : TOne Tryz.prog 215 := ⟨by kernel_rfl⟩
instance : TSz Tryz.prog 215 1 := ⟨by kernel_rfl⟩
instance : TBytes Tryz.prog 215 8 := ⟨by kernel_rfl⟩
instance : TZero Tryz.prog 215 [.pointer none] := ⟨by kernel_rfl⟩
instance : TAgg Tryz.prog 217 := ⟨by kernel_rfl⟩
instance : TSz Tryz.prog 217 2 := ⟨by kernel_rfl⟩
instance : TBytes Tryz.prog 217 2 := ⟨by kernel_rfl⟩
instance : TZero Tryz.prog 217 [.int .u8 0, .int .u8 0] := ⟨by kernel_rfl⟩
instance : TPl Tryz.prog 217 [(0, 1), (1, 1)] := ⟨by kernel_rfl⟩
instance : TFld Tryz.prog 217 0 0 0 := ⟨by kernel_rfl⟩
instance : TFld Tryz.prog 217 1 1 0 := ⟨by kernel_rfl⟩
instance : TAgg Tryz.prog 218 := ⟨by kernel_rfl⟩
instance : TSz Tryz.prog 218 2 := ⟨by kernel_rfl⟩
instance : TBytes Tryz.prog 218 2 := ⟨by kernel_rfl⟩
instance : TZero Tryz.prog 218 [.int .u8 0, .int .u8 0] := ⟨by kernel_rfl⟩
instance : TPl Tryz.prog 218 [(0, 1), (1, 1)] := ⟨by kernel_rfl⟩
instance : TFld Tryz.prog 218 0 0 0 := ⟨by kernel_rfl⟩
instance : TFld Tryz.prog 218 1 1 0 := ⟨by kernel_rfl⟩
instance : TArr Tryz.prog 219 16 218 := ⟨by kernel_rfl⟩
instance : TAgg Tryz.prog 219 := ⟨by kernel_rfl⟩
instance : TSz Tryz.prog 219 32 := ⟨by kernel_rfl⟩
instance : TBytes Tryz.prog 219 32 := ⟨by kernel_rfl⟩
instance : TZero Tryz.prog 219 [.int .u8 0, .int .u8 0, .int .u8 0, .int .u8 0, .int .u8 0, .int .u8 0, .int .u8 0, .int .u8 0, .int .u8 0, .int .u8 0, .int .u8 0, .int .u8 0, .int .u8 0, .int .u8 0, .int .u8 0, .int .u8 0, .int .u8 0, .int .u8 0, .int .u8 0, .int .u8 0, .int .u8 0, .int .u8 0, .int .u8 0, .int .u8 0, .int .u8 0, .int .u8 0, .int .u8 0, .int .u8 0, .int .u8 0, .int .u8 0, .int .u8 0, .int .u8 0] := ⟨by kernel_rfl⟩
instance : TPtr Tryz.prog 222 211 := ⟨by kernel_rfl⟩
instance : TOne Tryz.prog 222 := ⟨by kernel_rfl⟩
instance : TSz Tryz.prog 222 1 := ⟨by kernel_rfl⟩
instance : TBytes Tryz.prog 222 8 := ⟨by kernel_rfl⟩
instance : TZero Tryz.prog 222 [.pointer none] := ⟨by kernel_rfl⟩
instance : TAgg Tryz.prog 225 := ⟨by kernel_rfl⟩
instance : TSz Tryz.prog 225 4 := ⟨by kernel_rfl⟩
instance : TBytes Tryz.prog 225 40 := ⟨by kernel_rfl⟩
instance : TZero Tryz.prog 225 [.pointer none, .pointer none, .pointer none, .string ⟨#[]⟩] := ⟨by kernel_rfl⟩
instance : TPl Tryz.prog 225 [(0, 1), (1, 1), (2, 1), (3, 1)] := ⟨by kernel_rfl⟩
instance : TFld Tryz.prog 225 0 0 0 := ⟨by kernel_rfl⟩
instance : TFld Tryz.prog 225 1 1 0 := ⟨by kernel_rfl⟩
instance : TFld Tryz.prog 225 2 2 0 := ⟨by kernel_rfl⟩
instance : TFld Tryz.prog 225 3 3 0 := ⟨by kernel_rfl⟩
instance : TArr Tryz.prog 227 0 16 := ⟨by kernel_rfl⟩
instance : TAgg Tryz.prog 227 := ⟨by kernel_rfl⟩
instance : TSz Tryz.prog 227 0 := ⟨by kernel_rfl⟩
instance : TBytes Tryz.prog 227 0 := ⟨by kernel_rfl⟩
instance : TZero Tryz.prog 227 [] := ⟨by kernel_rfl⟩
instance : TAgg Tryz.prog 228 := ⟨by kernel_rfl⟩
instance : TSz Tryz.prog 228 0 := ⟨by kernel_rfl⟩
instance : TBytes Tryz.prog 228 0 := ⟨by kernel_rfl⟩
instance : TZero Tryz.prog 228 [] := ⟨by kernel_rfl⟩
instance : TPl Tryz.prog 228 [(0, 0)] := ⟨by kernel_rfl⟩
instance : TAgg Tryz.prog 235 := ⟨by kernel_rfl⟩
instance : TSz Tryz.prog 235 11 := ⟨by kernel_rfl⟩
instance : TBytes Tryz.prog 235 48 := ⟨by kernel_rfl⟩
instance : TZero Tryz.prog 235 [.int .u64 0, .int .u64 0, .int .u32 0, .int .u8 0, .int .u8 0, .int .u8 0, .int .u8 0, .nilFunc, .pointer none, .int .i32 0, .int .i32 0] := ⟨by kernel_rfl⟩
instance : TPl Tryz.prog 235 [(0, 1), (1, 1), (2, 1), (3, 1), (4, 1), (5, 1), (6, 1), (7, 1), (8, 1), (9, 1), (10, 1)] := ⟨by kernel_rfl⟩
instance : TFld Tryz.prog 235 0 0 0 := ⟨by kernel_rfl⟩
instance : TFld Tryz.prog 235 1 1 0 := ⟨by kernel_rfl⟩
instance : TFld Tryz.prog 235 2 2 0 := ⟨by kernel_rfl⟩
instance : TFld Tryz.prog 235 3 3 0 := ⟨by kernel_rfl⟩
instance : TFld Tryz.prog 235 4 4 0 := ⟨by kernel_rfl⟩
instance : TFld Tryz.prog 235 5 5 0 := ⟨by kernel_rfl⟩
instance : TFld Tryz.prog 235 6 6 0 := ⟨by kernel_rfl⟩
instance : TFld Tryz.prog 235 7 7 0 := ⟨by kernel_rfl⟩
instance : TFld Tryz.prog 235 8 8 0 := ⟨by kernel_rfl⟩
instance : TFld Tryz.prog 235 9 9 0 := ⟨by kernel_rfl⟩
instance : TFld Tryz.prog 235 10 10 0 := ⟨by kernel_rfl⟩
instance : Fun Tryz.prog 3 := ⟨by kernel_rfl⟩
instance : Fun Tryz.prog 4 := ⟨by kernel_rfl⟩
instance : Fun Tryz.prog 5 := ⟨by kernel_rfl⟩
instance : Fun Tryz.prog 6 := ⟨by kernel_rfl⟩
instance : Fun Tryz.prog 7 := ⟨by kernel_rfl⟩
instance : Fun Tryz.prog 8 := ⟨by kernel_rfl⟩
instance : Fun Tryz.prog 9 := ⟨by kernel_rfl⟩
instance : Fun Tryz.prog 10 := ⟨by kernel_rfl⟩
instance : Fun Tryz.prog 11 := ⟨by kernel_rfl⟩
instance : Fun Tryz.prog 12 := ⟨by kernel_rfl⟩
instance : Fun Tryz.prog 13 := ⟨by kernel_rfl⟩
instance : Fun Tryz.prog 14 := ⟨by kernel_rfl⟩
instance : Fun Tryz.prog 15 := ⟨by kernel_rfl⟩
instance : Fun Tryz.prog 16 := ⟨by kernel_rfl⟩
instance : Fun Tryz.prog 17 := ⟨by kernel_rfl⟩
instance : Fun Tryz.prog 18 := ⟨by kernel_rfl⟩
instance : Fun Tryz.prog 19 := ⟨by kernel_rfl⟩
instance : Fun Tryz.prog 20 := ⟨by kernel_rfl⟩
instance : Fun Tryz.prog 21 := ⟨by kernel_rfl⟩
instance : Fun Tryz.prog 22 := ⟨by kernel_rfl⟩
instance : Fun Tryz.prog 23 := ⟨by kernel_rfl⟩
instance : Fun Tryz.prog 24 := ⟨by kernel_rfl⟩
instance : Fun Tryz.prog 25 := ⟨by kernel_rfl⟩
instance : Fun Tryz.prog 26 := ⟨by kernel_rfl⟩
instance : Fun Tryz.prog 27 := ⟨by kernel_rfl⟩
instance : Fun Tryz.prog 28 := ⟨by kernel_rfl⟩
instance : Fun Tryz.prog 29 := ⟨by kernel_rfl⟩
instance : Fun Tryz.prog 30 := ⟨by kernel_rfl⟩
instance : Fun Tryz.prog 31 := ⟨by kernel_rfl⟩
instance : Fun Tryz.prog 32 := ⟨by kernel_rfl⟩
instance : Fun Tryz.prog 33 := ⟨by kernel_rfl⟩
instance : Fun Tryz.prog 34 := ⟨by kernel_rfl⟩
instance : Fun Tryz.prog 35 := ⟨by kernel_rfl⟩
instance : Fun Tryz.prog 36 := ⟨by kernel_rfl⟩
instance : Fun Tryz.prog 37 := ⟨by kernel_rfl⟩
instance : Fun Tryz.prog 38 := ⟨by kernel_rfl⟩
instance : Fun Tryz.prog 39 := ⟨by kernel_rfl⟩
instance : Fun Tryz.prog 40 := ⟨by kernel_rfl⟩
instance : Fun Tryz.prog 41 := ⟨by kernel_rfl⟩
instance : Fun Tryz.prog 42 := ⟨by kernel_rfl⟩
instance : Fun Tryz.prog 43 := ⟨by kernel_rfl⟩
instance : Fun Tryz.prog 44 := ⟨by kernel_rfl⟩
instance : Fun Tryz.prog 45 := ⟨by kernel_rfl⟩
instance : Fun Tryz.prog 46 := ⟨by kernel_rfl⟩
instance : Fun Tryz.prog 47 := ⟨by kernel_rfl⟩
instance : Fun Tryz.prog 48 := ⟨by kernel_rfl⟩
instance : Fun Tryz.prog 49 := ⟨by kernel_rfl⟩
instance : Fun Tryz.prog 50 := ⟨by kernel_rfl⟩
instance : Fun Tryz.prog 51 := ⟨by kernel_rfl⟩
instance : Fun Tryz.prog 52 := ⟨by kernel_rfl⟩
instance : Fun Tryz.prog 53 := ⟨by kernel_rfl⟩
instance : Fun Tryz.prog 54 := ⟨by kernel_rfl⟩
instance : Fun Tryz.prog 55 := ⟨by kernel_rfl⟩
instance : Fun Tryz.prog 56 := ⟨by kernel_rfl⟩
instance : Fun Tryz.prog 57 := ⟨by kernel_rfl⟩
instance : Fun Tryz.prog 58 := ⟨by kernel_rfl⟩
instance : Fun Tryz.prog 59 := ⟨by kernel_rfl⟩
instance : Fun Tryz.prog 60 := ⟨by kernel_rfl⟩
instance : Fun Tryz.prog 61 := ⟨by kernel_rfl⟩
instance : Fun Tryz.prog 62 := ⟨by kernel_rfl⟩
instance : Fun Tryz.prog 63 := ⟨by kernel_rfl⟩
instance : Fun Tryz.prog 64 := ⟨by kernel_rfl⟩
instance : Fun Tryz.prog 65 := ⟨by kernel_rfl⟩
instance : Fun Tryz.prog 66 := ⟨by kernel_rfl⟩
instance : Fun Tryz.prog 67 := ⟨by kernel_rfl⟩
instance : Fun Tryz.prog 68 := ⟨by kernel_rfl⟩
instance : Fun Tryz.prog 69 := ⟨by kernel_rfl⟩
instance : Fun Tryz.prog 70 := ⟨by kernel_rfl⟩
instance : Fun Tryz.prog 71 := ⟨by kernel_rfl⟩
instance : Fun Tryz.prog 72 := ⟨by kernel_rfl⟩
instance : Fun Tryz.prog 73 := ⟨by kernel_rfl⟩
instance : Fun Tryz.prog 74 := ⟨by kernel_rfl⟩
instance : Fun Tryz.prog 75 := ⟨by kernel_rfl⟩
instance : Fun Tryz.prog 76 := ⟨by kernel_rfl⟩
instance : Fun Tryz.prog 77 := ⟨by kernel_rfl⟩
instance : Fun Tryz.prog 78 := ⟨by kernel_rfl⟩
instance : Fun Tryz.prog 79 := ⟨by kernel_rfl⟩
instance : Fun Tryz.prog 80 := ⟨by kernel_rfl⟩
instance : Fun Tryz.prog 81 := ⟨by kernel_rfl⟩
instance : Fun Tryz.prog 82 := ⟨by kernel_rfl⟩
instance : Fun Tryz.prog 83 := ⟨by kernel_rfl⟩
instance : Fun Tryz.prog 84 := ⟨by kernel_rfl⟩
instance : Fun Tryz.prog 85 := ⟨by kernel_rfl⟩
instance : Fun Tryz.prog 86 := ⟨by kernel_rfl⟩
instance : Fun Tryz.prog 87 := ⟨by kernel_rfl⟩
instance : Fun Tryz.prog 88 := ⟨by kernel_rfl⟩
instance : Fun Tryz.prog 89 := ⟨by kernel_rfl⟩
instance : Fun Tryz.prog 90 := ⟨by kernel_rfl⟩
instance : Fun Tryz.prog 91 := ⟨by kernel_rfl⟩
instance : Fun Tryz.prog 92 := ⟨by kernel_rfl⟩
instance : Fun Tryz.prog 93 := ⟨by kernel_rfl⟩
instance : Fun Tryz.prog 94 := ⟨by kernel_rfl⟩
instance : Fun Tryz.prog 95 := ⟨by kernel_rfl⟩
instance : Fun Tryz.prog 96 := ⟨by kernel_rfl⟩
instance : Fun Tryz.prog 97 := ⟨by kernel_rfl⟩
instance : Fun Tryz.prog 98 := ⟨by kernel_rfl⟩
instance : Fun Tryz.prog 99 := ⟨by kernel_rfl⟩
instance : Fun Tryz.prog 100 := ⟨by kernel_rfl⟩
instance : Fun Tryz.prog 101 := ⟨by kernel_rfl⟩
instance : Fun Tryz.prog 102 := ⟨by kernel_rfl⟩
instance : Fun Tryz.prog 103 := ⟨by kernel_rfl⟩
instance : Fun Tryz.prog 104 := ⟨by kernel_rfl⟩
instance : Fun Tryz.prog 105 := ⟨by kernel_rfl⟩
instance : Fun Tryz.prog 106 := ⟨by kernel_rfl⟩
instance : Fun Tryz.prog 107 := ⟨by kernel_rfl⟩
instance : Fun Tryz.prog 108 := ⟨by kernel_rfl⟩
instance : Fun Tryz.prog 109 := ⟨by kernel_rfl⟩
instance : Fun Tryz.prog 110 := ⟨by kernel_rfl⟩
instance : Fun Tryz.prog 111 := ⟨by kernel_rfl⟩
instance : Fun Tryz.prog 112 := ⟨by kernel_rfl⟩
instance : Fun Tryz.prog 113 := ⟨by kernel_rfl⟩
instance : Fun Tryz.prog 114 := ⟨by kernel_rfl⟩
instance : Fun Tryz.prog 115 := ⟨by kernel_rfl⟩
instance : Fun Tryz.prog 116 := ⟨by kernel_rfl⟩
instance : Fun Tryz.prog 117 := ⟨by kernel_rfl⟩
instance : Fun Tryz.prog 118 := ⟨by kernel_rfl⟩
instance : Fun Tryz.prog 119 := ⟨by kernel_rfl⟩
instance : Fun Tryz.prog 122 := ⟨by kernel_rfl⟩
instance : Fun Tryz.prog 123 := ⟨by kernel_rfl⟩
instance : Fun Tryz.prog 124 := ⟨by kernel_rfl⟩
instance : Fun Tryz.prog 125 := ⟨by kernel_rfl⟩
instance : Fun Tryz.prog 126 := ⟨by kernel_rfl⟩
instance : Fun Tryz.prog 127 := ⟨by kernel_rfl⟩
instance : Fun Tryz.prog 128 := ⟨by kernel_rfl⟩
instance : Fun Tryz.prog 129 := ⟨by kernel_rfl⟩
instance : Fun Tryz.prog 130 := ⟨by kernel_rfl⟩
instance : Fun Tryz.prog 131 := ⟨by kernel_rfl⟩
instance : Fun Tryz.prog 132 := ⟨by kernel_rfl⟩
instance : Fun Tryz.prog 133 := ⟨by kernel_rfl⟩
instance : Fun Tryz.prog 134 := ⟨by kernel_rfl⟩
instance : Fun Tryz.prog 135 := ⟨by kernel_rfl⟩
instance : Fun Tryz.prog 136 := ⟨by kernel_rfl⟩
instance : Fun Tryz.prog 137 := ⟨by kernel_rfl⟩
instance : Fun Tryz.prog 138 := ⟨by kernel_rfl⟩
instance : Fun Tryz.prog 139 := ⟨by kernel_rfl⟩
instance : Fun Tryz.prog 140 := ⟨by kernel_rfl⟩
instance : Fun Tryz.prog 141 := ⟨by kernel_rfl⟩
instance : Fun Tryz.prog 142 := ⟨by kernel_rfl⟩
instance : Fun Tryz.prog 143 := ⟨by kernel_rfl⟩
instance : Fun Tryz.prog 144 := ⟨by kernel_rfl⟩
instance : Fun Tryz.prog 145 := ⟨by kernel_rfl⟩
instance : Fun Tryz.prog 146 := ⟨by kernel_rfl⟩
instance : Fun Tryz.prog 147 := ⟨by kernel_rfl⟩
instance : Fun Tryz.prog 148 := ⟨by kernel_rfl⟩
instance : Fun Tryz.prog 149 := ⟨by kernel_rfl⟩
instance : Fun Tryz.prog 150 := ⟨by kernel_rfl⟩
instance : Fun Tryz.prog 151 := ⟨by kernel_rfl⟩
instance : Fun Tryz.prog 152 := ⟨by kernel_rfl⟩
instance : Fun Tryz.prog 153 := ⟨by kernel_rfl⟩
instance : Fun Tryz.prog 154 := ⟨by kernel_rfl⟩
instance : Fun Tryz.prog 155 := ⟨by kernel_rfl⟩
instance : Fun Tryz.prog 156 := ⟨by kernel_rfl⟩
instance : Fun Tryz.prog 157 := ⟨by kernel_rfl⟩
instance : Fun Tryz.prog 159 := ⟨by kernel_rfl⟩
instance : Fun Tryz.prog 160 := ⟨by kernel_rfl⟩
instance : Fun Tryz.prog 161 := ⟨by kernel_rfl⟩
instance : Fun Tryz.prog 162 := ⟨by kernel_rfl⟩
instance : Fun Tryz.prog 163 := ⟨by kernel_rfl⟩
instance : Fun Tryz.prog 164 := ⟨by kernel_rfl⟩
instance : Fun Tryz.prog 165 := ⟨by kernel_rfl⟩
instance : Fun Tryz.prog 166 := ⟨by kernel_rfl⟩
instance : Fun Tryz.prog 167 := ⟨by kernel_rfl⟩
instance : Fun Tryz.prog 168 := ⟨by kernel_rfl⟩
instance : Fun Tryz.prog 169 := ⟨by kernel_rfl⟩
instance : Fun Tryz.prog 170 := ⟨by kernel_rfl⟩
instance : Fun Tryz.prog 171 := ⟨by kernel_rfl⟩
instance : Fun Tryz.prog 172 := ⟨by kernel_rfl⟩
instance : Fun Tryz.prog 174 := ⟨by kernel_rfl⟩
instance : Fun Tryz.prog 175 := ⟨by kernel_rfl⟩
instance : Fun Tryz.prog 176 := ⟨by kernel_rfl⟩
instance : Fun Tryz.prog 177 := ⟨by kernel_rfl⟩
instance : Fun Tryz.prog 178 := ⟨by kernel_rfl⟩
instance : Fun Tryz.prog 179 := ⟨by kernel_rfl⟩
instance : Fun Tryz.prog 180 := ⟨by kernel_rfl⟩
instance : Fun Tryz.prog 181 := ⟨by kernel_rfl⟩
instance : Fun Tryz.prog 183 := ⟨by kernel_rfl⟩
instance : Fun Tryz.prog 184 := ⟨by kernel_rfl⟩
end Go.Proofs.YtealabaiamaojaaGreatDoor
namespace Go.Proofs.YtealabaiamaojaaGreatDoor
open Go.JW Go.RowKit

def isDigit (c : Int) : Bool := decide (48 ≤ c) && decide (c ≤ 57)
def isLetter (c : Int) : Bool := (decide (97 ≤ c) && decide (c ≤ 122)) || (decide (945 ≤ c) && decide (c ≤ 969))
theorem digit_c (c : Int) (w : World) : Calls Tryz.prog 135 #[.int .i32 c] w fun e w' => e = .returned (.bool (isDigit c)) ∧ Below w.heap.size w w' := by
  refine RS.enter Tryz.func135 Tryz.ntmps135 rfl rfl ?_
  refine zN ?_; refine asB ?_; refine LS.done ?_
  refine zN ?_; refine mvI ?_; refine geI ?_; refine mvB ?_; refine LS.part 5 (fun g5 => ?_) (fun g5 => ?_) <;> first | (cases g5; done) | (refine LS.on ?_; refine mvI ?_; refine LS.on ?_; refine JW.leI ?_; refine pk (v := .bool _) ?_; refine asB ?_; refine LS.done ?_) | (refine LS.off ?_; refine LS.off ?_; refine pk (v := .bool _) ?_; refine asB ?_; refine LS.done ?_)
  all_goals (refine zN ?_; refine RS.ret1 (v := .bool _) Tryz.func135 fun w hw => ?_; exact ⟨by clear hw; simp_all [isDigit] <;> omega, hw.below⟩)
theorem letter_c (c : Int) (w : World) : Calls Tryz.prog 134 #[.int .i32 c] w fun e w' => e = .returned (.bool (isLetter c)) ∧ Below w.heap.size w w' := by
  refine RS.enter Tryz.func134 Tryz.ntmps134 rfl rfl ?_
  refine zN ?_; refine asB ?_; refine LS.done ?_
  refine zN ?_; refine mvI ?_; refine geI ?_; refine mvB ?_; refine LS.part 5 (fun g5 => ?_) (fun g5 => ?_) <;> first | (cases g5; done) | (refine LS.on ?_; refine mvI ?_; refine LS.on ?_; refine JW.leI ?_; refine pk (v := .bool _) ?_; refine mvB ?_; refine LS.part 9 (fun g9 => ?_) (fun g9 => ?_) <;> first | (cases g9; done) | (refine LS.off ?_; refine LS.off ?_; refine LS.off ?_; refine LS.offU ?_; refine LS.offU ?_; refine LS.off ?_; refine pk (v := .bool _) ?_; refine asB ?_; refine LS.done ?_) | (refine LS.on ?_; refine mvI ?_; refine LS.on ?_; refine geI ?_; refine LS.on ?_; refine mvB ?_; refine LS.part 12 (fun g12 => ?_) (fun g12 => ?_) <;> first | (cases g12; done) | (refine LS.on ?_; refine mvI ?_; refine LS.on ?_; refine JW.leI ?_; refine LS.on ?_; refine pk (v := .bool _) ?_; refine pk (v := .bool _) ?_; refine asB ?_; refine LS.done ?_) | (refine LS.off ?_; refine LS.off ?_; refine LS.on ?_; refine pk (v := .bool _) ?_; refine pk (v := .bool _) ?_; refine asB ?_; refine LS.done ?_))) | (refine LS.off ?_; refine LS.off ?_; refine pk (v := .bool _) ?_; refine mvB ?_; refine LS.part 9 (fun g9 => ?_) (fun g9 => ?_) <;> first | (cases g9; done) | (refine LS.off ?_; refine LS.off ?_; refine LS.off ?_; refine LS.offU ?_; refine LS.offU ?_; refine LS.off ?_; refine pk (v := .bool _) ?_; refine asB ?_; refine LS.done ?_) | (refine LS.on ?_; refine mvI ?_; refine LS.on ?_; refine geI ?_; refine LS.on ?_; refine mvB ?_; refine LS.part 12 (fun g12 => ?_) (fun g12 => ?_) <;> first | (cases g12; done) | (refine LS.on ?_; refine mvI ?_; refine LS.on ?_; refine JW.leI ?_; refine LS.on ?_; refine pk (v := .bool _) ?_; refine pk (v := .bool _) ?_; refine asB ?_; refine LS.done ?_) | (refine LS.off ?_; refine LS.off ?_; refine LS.on ?_; refine pk (v := .bool _) ?_; refine pk (v := .bool _) ?_; refine asB ?_; refine LS.done ?_)))
  all_goals (refine zN ?_; refine RS.ret1 (v := .bool _) Tryz.func134 fun w hw => ?_; exact ⟨by clear hw; simp_all [isLetter] <;> omega, hw.below⟩)

def runesAt (s : ByteArray) : Nat → Nat → List (Nat × Int)
  | 0, _ => []
  | b + 1, pos => if pos < s.size then (pos, ((Utf8.decode s pos).1 : Int)) :: runesAt s b (pos + (Utf8.decode s pos).2) else []
def runes (s : ByteArray) : List (Nat × Int) := runesAt s s.size 0
theorem width_pos (s : ByteArray) (pos : Nat) (h : pos < s.size) : 1 ≤ (Utf8.decode s pos).2 := by
  by_cases ha : (s[pos]'h).toNat < 128
  · rw [decode_ascii s pos h ha]; exact Nat.le_refl _
  · exact (decode_high s pos h (by omega)).2
theorem runesAt_more (s : ByteArray) : ∀ (b b' pos : Nat), s.size ≤ pos + b → s.size ≤ pos + b' → runesAt s b pos = runesAt s b' pos := by
  intro b
  induction b with
  | zero => intro b' pos h h'; cases b' <;> simp [runesAt]; omega
  | succ b ih =>
    intro b' pos h h'
    cases b' with
    | zero => simp [runesAt]; omega
    | succ b' =>
      simp only [runesAt]
      by_cases hp : pos < s.size
      · rw [if_pos hp, if_pos hp, ih b' _ (by have := width_pos s pos hp; omega) (by have := width_pos s pos hp; omega)]
      · rw [if_neg hp, if_neg hp]
def left (s : ByteArray) (pos : Nat) : List (Nat × Int) := runesAt s (s.size - pos) pos
theorem left_step (s : ByteArray) (pos : Nat) (h : pos < s.size) : left s pos = (pos, ((Utf8.decode s pos).1 : Int)) :: left s (pos + (Utf8.decode s pos).2) := by
  unfold left
  obtain ⟨b, hb⟩ : ∃ b, s.size - pos = b + 1 := ⟨s.size - pos - 1, by omega⟩
  rw [hb, runesAt, if_pos h, runesAt_more s b (s.size - (pos + (Utf8.decode s pos).2))]
  · have := width_pos s pos h; omega
  · omega
theorem left_end (s : ByteArray) (pos : Nat) (h : ¬ pos < s.size) : left s pos = [] := by
  unfold left; rw [show s.size - pos = 0 by omega]; rfl
theorem left_length (s : ByteArray) : ∀ b pos, (runesAt s b pos).length ≤ b := by
  intro b
  induction b with
  | zero => intro pos; simp [runesAt]
  | succ b ih => intro pos; simp only [runesAt]; split <;> simp; exact ih _
theorem runes_le (s : ByteArray) : (runes s).length ≤ s.size := left_length s _ _
theorem runesN_c (s : ByteArray) (hs : s.size ≤ 9223372036854775806) (w : World) : Calls Tryz.prog 136 #[.string s] w fun e w' => e = .returned (.int .i64 (runes s).length) ∧ Below w.heap.size w w' := by
  have hrs := runes_le s
  refine RS.enter Tryz.func136 Tryz.ntmps136 rfl rfl ?_
  refine zN ?_; refine asI ?_; refine LS.done ?_
  refine zN ?_; refine asI ?_; refine LS.done ?_
  refine zN ?_; refine mvS ?_; refine rngS (fun b5 => ?_); refine LS.done ?_
  refine zN ?_
  refine RS.loopF (X := Nat × Nat) 3 11 (fun x => (runes s).length = x.2 + (left s x.1).length) (fun x => [(3, .int .i64 x.2), (5, .pointer (some ⟨b5, 0, none⟩))]) (fun _ => hp w) (fun x => [blk b5 (.stringIter s x.1)]) (fun x => s.size - x.1) (0, 0) (by simp [left, runes]) ⟨rfl, rfl, trivial⟩ rfl inferInstance ?_
  rintro ⟨pos, k⟩ g h1 ih
  dsimp only at h1
  refine zN ?_
  by_cases hp : pos < s.size
  · have hw := width_pos s pos hp
    rw [left_step s pos hp, List.length_cons] at h1
    refine nxtS hp ?_
    refine extr (v := .bool _) ?_; refine LS.done ?_
    refine zN ?_
    refine RS.condT ?_
    refine zN ?_; refine mvI ?_; (first | refine addN ?_ | refine addI ?_); refine asI ?_; refine LS.done ?_
    refine zN ?_
    exact ih (pos + (Utf8.decode s pos).2, k + 1) (by dsimp only; omega) (by dsimp only; omega) ⟨rfl, rfl, trivial⟩ (by repeat (first | with_reducible exact Out.refl _ _ _ | exact Out.hv | refine Out.upd ?_ | refine Out.hvIn ?_)) inferInstance rfl
  · refine nxtSEnd hp ?_
    refine extr (v := .bool _) ?_; refine LS.done ?_
    refine zN ?_
    refine RS.condF ?_
    refine zN ?_; refine mvI ?_; refine asI ?_; refine LS.done ?_
    refine zN ?_
    refine RS.ret1 (v := .int _ _) Tryz.func136 fun w hw => ?_
    rw [left_end s pos hp] at h1
    exact ⟨by rw [h1]; rfl, hw.below⟩

def nameRunes (l : List (Nat × Int)) : Bool := l.all fun p => isLetter p.2 || (isDigit p.2 && !decide (p.1 = 0))
def isName (s : ByteArray) : Bool := nameRunes (runes s) && (decide (s.size ≠ 0) && decide ((runes s).length ≤ 8))
theorem name_c (s : ByteArray) (hs : s.size ≤ 9223372036854775806) (w : World) : Calls Tryz.prog 110 #[.string s] w fun e w' => e = .returned (.bool (isName s)) ∧ Below w.heap.size w w' := by
  refine RS.enter Tryz.func110 Tryz.ntmps110 rfl rfl ?_
  refine zN ?_; refine asB ?_; refine LS.done ?_
  refine zN ?_; refine mvS ?_; refine rngS (fun b6 => ?_); refine LS.done ?_
  refine zN ?_
  refine RS.loopF (X := Nat) 3 23 (fun x => nameRunes (runes s) = nameRunes (left s x)) (fun x => [(6, .pointer (some ⟨b6, 0, none⟩))]) (fun _ => hp w) (fun x => [blk b6 (.stringIter s x)]) (fun x => s.size - x) 0 (by simp [left, runes]) ⟨rfl, trivial⟩ rfl inferInstance ?_
  rintro pos g h1 ih
  refine zN ?_
  by_cases hp : pos < s.size
  · have hw := width_pos s pos hp
    rw [left_step s pos hp] at h1
    simp only [nameRunes, List.all_cons] at h1
    refine nxtS hp ?_
    refine extr (v := .bool _) ?_; refine LS.done ?_
    refine zN ?_
    refine RS.condT ?_
    refine zN ?_; refine extr (v := .int _ _) ?_; refine extr (v := .int _ _) ?_; refine asI ?_; refine asI ?_; refine LS.done ?_
    refine zN ?_; refine mvI ?_
    refine callP ?_ (hc := fun w _ => letter_c _ w)
    refine not_ ?_; refine mvB ?_
    refine LS.part 14 (fun gl => ?_) (fun gl => ?_)
    · refine LS.on ?_; refine mvI ?_; refine LS.on ?_
      refine callP ?_ (hc := fun w _ => digit_c _ w)
      refine LS.on ?_; refine not_ ?_; refine LS.on ?_; refine mvB ?_; refine LS.part 18 (fun g18 => ?_) (fun g18 => ?_) <;> first | (cases g18; done) | (refine LS.off ?_; refine LS.off ?_; refine LS.on ?_; refine pk (v := .bool _) ?_; refine pk (v := .bool _) ?_; refine LS.done ?_) | (refine LS.on ?_; refine mvI ?_; refine LS.on ?_; refine eqI ?_; refine LS.on ?_; refine pk (v := .bool _) ?_; refine pk (v := .bool _) ?_; refine LS.done ?_)
      · refine zN ?_
        refine RS.condT ?_
        refine zN ?_; refine asB ?_; refine LS.done ?_; refine zN ?_; refine RS.ret1 (v := .bool _) Tryz.func110 fun w hw => ?_
        exact ⟨retB (by clear hw; simp_all [isName, nameRunes]), hw.below⟩
      · refine zN ?_
        refine RS.cond (fun c22 => ?_) (fun c22 => ?_)
        · refine zN ?_; refine asB ?_; refine LS.done ?_; refine zN ?_; refine RS.ret1 (v := .bool _) Tryz.func110 fun w hw => ?_
          refine ⟨retB ?_, hw.below⟩
          clear hw
          simp at gl g18 c22
          have : pos = 0 := by omega
          rw [this] at gl
          simp [isName, nameRunes, h1, gl, this]
        · refine zN ?_
          simp at gl g18 c22
          have : ¬ pos = 0 := by omega
          exact ih (pos + (Utf8.decode s pos).2) (by simp [nameRunes, h1, gl, g18, this]) (by omega) ⟨rfl, trivial⟩ (by repeat (first | with_reducible exact Out.refl _ _ _ | exact Out.hv | refine Out.upd ?_ | refine Out.hvIn ?_)) inferInstance rfl
    · refine LS.off ?_; refine LS.off ?_; refine LS.off ?_; refine LS.off ?_; refine LS.offU ?_; refine LS.offU ?_; refine LS.off ?_; refine pk (v := .bool _) ?_; refine LS.done ?_
      refine zN ?_
      refine RS.condF ?_
      refine zN ?_
      simp at gl
      exact ih (pos + (Utf8.decode s pos).2) (by simp [nameRunes, h1, gl]) (by omega) ⟨rfl, trivial⟩ (by repeat (first | with_reducible exact Out.refl _ _ _ | exact Out.hv | refine Out.upd ?_ | refine Out.hvIn ?_)) inferInstance rfl
  · refine nxtSEnd hp ?_
    refine extr (v := .bool _) ?_; refine LS.done ?_
    refine zN ?_
    refine RS.condF ?_
    rw [left_end s pos hp] at h1
    have hn : nameRunes (runes s) = true := h1
    refine zN ?_; refine mvS ?_; refine neS ?_; refine mvB ?_
    refine LS.part 25 (fun g => ?_) (fun g => ?_)
    · refine LS.on ?_; refine mvS ?_; refine LS.on ?_
      refine callP ?_ (hc := fun w _ => runesN_c _ hs w)
      refine LS.on ?_; refine JW.leI ?_; refine pk (v := .bool _) ?_; refine asB ?_; refine LS.done ?_
      refine zN ?_; refine RS.ret1 (v := .bool _) Tryz.func110 fun w hw => ?_
      refine ⟨retB ?_, hw.below⟩
      clear hw
      simp at g
      have h0 : s.size ≠ 0 := fun h => g (by cases s with | mk d => simp [ByteArray.size] at h; rw [h])
      rw [isName, hn]
      simp [h0]
      omega
    · refine LS.off ?_; refine LS.off ?_; refine LS.off ?_; refine pk (v := .bool _) ?_; refine asB ?_; refine LS.done ?_
      refine zN ?_; refine RS.ret1 (v := .bool _) Tryz.func110 fun w hw => ?_
      refine ⟨retB ?_, hw.below⟩
      clear hw
      simp at g
      subst g; rfl
end Go.Proofs.YtealabaiamaojaaGreatDoor
namespace Go.Proofs.YtealabaiamaojaaGreatDoor
open Go.JW Go.RowKit

structure PodD where
  name : ByteArray
  shard : Int
  cpu : Int
  mem : Int
  picks : List ByteArray
  bears : List ByteArray
  alone : Bool
structure NodeD where
  name : ByteArray
  cpu : Int
  mem : Int
  marks : List ByteArray
  taints : List ByteArray
  closed : Bool
structure PlaceD where
  pod : ByteArray
  node : ByteArray
  cpu : Int
  mem : Int
  alone : Bool
structure GangD where
  id : Int
  pods : List PodD
def podC (p : PodD) (vp vb : Value) : List Value := [.string p.name, .int .i64 p.shard, .int .i64 p.cpu, .int .i64 p.mem, vp, vb, .bool p.alone]
def nodeC (p : NodeD) (vm vt : Value) : List Value := [.string p.name, .int .i64 p.cpu, .int .i64 p.mem, vm, vt, .bool p.closed]
instance : Rep PodD where
  sz := 7
  rep σ cs p := ∃ vp vb, cs = podC p vp vb ∧ p.name.size ≤ 140737488355328 ∧ I64 p.shard ∧ I64 p.cpu ∧ I64 p.mem ∧ RepL σ vp p.picks ∧ RepL σ vb p.bears
  len h := by obtain ⟨_, _, rfl, _⟩ := h; rfl
  one h := by obtain ⟨_, _, rfl, _, _, _, _, h1, h2⟩ := h; obtain ⟨_, _, rfl⟩ := h1.form; obtain ⟨_, _, rfl⟩ := h2.form; rfl
  mono h hs := let ⟨a, b, e, h1, h2, h3, h4, h5, h6⟩ := h; ⟨a, b, e, h1, h2, h3, h4, h5.mono hs, h6.mono hs⟩
instance : Rep NodeD where
  sz := 6
  rep σ cs p := ∃ vp vb, cs = nodeC p vp vb ∧ p.name.size ≤ 140737488355328 ∧ I64 p.cpu ∧ I64 p.mem ∧ RepL σ vp p.marks ∧ RepL σ vb p.taints
  len h := by obtain ⟨_, _, rfl, _⟩ := h; rfl
  one h := by obtain ⟨_, _, rfl, _, _, _, h1, h2⟩ := h; obtain ⟨_, _, rfl⟩ := h1.form; obtain ⟨_, _, rfl⟩ := h2.form; rfl
  mono h hs := let ⟨a, b, e, h1, h3, h4, h5, h6⟩ := h; ⟨a, b, e, h1, h3, h4, h5.mono hs, h6.mono hs⟩
def placeC (p : PlaceD) : List Value := [.string p.pod, .string p.node, .int .i64 p.cpu, .int .i64 p.mem, .bool p.alone]
instance : Rep PlaceD where
  sz := 5
  rep _ cs p := cs = placeC p ∧ p.pod.size ≤ 140737488355328 ∧ p.node.size ≤ 140737488355328 ∧ I64 p.cpu ∧ I64 p.mem
  len h := by obtain ⟨rfl, _⟩ := h; rfl
  one h := by obtain ⟨rfl, _⟩ := h; rfl
  mono h _ := h
instance : Rep GangD where
  sz := 2
  rep σ cs g := ∃ v, cs = [.int .i64 g.id, v] ∧ I64 g.id ∧ RepL σ v g.pods
  len h := by obtain ⟨_, rfl, _⟩ := h; rfl
  one h := by obtain ⟨_, rfl, _, h1⟩ := h; obtain ⟨_, _, rfl⟩ := h1.form; rfl
  mono h hs := let ⟨a, e, h1, h2⟩ := h; ⟨a, e, h1, h2.mono hs⟩

def setAtI (l : List ByteArray) (i : Nat) : Bool := isName (l.getD i ⟨#[]⟩) && (decide (i = 0) || sLt (l.getD (i - 1) ⟨#[]⟩) (l.getD i ⟨#[]⟩))
def setTo (l : List ByteArray) (k : Nat) : Bool := (List.range k).all (setAtI l)
def isSet (l : List ByteArray) : Bool := setTo l l.length && decide (l.length ≤ 4)
theorem setTo_succ (l : List ByteArray) (k : Nat) : setTo l (k + 1) = (setTo l k && setAtI l k) := by simp [setTo, List.range_succ]
theorem setTo_not {l : List ByteArray} {k n : Nat} (hk : k < n) (h : setAtI l k = false) : setTo l n = false := by
  rw [Bool.eq_false_iff]
  intro hs
  simp only [setTo, List.all_eq_true, List.mem_range] at hs
  rw [hs k hk] at h; cases h
def size1 (n : Int) : Bool := decide (0 ≤ n) && decide (n ≤ 1099511627776)
def sizeOk (c m : Int) : Bool := size1 c && size1 m
def nodeErr (p : NodeD) : Int :=
  if isName p.name = false then 1 else if sizeOk p.cpu p.mem = false then 2 else if (!isSet p.marks || !isSet p.taints) = true then 1 else 0
end Go.Proofs.YtealabaiamaojaaGreatDoor
namespace Go.Proofs.YtealabaiamaojaaGreatDoor
open Go.JW Go.RowKit

theorem part_c (c : Int) (w : World) : Calls Tryz.prog 150 #[.int .i64 c] w fun e w' => e = .returned (.bool (size1 c)) ∧ Below w.heap.size w w' := by
  refine RS.enter Tryz.func150 Tryz.ntmps150 rfl rfl ?_
  refine zN ?_; refine asB ?_; refine LS.done ?_
  refine zN ?_; refine mvI ?_; refine geI ?_; refine mvB ?_; refine LS.part 5 (fun g5 => ?_) (fun g5 => ?_) <;> first | (cases g5; done) | (refine LS.on ?_; refine mvI ?_; refine LS.on ?_; refine JW.leI ?_; refine pk (v := .bool _) ?_; refine asB ?_; refine LS.done ?_) | (refine LS.off ?_; refine LS.off ?_; refine pk (v := .bool _) ?_; refine asB ?_; refine LS.done ?_)
  all_goals (refine zN ?_; refine RS.ret1 (v := .bool _) Tryz.func150 fun w hw => ?_; exact ⟨retB (by clear hw; simp_all [size1] <;> omega), hw.below⟩)
theorem room_c (c m : Int) (w : World) : Calls Tryz.prog 132 #[.agg #[.int .i64 c, .int .i64 m]] w fun e w' => e = .returned (.bool (sizeOk c m)) ∧ Below w.heap.size w w' := by
  refine RS.enter Tryz.func132 Tryz.ntmps132 rfl rfl ?_
  refine zN ?_; refine box_ (v := .agg _) (cs := [_, _]) (fun b1 => ?_); refine asB ?_; refine LS.done ?_
  refine zN ?_; refine fld ?_; refine ld1 (v := .int _ _) ?_
  refine callP ?_ (hc := fun w _ => part_c _ w)
  refine mvB ?_
  refine LS.part 6 (fun g => ?_) (fun g => ?_)
  · refine LS.on ?_; refine fld ?_; refine LS.on ?_; refine ld1 (v := .int _ _) ?_; refine LS.on ?_
    refine callP ?_ (hc := fun w _ => part_c _ w)
    refine pk (v := .bool _) ?_; refine asB ?_; refine LS.done ?_
    refine zN ?_; refine RS.ret1 (v := .bool _) Tryz.func132 fun w hw => ?_
    exact ⟨retB (by rw [sizeOk, g]; rfl), hw.below⟩
  · refine LS.off ?_; refine LS.off ?_; refine LS.off ?_; refine pk (v := .bool _) ?_; refine asB ?_; refine LS.done ?_
    refine zN ?_; refine RS.ret1 (v := .bool _) Tryz.func132 fun w hw => ?_
    exact ⟨retB (by rw [sizeOk, g]; rfl), hw.below⟩
theorem getD_of {l : List ByteArray} {i : Nat} (h : i < l.length) : l.getD i ⟨#[]⟩ = l[i] := by simp [List.getD_eq_getElem?_getD, h]
theorem set_c (l : List ByteArray) (v : Value) (w : World) (h : RepL (hp w) v l) : Calls Tryz.prog 133 #[v] w fun e w' => e = .returned (.bool (isSet l)) ∧ Below w.heap.size w w' := by
  obtain ⟨a, cap, rfl⟩ := h.form
  have hlen : l.length ≤ 140737488355328 := h.1
  refine RS.enter Tryz.func133 Tryz.ntmps133 rfl rfl ?_
  refine zN ?_; refine asB ?_; refine LS.done ?_
  refine zN ?_; refine mvL ?_; refine lenL ?_; refine mvI ?_; refine LS.done ?_
  refine zN ?_
  refine RS.loopF (X := Nat) 3 29 (fun k => k ≤ l.length ∧ setTo l k = true) (fun k => [(5, .slice a l.length cap), (6, .int .i64 l.length), (7, .int .i64 k)]) (fun _ => hp w) (fun _ => []) (fun k => l.length - k) 0 ⟨by omega, rfl⟩ ⟨rfl, rfl, rfl, trivial⟩ rfl inferInstance ?_
  rintro k g ⟨hk, hs⟩ ih
  refine zN ?_; refine ltI ?_; refine LS.done ?_
  refine zN ?_
  by_cases hlt : k < l.length
  · refine RS.condT ?_ (h := by simp; exact hlt)
    obtain ⟨b, o, rfl, hr⟩ := h.addr (fun h => by simp [h] at hlt)
    obtain ⟨hc, hsz⟩ := hr.str k hlt
    refine zN ?_; refine mvI ?_; refine idx ?_; refine ldS hc ?_; refine asI ?_; refine asS ?_; refine LS.done ?_
    refine zN ?_; refine mvS ?_
    refine callP ?_ (hc := fun w _ => name_c _ (by omega) w)
    refine not_ ?_; refine mvB ?_
    refine LS.cut 14 28 [(27, .bool (!setAtI l k))] (fun g => ?_) (fun J => ?_)
    · refine zN ?_
      refine RS.cond (fun c => ?_) (fun c => ?_)
      · refine zN ?_; refine asB ?_; refine LS.done ?_; refine zN ?_; refine RS.ret1 (v := .bool _) Tryz.func133 fun w hw => ?_
        exact ⟨retB (by simp at c; rw [isSet, setTo_not hlt c]; rfl), hw.below⟩
      · refine zN ?_; (first | refine addN ?_ | refine addI ?_); refine mvI ?_; refine LS.done ?_; refine zN ?_
        simp at c
        exact ih (k + 1) ⟨hlt, by rw [setTo_succ, hs, c]; rfl⟩ (by omega) ⟨rfl, rfl, rfl, trivial⟩ (by repeat (first | with_reducible exact Out.refl _ _ _ | exact Out.hv | refine Out.upd ?_ | refine Out.hvIn ?_)) inferInstance rfl
    · refine LS.part 15 (fun gn => ?_) (fun gn => ?_)
      · refine LS.off ?_; refine LS.off ?_; refine LS.off ?_; refine LS.offU ?_; refine LS.offU ?_; refine LS.offU ?_; refine LS.offU ?_; refine LS.offU ?_; refine LS.offU ?_; refine LS.offU ?_; refine LS.off ?_; refine pk (v := .bool _) ?_; refine LS.done ?_
        refine J ⟨boolV ?_, trivial⟩ (by repeat (first | with_reducible exact Out.refl _ _ _ | exact Out.hv | refine Out.upd ?_ | refine Out.hvIn ?_))
        simp at gn; rw [setAtI, getD_of hlt, gn]; rfl
      · refine LS.on ?_; refine mvI ?_; refine LS.on ?_; refine gtI ?_; refine LS.on ?_; refine mvB ?_
        refine LS.part 18 (fun g0 => ?_) (fun g0 => ?_)
        · have g0' : 0 < k := by simp at g0; omega
          have hc' := (hr.str (k - 1) (by omega)).1
          refine LS.on ?_; refine mvL ?_; refine LS.on ?_; refine mvI ?_; refine LS.on ?_; (first | refine subN ?_ | refine subI ?_); refine LS.on ?_; refine idx (i := k - 1) ?_ (hj := by omega); refine LS.on ?_; refine ldS hc' ?_; refine LS.on ?_; refine mvS ?_; refine LS.on ?_; refine geS ?_; refine LS.on ?_; refine pk (v := .bool _) ?_; refine pk (v := .bool _) ?_; refine LS.done ?_
          refine J ⟨boolV ?_, trivial⟩ (by repeat (first | with_reducible exact Out.refl _ _ _ | exact Out.hv | refine Out.upd ?_ | refine Out.hvIn ?_))
          simp at gn
          rw [setAtI, getD_of hlt, getD_of (by omega), gn]; simp; omega
        · refine LS.off ?_; refine LS.off ?_; refine LS.off ?_; refine LS.off ?_; refine LS.off ?_; refine LS.off ?_; refine LS.off ?_; refine LS.on ?_; refine pk (v := .bool _) ?_; refine pk (v := .bool _) ?_; refine LS.done ?_
          refine J ⟨boolV ?_, trivial⟩ (by repeat (first | with_reducible exact Out.refl _ _ _ | exact Out.hv | refine Out.upd ?_ | refine Out.hvIn ?_))
          simp at gn g0
          rw [setAtI, getD_of hlt, gn]; simp; omega
  · refine RS.condF ?_ (h := by simp; omega)
    obtain rfl : k = l.length := by omega
    refine zN ?_; refine mvL ?_; refine lenL ?_; refine JW.leI ?_; refine asB ?_; refine LS.done ?_; refine zN ?_; refine RS.ret1 (v := .bool _) Tryz.func133 fun w hw => ?_
    exact ⟨retB (by rw [isSet, hs]; simp; omega), hw.below⟩

end Go.Proofs.YtealabaiamaojaaGreatDoor
namespace Go.Proofs.YtealabaiamaojaaGreatDoor
open Go.JW Go.RowKit

theorem node_c (cs : List Value) (p : NodeD) (w : World) (h : Rep.rep (hp w) cs p) : Calls Tryz.prog 109 #[.agg cs.toArray] w fun e w' => e = .returned (.int .i64 (nodeErr p)) ∧ Below w.heap.size w w' := by
  obtain ⟨vp, vb, rfl, hn, hc, hm, hp, hb⟩ := h
  unfold nodeC
  obtain ⟨ap, cp, rfl⟩ := hp.form
  obtain ⟨ab, cb, rfl⟩ := hb.form
  refine RS.enter Tryz.func109 Tryz.ntmps109 rfl rfl ?_
  refine zN ?_; refine box_ (v := .agg _) (cs := [_, _, _, _, _, _]) (fun b1 => ?_); refine asI ?_; refine LS.done ?_
  refine zN ?_; refine fld ?_; refine ld1 (v := .string _) ?_
  refine callP ?_ (hc := fun w _ => name_c _ (by omega) w)
  refine not_ ?_; refine asB ?_; refine LS.done ?_; refine zN ?_
  refine RS.cond (fun c1 => ?_) (fun c1 => ?_)
  · refine zN ?_; refine asI ?_; refine LS.done ?_; refine zN ?_; refine RS.ret1 (v := .int _ _) Tryz.func109 fun w hw => ?_
    exact ⟨retI (by simp at c1; simp [nodeErr, c1]), hw.below⟩
  simp at c1
  refine zN ?_; refine fld ?_; refine ldA [_, _] ?_
  refine callP ?_ (hc := fun w _ => room_c _ _ w)
  refine not_ ?_; refine asB ?_; refine LS.done ?_; refine zN ?_
  refine RS.cond (fun c2 => ?_) (fun c2 => ?_)
  · refine zN ?_; refine asI ?_; refine LS.done ?_; refine zN ?_; refine RS.ret1 (v := .int _ _) Tryz.func109 fun w hw => ?_
    exact ⟨retI (by simp at c2; rw [nodeErr, c1, c2]; rfl), hw.below⟩
  simp at c2
  refine zN ?_; refine fld ?_; refine ld1 (v := .slice _ _ _) ?_
  refine callP ?_ (hc := fun w hw => set_c p.marks _ w (hp.mono hw.imm))
  refine not_ ?_; refine mvB ?_
  refine LS.part 18 (fun g3 => ?_) (fun g3 => ?_)
  · refine LS.off ?_; refine LS.off ?_; refine LS.off ?_; refine LS.off ?_; refine pk (v := .bool _) ?_; refine asB ?_; refine LS.done ?_; refine zN ?_
    refine RS.condT ?_
    refine zN ?_; refine asI ?_; refine LS.done ?_; refine zN ?_; refine RS.ret1 (v := .int _ _) Tryz.func109 fun w hw => ?_
    exact ⟨retI (by simp at g3; rw [nodeErr, c1, c2, g3]; rfl), hw.below⟩
  · refine LS.on ?_; refine fld ?_; refine LS.on ?_; refine ld1 (v := .slice _ _ _) ?_; refine LS.on ?_
    refine callP ?_ (hc := fun w hw => set_c p.taints _ w (hb.mono hw.imm))
    refine LS.on ?_; refine not_ ?_; refine pk (v := .bool _) ?_; refine asB ?_; refine LS.done ?_; refine zN ?_
    refine RS.cond (fun c4 => ?_) (fun c4 => ?_)
    · refine zN ?_; refine asI ?_; refine LS.done ?_; refine zN ?_; refine RS.ret1 (v := .int _ _) Tryz.func109 fun w hw => ?_
      exact ⟨retI (by simp at g3 c4; rw [nodeErr, c1, c2, g3, c4]; rfl), hw.below⟩
    · refine zN ?_; refine asI ?_; refine LS.done ?_; refine zN ?_; refine RS.ret1 (v := .int _ _) Tryz.func109 fun w hw => ?_
      exact ⟨retI (by simp at g3 c4; rw [nodeErr, c1, c2, g3, c4]; rfl), hw.below⟩
end Go.Proofs.YtealabaiamaojaaGreatDoor
namespace Go.Proofs.YtealabaiamaojaaGreatDoor
open Go.JW Go.RowKit
abbrev Bs := List UInt8
def B (l : Bs) : ByteArray := ⟨l.toArray⟩
def bs (s : ByteArray) : Bs := s.data.toList
theorem B_size (l : Bs) : (B l).size = l.length := by simp [B, ByteArray.size]
theorem B_app (a b : Bs) : B (a ++ b) = B a ++ B b := by
  apply ByteArray.ext; simp [B]
theorem B_bs (s : ByteArray) : B (bs s) = s := by simp [B, bs]
theorem bs_B (l : Bs) : bs (B l) = l := by simp [B, bs]
theorem B_inj {a b : Bs} : B a = B b ↔ a = b := ⟨fun h => by rw [← bs_B a, h, bs_B], fun h => by rw [h]⟩
structure RecD where
  kind : Int
  gang : Int
  peers : List Int
  places : List PlaceD
  node : NodeD
def node0 : NodeD := ⟨⟨#[]⟩, 0, 0, [], [], false⟩
def rec0 : RecD := ⟨0, 0, [], [], node0⟩
def digF : Nat → Nat → Bs
  | 0, _ => []
  | f + 1, n => if n < 10 then [UInt8.ofNat (48 + n)] else digF f (n / 10) ++ [UInt8.ofNat (48 + n % 10)]
def digN (n : Nat) : Bs := digF 20 n
def isD (c : UInt8) : Bool := decide (48 ≤ c.toNat) && decide (c.toNat ≤ 57)
def valD (ds : Bs) : Nat := ds.foldl (fun n c => n * 10 + (c.toNat - 48)) 0
theorem head_app {α : Type} {a b : List α} (h : a ≠ []) : (a ++ b).head? = a.head? := by cases a with
  | nil => exact absurd rfl h
  | cons x a => rfl
theorem dig_nat {d : Nat} (h : d < 10) : (UInt8.ofNat (48 + d)).toNat = 48 + d := by simp [UInt8.toNat_ofNat']; omega
theorem isD_of {d : Nat} (h : d < 10) : isD (UInt8.ofNat (48 + d)) = true := by
  unfold isD; rw [dig_nat h]; simp; omega
theorem valD_snoc (ds : Bs) (c : UInt8) : valD (ds ++ [c]) = valD ds * 10 + (c.toNat - 48) := by simp [valD]
theorem digF_spec : ∀ (f n : Nat), n < 10 ^ f → 0 < f → (∀ c ∈ digF f n, isD c = true) ∧ valD (digF f n) = n ∧ digF f n ≠ [] ∧ (digF f n).length ≤ f ∧ (∀ k, n < 10 ^ (k + 1) → (digF f n).length ≤ k + 1) ∧ ((digF f n).head? = some 48 → (digF f n).length = 1) := by
  intro f
  induction f with
  | zero => intro n _ h; omega
  | succ f ih =>
    intro n hn _
    simp only [digF]
    by_cases h : n < 10
    · rw [if_pos h]
      refine ⟨by simpa using isD_of h, ?_, by simp, by simp, fun k _ => by simp, by simp⟩
      simp only [valD, List.foldl_cons, List.foldl_nil]; rw [dig_nat h]; omega
    · rw [if_neg h]
      have hp : 10 ^ (f + 1) = 10 ^ f * 10 := Nat.pow_succ ..
      have hf : 0 < f := by
        rcases Nat.eq_zero_or_pos f with e | e
        · subst e; simp at hn; omega
        · exact e
      obtain ⟨h1, h2, h3, h4, h5, h6⟩ := ih (n / 10) (by rw [Nat.div_lt_iff_lt_mul (by omega)]; omega) hf
      have hm : n % 10 < 10 := Nat.mod_lt _ (by omega)
      refine ⟨fun c hc => ?_, ?_, by simp, by simp; omega, fun k hk => ?_, fun hh => ?_⟩
      · rcases List.mem_append.1 hc with hc | hc
        · exact h1 c hc
        · rw [List.mem_singleton.1 hc]; exact isD_of hm
      · rw [valD_snoc, h2, dig_nat hm]; omega
      · rcases k with _ | k
        · simp at hk; omega
        · have hp2 : 10 ^ (k + 1 + 1) = 10 ^ (k + 1) * 10 := Nat.pow_succ ..
          have := h5 k (by rw [Nat.div_lt_iff_lt_mul (by omega)]; omega)
          simp; omega
      · exfalso
        rw [head_app h3] at hh
        have h7 := h6 hh
        obtain ⟨c, hc⟩ := List.length_eq_one_iff.1 h7
        rw [hc] at hh h2
        simp only [List.head?_cons, Option.some.injEq] at hh
        subst hh
        simp [valD] at h2
        omega
theorem digN_spec {n : Nat} (h : n < 1000000000000000) : (∀ c ∈ digN n, isD c = true) ∧ valD (digN n) = n ∧ digN n ≠ [] ∧ (digN n).length ≤ 15 ∧ ((digN n).head? = some 48 → (digN n).length = 1) := by
  obtain ⟨h1, h2, h3, _, h5, h6⟩ := digF_spec 20 n (Nat.lt_of_lt_of_le h (by decide)) (by omega)
  exact ⟨h1, h2, h3, h5 14 h, h6⟩
theorem isD_val {c : UInt8} (h : isD c = true) : 48 ≤ c.toNat ∧ c.toNat ≤ 57 := by
  simpa [isD] using h
theorem dig_back {c : UInt8} (h : isD c = true) : UInt8.ofNat (48 + (c.toNat - 48)) = c := by
  obtain ⟨h1, h2⟩ := isD_val h
  rw [show 48 + (c.toNat - 48) = c.toNat by omega]; simp
theorem snoc_ind {α : Type} {P : List α → Prop} (h0 : P []) (hs : ∀ l x, P l → P (l ++ [x])) : ∀ l, P l := by
  intro l
  have : ∀ n (l : List α), l.length = n → P l := by
    intro n
    induction n with
    | zero => intro l h; rw [List.eq_nil_of_length_eq_zero h]; exact h0
    | succ n ih =>
      intro l h
      have hne : l ≠ [] := fun e => by rw [e] at h; simp at h
      rw [← List.dropLast_concat_getLast hne]
      exact hs _ _ (ih _ (by rw [List.length_dropLast]; omega))
  exact this _ l rfl
theorem valD_lt : ∀ ds : Bs, (∀ c ∈ ds, isD c = true) → valD ds < 10 ^ ds.length := by
  refine snoc_ind ?_ ?_
  · intro _; simp [valD]
  · intro l c ih h
    have h1 := ih fun x hx => h x (by simp [hx])
    obtain ⟨h2, h3⟩ := isD_val (h c (by simp))
    have hp : 10 ^ (l.length + 1) = 10 ^ l.length * 10 := Nat.pow_succ ..
    rw [valD_snoc, List.length_append, List.length_singleton]
    omega
theorem valD_pos : ∀ ds : Bs, (∀ c ∈ ds, isD c = true) → ds ≠ [] → ds.head? ≠ some 48 → 10 ^ (ds.length - 1) ≤ valD ds := by
  refine snoc_ind ?_ ?_
  · intro _ h; exact absurd rfl h
  · intro l c ih h _ hh
    rw [valD_snoc, List.length_append, List.length_singleton, Nat.add_sub_cancel]
    obtain ⟨h2, h3⟩ := isD_val (h c (by simp))
    rcases List.eq_nil_or_concat l with e | ⟨l', c', e⟩
    · subst e
      have hne : c ≠ 48 := by simpa using hh
      have : c.toNat ≠ 48 := fun e => hne (by rw [← UInt8.toNat_inj, e]; rfl)
      simp [valD]; omega
    · have hl : l ≠ [] := by rw [e]; simp
      have h4 := ih (fun x hx => h x (by simp [hx])) hl (by rw [head_app hl] at hh; exact hh)
      have h5 : l.length = (l.length - 1) + 1 := by have := List.length_pos_iff.2 hl; omega
      have hp : 10 ^ l.length = 10 ^ (l.length - 1) * 10 := by rw [show 10 ^ l.length = 10 ^ (l.length - 1 + 1) from congrArg _ h5]; exact Nat.pow_succ ..
      omega
theorem dig_valF : ∀ (f : Nat) (ds : Bs), ds.length ≤ f → (∀ c ∈ ds, isD c = true) → ds ≠ [] → (ds.head? = some 48 → ds.length = 1) → digF f (valD ds) = ds := by
  intro f
  induction f with
  | zero => intro ds h _ hn; exact absurd (List.eq_nil_of_length_eq_zero (by omega)) hn
  | succ f ih =>
    intro ds hl hd hn hz
    obtain ⟨l, c, rfl⟩ : ∃ l c, ds = l ++ [c] := ⟨_, _, (List.dropLast_concat_getLast hn).symm⟩
    have hc := hd c (by simp)
    obtain ⟨c1, c2⟩ := isD_val hc
    rw [valD_snoc]
    by_cases he : l = []
    · subst he
      simp only [valD, List.foldl_nil, Nat.zero_mul, Nat.zero_add, digF]
      rw [if_pos (by omega), dig_back hc]; rfl
    · have hz' : l.head? ≠ some 48 := fun h => by
        have := hz (by rw [head_app he]; exact h)
        simp at this
        exact he this
      have hd' : ∀ x ∈ l, isD x = true := fun x hx => hd x (by simp [hx])
      have hp := valD_pos l hd' he hz'
      have hpow : 0 < 10 ^ (l.length - 1) := Nat.pow_pos (by omega)
      simp only [digF]
      rw [if_neg (by omega), show (valD l * 10 + (c.toNat - 48)) / 10 = valD l by omega, show (valD l * 10 + (c.toNat - 48)) % 10 = c.toNat - 48 by omega, dig_back hc,
        ih l (by simp at hl; omega) hd' he (fun h => absurd h hz')]
theorem dig_val {ds : Bs} (hl : ds.length ≤ 15) (hd : ∀ c ∈ ds, isD c = true) (hn : ds ≠ []) (hz : ds.head? = some 48 → ds.length = 1) : digN (valD ds) = ds := dig_valF 20 ds (by omega) hd hn hz
end Go.Proofs.YtealabaiamaojaaGreatDoor
namespace Go.Proofs.YtealabaiamaojaaGreatDoor
open Go.JW Go.RowKit
def np (c : UInt8) : Bool := !(decide (c = 32) || decide (c = 58) || decide (c = 44) || decide (c = 43) || decide (c = 126) || decide (c = 33) || decide (c = 62) || decide (c = 64))
structure St where
  s : Bs
  no : Bool
def nameR (st : St) : Bs × St := (st.s.takeWhile np, ⟨st.s.dropWhile np, st.no || (st.s.takeWhile np).isEmpty⟩)
def signR (c : UInt8) : St → Bool × St
  | ⟨b :: t, no⟩ => if b = c then (true, ⟨t, no⟩) else (false, ⟨b :: t, no⟩)
  | ⟨[], no⟩ => (false, ⟨[], no⟩)
def mustR (c : UInt8) (st : St) : St := ⟨(signR c st).2.s, !(signR c st).1 || st.no⟩
def numBad (ds : Bs) : Bool := decide (15 < ds.length) || (decide (1 < ds.length) && decide (ds.head? = some 48))
def numR (st : St) : Int × St :=
  let ds := st.s.takeWhile isD
  if numBad ds = true then (0, ⟨st.s, true⟩) else ((valD ds : Int), ⟨st.s.dropWhile isD, st.no || ds.isEmpty⟩)
def vecR (st : St) : (Int × Int) × St :=
  let a := numR st
  let b := numR (mustR 44 a.2)
  ((a.1, b.1), b.2)
def signedF (c : UInt8) : Nat → St → List Bs × St
  | 0, st => ([], st)
  | f + 1, st => match signR c st with
    | (true, st1) => let x := nameR st1; let l := signedF c f x.2; (x.1 :: l.1, l.2)
    | (false, st1) => ([], st1)
def signedR (c : UInt8) (st : St) : List Bs × St := signedF c (st.s.length + 1) st
def nodeR (st : St) : NodeD × St :=
  let n := nameR st
  let v := vecR (mustR 58 n.2)
  let m := signedR 43 v.2
  let t := signedR 126 m.2
  let c := signR 33 t.2
  (⟨B n.1, v.1.1, v.1.2, m.1.map B, t.1.map B, c.1⟩, c.2)
def placeR (st : St) : PlaceD × St :=
  let p := nameR st
  let n := nameR (mustR 62 p.2)
  let v := vecR (mustR 58 n.2)
  let a := signR 33 v.2
  (⟨B p.1, B n.1, v.1.1, v.1.2, a.1⟩, a.2)
def peersF : Nat → St → List Int × St
  | 0, st => ([], st)
  | f + 1, st => match signR 44 st with
    | (true, st1) => let x := numR st1; let l := peersF f x.2; (x.1 :: l.1, l.2)
    | (false, st1) => ([], st1)
def peersR (st : St) : List Int × St :=
  let x := numR st
  let l := peersF (x.2.s.length + 1) x.2
  (x.1 :: l.1, l.2)
def endR (st : St) : Bool := !st.no && st.s.isEmpty
def vecT (c m : Int) : Bs := digN c.toNat ++ 44 :: digN m.toNat
def signedT (c : UInt8) : List Bs → Bs
  | [] => []
  | x :: l => c :: x ++ signedT c l
def flagT (is : Bool) : Bs := if is then [33] else []
def nodeT (n : NodeD) : Bs := bs n.name ++ 58 :: vecT n.cpu n.mem ++ signedT 43 (n.marks.map bs) ++ signedT 126 (n.taints.map bs) ++ flagT n.closed
def placeT (p : PlaceD) : Bs := bs p.pod ++ 62 :: bs p.node ++ 58 :: vecT p.cpu p.mem ++ flagT p.alone
def commaT : List Int → Bs
  | [] => []
  | x :: l => 44 :: digN x.toNat ++ commaT l
def peersT : List Int → Bs
  | [] => []
  | x :: l => digN x.toNat ++ commaT l
def okName (x : Bs) : Prop := x ≠ [] ∧ ∀ c ∈ x, np c = true
def stops (p : UInt8 → Bool) (r : Bs) : Prop := ∀ c, r.head? = some c → p c = false
theorem take_stop {p : UInt8 → Bool} : ∀ {x r : Bs}, (∀ c ∈ x, p c = true) → stops p r → (x ++ r).takeWhile p = x ∧ (x ++ r).dropWhile p = r := by
  intro x
  induction x with
  | nil =>
    intro r _ hr
    cases r with
    | nil => exact ⟨rfl, rfl⟩
    | cons c r => have := hr c rfl; simp [this]
  | cons c x ih =>
    intro r hx hr
    have h1 := hx c (by simp)
    obtain ⟨h2, h3⟩ := ih (fun y hy => hx y (by simp [hy])) hr
    simp [h1, h2, h3]
theorem stops_nil (p : UInt8 → Bool) : stops p [] := fun c h => by cases h
theorem stops_cons {p : UInt8 → Bool} {c : UInt8} {r : Bs} (h : p c = false) : stops p (c :: r) := fun x hx => by simp at hx; subst hx; exact h
theorem nameR_on {x r : Bs} (hx : okName x) (hr : stops np r) : nameR ⟨x ++ r, false⟩ = (x, ⟨r, false⟩) := by
  obtain ⟨h1, h2⟩ := take_stop hx.2 hr
  unfold nameR
  simp only [h1, h2]
  cases x with
  | nil => exact absurd rfl hx.1
  | cons _ _ => rfl
theorem numR_on {n : Int} {r : Bs} (hn : 0 ≤ n ∧ n < 1000000000000000) (hr : stops isD r) : numR ⟨digN n.toNat ++ r, false⟩ = (n, ⟨r, false⟩) := by
  obtain ⟨d1, d2, d3, d4, d5⟩ := digN_spec (n := n.toNat) (by omega)
  obtain ⟨h1, h2⟩ := take_stop d1 hr
  unfold numR
  simp only [h1, h2]
  have hb : numBad (digN n.toNat) = false := by
    unfold numBad
    simp only [Bool.or_eq_false_iff, Bool.and_eq_false_iff, decide_eq_false_iff_not]
    refine ⟨by omega, ?_⟩
    by_cases h : (digN n.toNat).head? = some 48
    · exact .inl (by have := d5 h; omega)
    · exact .inr h
  rw [if_neg (by rw [hb]; simp), d2]
  have he : (digN n.toNat).isEmpty = false := by cases h : digN n.toNat with
    | nil => exact absurd h d3
    | cons _ _ => rfl
  rw [he]
  simp only [Bool.or_false, Prod.mk.injEq, and_true]
  omega
theorem signR_on (c : UInt8) (r : Bs) (no : Bool) : signR c ⟨c :: r, no⟩ = (true, ⟨r, no⟩) := by simp [signR]
theorem signR_off {c : UInt8} {r : Bs} {no : Bool} (h : r.head? ≠ some c) : signR c ⟨r, no⟩ = (false, ⟨r, no⟩) := by
  cases r with
  | nil => rfl
  | cons b r => simp only [signR]; rw [if_neg (fun e => h (by simp [e]))]
theorem mustR_on (c : UInt8) (r : Bs) : mustR c ⟨c :: r, false⟩ = ⟨r, false⟩ := by simp [mustR, signR]
theorem isD_np {c : UInt8} (h : np c = false) : isD c = false := by
  unfold np at h
  simp only [Bool.not_eq_false', Bool.or_eq_true, decide_eq_true_eq] at h
  rcases h with ((((((h | h) | h) | h) | h) | h) | h) | h <;> subst h <;> decide
theorem stops_d {r : Bs} (h : stops np r) : stops isD r := fun c hc => isD_np (h c hc)
def vecOk (c m : Int) : Prop := (0 ≤ c ∧ c < 1000000000000000) ∧ (0 ≤ m ∧ m < 1000000000000000)
theorem vecR_on {c m : Int} {r : Bs} (h : vecOk c m) (hr : stops isD r) : vecR ⟨vecT c m ++ r, false⟩ = ((c, m), ⟨r, false⟩) := by
  unfold vecR vecT
  rw [List.append_assoc, numR_on h.1 (r := (44 :: digN m.toNat) ++ r) (stops_cons (by decide))]
  simp only [List.cons_append]
  rw [mustR_on, numR_on h.2 hr]
theorem stops_signed {c : UInt8} (hc : np c = false) {l : List Bs} {r : Bs} (hr : stops np r) : stops np (signedT c l ++ r) := by
  cases l with
  | nil => exact hr
  | cons x l => exact stops_cons hc
theorem signedF_on {c : UInt8} (hc : np c = false) {r : Bs} (hr : stops np r) (hrc : r.head? ≠ some c) : ∀ {l : List Bs} {f : Nat}, (∀ x ∈ l, okName x) → l.length < f → signedF c f ⟨signedT c l ++ r, false⟩ = (l, ⟨r, false⟩) := by
  intro l
  induction l with
  | nil =>
    intro f _ hf
    obtain ⟨f, rfl⟩ : ∃ g, f = g + 1 := ⟨f - 1, by simp at hf; omega⟩
    simp only [signedF, signedT, List.nil_append]
    rw [signR_off hrc]
  | cons x l ih =>
    intro f hx hf
    obtain ⟨f, rfl⟩ : ∃ g, f = g + 1 := ⟨f - 1, by simp at hf; omega⟩
    simp only [signedF, signedT, List.cons_append]
    rw [signR_on]
    simp only
    rw [List.append_assoc, nameR_on (hx x (by simp)) (stops_signed hc hr)]
    simp only
    rw [ih (fun y hy => hx y (by simp [hy])) (by simpa using hf)]
theorem signedT_len (c : UInt8) (l : List Bs) : l.length ≤ (signedT c l).length := by
  induction l with
  | nil => simp
  | cons x l ih => simp [signedT]; omega
theorem signedR_on {c : UInt8} (hc : np c = false) {r : Bs} (hr : stops np r) (hrc : r.head? ≠ some c) {l : List Bs} (hl : ∀ x ∈ l, okName x) : signedR c ⟨signedT c l ++ r, false⟩ = (l, ⟨r, false⟩) :=
  signedF_on hc hr hrc hl (by have := signedT_len c l; simp; omega)
theorem map_B_bs (l : List ByteArray) : (l.map bs).map B = l := by rw [List.map_map]; simp [Function.comp_def, B_bs]
structure OkNode (n : NodeD) : Prop where
  name : okName (bs n.name)
  vec : vecOk n.cpu n.mem
  marks : ∀ x ∈ n.marks, okName (bs x)
  taints : ∀ x ∈ n.taints, okName (bs x)
structure OkPlace (p : PlaceD) : Prop where
  pod : okName (bs p.pod)
  node : okName (bs p.node)
  vec : vecOk p.cpu p.mem
theorem stops_flag (is : Bool) : stops np (flagT is ++ []) := by cases is; exact stops_nil _; exact stops_cons (by decide)
theorem flag_end (is : Bool) : signR 33 ⟨flagT is ++ [], false⟩ = (is, ⟨[], false⟩) := by cases is <;> rfl
theorem head_signed {c d : UInt8} (h : c ≠ d) {l : List Bs} {r : Bs} (hr : r.head? ≠ some d) : (signedT c l ++ r).head? ≠ some d := by
  cases l with
  | nil => exact hr
  | cons x l => simpa [signedT] using h
theorem nodeR_on {n : NodeD} (h : OkNode n) : nodeR ⟨nodeT n, false⟩ = (n, ⟨[], false⟩) := by
  have s1 := stops_flag n.closed
  have e1 : (flagT n.closed ++ []).head? ≠ some 126 := by cases n.closed <;> decide
  have e2 : (flagT n.closed ++ []).head? ≠ some 43 := by cases n.closed <;> decide
  have s2 := stops_signed (c := 126) (by decide) (l := n.taints.map bs) s1
  have s3 := stops_signed (c := 43) (by decide) (l := n.marks.map bs) s2
  unfold nodeR
  have e : nodeT n = bs n.name ++ 58 :: (vecT n.cpu n.mem ++ (signedT 43 (n.marks.map bs) ++ (signedT 126 (n.taints.map bs) ++ (flagT n.closed ++ [])))) := by simp [nodeT]
  rw [e, nameR_on h.name (stops_cons (by decide))]
  simp only
  rw [mustR_on, vecR_on h.vec (stops_d s3)]
  simp only
  rw [signedR_on (by decide) s2 (head_signed (by decide) e2) (by simpa using h.marks)]
  simp only
  rw [signedR_on (by decide) s1 e1 (by simpa using h.taints)]
  simp only
  rw [flag_end]
  simp only [B_bs, map_B_bs]
theorem placeR_on {p : PlaceD} (h : OkPlace p) : placeR ⟨placeT p, false⟩ = (p, ⟨[], false⟩) := by
  have s1 := stops_flag p.alone
  unfold placeR
  have e : placeT p = bs p.pod ++ 62 :: (bs p.node ++ 58 :: (vecT p.cpu p.mem ++ (flagT p.alone ++ []))) := by simp [placeT]
  rw [e, nameR_on h.pod (stops_cons (by decide))]
  simp only
  rw [mustR_on, nameR_on h.node (stops_cons (by decide))]
  simp only
  rw [mustR_on, vecR_on h.vec (stops_d s1)]
  simp only
  rw [flag_end]
  simp only [B_bs]
theorem commaT_len (l : List Int) : l.length ≤ (commaT l).length := by
  induction l with
  | nil => simp
  | cons x l ih => simp [commaT]; omega
def numOk (n : Int) : Prop := 0 ≤ n ∧ n < 1000000000000000
theorem stops_comma (l : List Int) : stops isD (commaT l ++ []) := by
  cases l with
  | nil => exact stops_nil _
  | cons x l => exact stops_cons (by decide)
theorem peersF_on : ∀ {l : List Int} {f : Nat}, (∀ x ∈ l, numOk x) → l.length < f → peersF f ⟨commaT l ++ [], false⟩ = (l, ⟨[], false⟩) := by
  intro l
  induction l with
  | nil =>
    intro f _ hf
    obtain ⟨f, rfl⟩ : ∃ g, f = g + 1 := ⟨f - 1, by simp at hf; omega⟩
    rfl
  | cons x l ih =>
    intro f hx hf
    obtain ⟨f, rfl⟩ : ∃ g, f = g + 1 := ⟨f - 1, by simp at hf; omega⟩
    simp only [peersF, commaT, List.cons_append]
    rw [signR_on]
    simp only
    rw [List.append_assoc, numR_on (hx x (by simp)) (stops_comma l)]
    simp only
    rw [ih (fun y hy => hx y (by simp [hy])) (by simpa using hf)]
theorem peersR_on {l : List Int} (hn : l ≠ []) (hl : ∀ x ∈ l, numOk x) : peersR ⟨peersT l, false⟩ = (l, ⟨[], false⟩) := by
  cases l with
  | nil => exact absurd rfl hn
  | cons x l =>
    unfold peersR
    simp only [peersT]
    rw [show digN x.toNat ++ commaT l = digN x.toNat ++ (commaT l ++ []) by simp, numR_on (hl x (by simp)) (stops_comma l)]
    simp only
    rw [peersF_on (fun y hy => hl y (by simp [hy])) (by have := commaT_len l; simp; omega)]
end Go.Proofs.YtealabaiamaojaaGreatDoor
namespace Go.Proofs.YtealabaiamaojaaGreatDoor
open Go.JW Go.RowKit
theorem take_np {p : UInt8 → Bool} : ∀ (l : Bs), (∀ c ∈ l.takeWhile p, p c = true) ∧ stops p (l.dropWhile p) ∧ l = l.takeWhile p ++ l.dropWhile p := by
  intro l
  induction l with
  | nil => exact ⟨by simp, stops_nil _, rfl⟩
  | cons c l ih =>
    cases h : p c with
    | true =>
      obtain ⟨h1, h2, h3⟩ := ih
      rw [List.takeWhile_cons_of_pos (by simpa using h), List.dropWhile_cons_of_pos (by simpa using h)]
      refine ⟨fun x hx => ?_, h2, by rw [List.cons_append, ← h3]⟩
      rcases List.mem_cons.1 hx with rfl | hx
      · exact h
      · exact h1 x hx
    | false =>
      rw [List.takeWhile_cons_of_neg (by simp [h]), List.dropWhile_cons_of_neg (by simp [h])]
      exact ⟨by simp, stops_cons h, rfl⟩
theorem nameR_back {st : St} (h : (nameR st).2.no = false) : st.no = false ∧ okName (nameR st).1 ∧ st.s = (nameR st).1 ++ (nameR st).2.s ∧ stops np (nameR st).2.s := by
  simp only [nameR, Bool.or_eq_false_iff] at h ⊢
  obtain ⟨h1, h2, h3⟩ := take_np (p := np) st.s
  refine ⟨h.1, ⟨fun e => ?_, h1⟩, h3, h2⟩
  rw [e] at h; simp at h
theorem signR_back {c : UInt8} {st : St} : (signR c st).2.no = st.no ∧ ((signR c st).1 = true → st.s = c :: (signR c st).2.s) ∧ ((signR c st).1 = false → (signR c st).2 = st ∧ st.s.head? ≠ some c) := by
  obtain ⟨s, no⟩ := st
  cases s with
  | nil => exact ⟨rfl, fun h => (by cases h), fun _ => ⟨rfl, by simp⟩⟩
  | cons b t =>
    simp only [signR]
    by_cases e : b = c
    · rw [if_pos e]; exact ⟨rfl, fun _ => (by simp [e]), fun h => (by cases h)⟩
    · rw [if_neg e]; exact ⟨rfl, fun h => (by cases h), fun _ => ⟨rfl, by simpa using e⟩⟩
theorem mustR_back {c : UInt8} {st : St} (h : (mustR c st).no = false) : st.no = false ∧ st.s = c :: (mustR c st).s := by
  simp only [mustR, Bool.or_eq_false_iff, Bool.not_eq_false'] at h ⊢
  exact ⟨h.2, signR_back.2.1 h.1⟩
theorem numR_back {st : St} (h : (numR st).2.no = false) : st.no = false ∧ numOk (numR st).1 ∧ st.s = digN (numR st).1.toNat ++ (numR st).2.s ∧ stops isD (numR st).2.s := by
  obtain ⟨h1, h2, h3⟩ := take_np (p := isD) st.s
  unfold numR at h ⊢
  simp only at h ⊢
  rcases Bool.eq_false_or_eq_true (numBad (st.s.takeWhile isD)) with hb | hb
  · rw [if_pos hb] at h; cases h
  ·
    rw [if_neg (by rw [hb]; simp)] at h ⊢
    simp only [Bool.or_eq_false_iff] at h ⊢
    unfold numBad at hb
    simp only [Bool.or_eq_false_iff, Bool.and_eq_false_iff, decide_eq_false_iff_not] at hb
    generalize ht : st.s.takeWhile isD = ds at *
    have hne : ds ≠ [] := fun e => by rw [e] at h; simp at h
    have hlt := valD_lt ds h1
    have hp : 10 ^ ds.length ≤ 10 ^ 15 := Nat.pow_le_pow_right (by omega) (by omega)
    have hd := dig_val (by omega) h1 hne (fun hh => by
      rcases hb.2 with h4 | h4
      · have := List.length_pos_iff.2 hne; omega
      · exact absurd hh h4)
    refine ⟨h.1, ⟨by omega, by omega⟩, ?_, h2⟩
    rw [Int.toNat_natCast, hd]; exact h3
theorem vecR_back {st : St} (h : (vecR st).2.no = false) : st.no = false ∧ vecOk (vecR st).1.1 (vecR st).1.2 ∧ st.s = vecT (vecR st).1.1 (vecR st).1.2 ++ (vecR st).2.s := by
  simp only [vecR] at h ⊢
  obtain ⟨a1, a2, a3, _⟩ := numR_back h
  obtain ⟨b1, b2⟩ := mustR_back a1
  obtain ⟨c1, c2, c3, _⟩ := numR_back b1
  refine ⟨c1, ⟨c2, a2⟩, ?_⟩
  unfold vecT
  rw [List.append_assoc, List.cons_append, ← a3, ← b2]; exact c3
theorem signedF_back {c : UInt8} : ∀ {f : Nat} {st : St}, st.s.length < f → (signedF c f st).2.no = false → st.no = false ∧ (∀ x ∈ (signedF c f st).1, okName x) ∧ st.s = signedT c (signedF c f st).1 ++ (signedF c f st).2.s := by
  intro f
  induction f with
  | zero => intro st hf; omega
  | succ f ih =>
    intro st hf h
    obtain ⟨h1, h2, h3⟩ := signR_back (c := c) (st := st)
    simp only [signedF] at h ⊢
    generalize hs : signR c st = q at *
    obtain ⟨is, st1⟩ := q
    cases is with
    | true =>
      simp only at h h1 h2 ⊢
      have e := h2 trivial
      have hl : (nameR st1).2.s.length ≤ st1.s.length := by
        obtain ⟨_, _, h7⟩ := take_np (p := np) st1.s
        have := congrArg List.length h7
        rw [List.length_append] at this
        show (st1.s.dropWhile np).length ≤ _; omega
      have hl2 : st.s.length = st1.s.length + 1 := by rw [e]; rfl
      obtain ⟨k1, k2, k3⟩ := ih (by omega) h
      obtain ⟨n1, n2, n3, _⟩ := nameR_back k1
      refine ⟨by rw [← h1]; exact n1, fun x hx => ?_, ?_⟩
      · rcases List.mem_cons.1 hx with rfl | hx
        · exact n2
        · exact k2 x hx
      · simp only [signedT, List.cons_append, List.append_assoc]
        rw [← k3, ← n3]; exact e
    | false =>
      simp only at h h1 h3 ⊢
      obtain ⟨h4, _⟩ := h3 trivial
      subst h4
      exact ⟨h, by simp, rfl⟩
theorem signedR_back {c : UInt8} {st : St} (h : (signedR c st).2.no = false) : st.no = false ∧ (∀ x ∈ (signedR c st).1, okName x) ∧ st.s = signedT c (signedR c st).1 ++ (signedR c st).2.s := signedF_back (Nat.lt_succ_self _) h
theorem map_bs_B (l : List Bs) : (l.map B).map bs = l := by rw [List.map_map]; simp [Function.comp_def, bs_B]
theorem flag_back {st : St} (h : (signR 33 st).2.no = false) (he : (signR 33 st).2.s = []) : st.no = false ∧ st.s = flagT (signR 33 st).1 := by
  obtain ⟨h1, h2, h3⟩ := signR_back (c := 33) (st := st)
  cases hb : (signR 33 st).1 with
  | true => exact ⟨by rw [← h1]; exact h, by rw [h2 hb, he]; rfl⟩
  | false => exact ⟨by rw [← h1]; exact h, by rw [← (h3 hb).1, he]; rfl⟩
theorem endR_true {st : St} (h : endR st = true) : st.no = false ∧ st.s = [] := by
  simpa [endR] using h
theorem nodeR_back {st : St} (h : endR (nodeR st).2 = true) : OkNode (nodeR st).1 ∧ st.s = nodeT (nodeR st).1 := by
  obtain ⟨h1, h2⟩ := endR_true h
  simp only [nodeR] at h1 h2 ⊢
  obtain ⟨f1, f2⟩ := flag_back h1 h2
  obtain ⟨t1, t2, t3⟩ := signedR_back f1
  obtain ⟨m1, m2, m3⟩ := signedR_back t1
  obtain ⟨v1, v2, v3⟩ := vecR_back m1
  obtain ⟨u1, u2⟩ := mustR_back v1
  obtain ⟨n1, n2, n3, _⟩ := nameR_back u1
  refine ⟨⟨by rw [bs_B]; exact n2, v2, fun x hx => ?_, fun x hx => ?_⟩, ?_⟩
  · obtain ⟨y, hy, rfl⟩ := List.mem_map.1 hx; rw [bs_B]; exact m2 y hy
  · obtain ⟨y, hy, rfl⟩ := List.mem_map.1 hx; rw [bs_B]; exact t2 y hy
  · simp only [nodeT, bs_B, map_bs_B, List.append_assoc, List.cons_append]
    rw [← f2, ← t3, ← m3, ← v3, ← u2]; exact n3
theorem placeR_back {st : St} (h : endR (placeR st).2 = true) : OkPlace (placeR st).1 ∧ st.s = placeT (placeR st).1 := by
  obtain ⟨h1, h2⟩ := endR_true h
  simp only [placeR] at h1 h2 ⊢
  obtain ⟨f1, f2⟩ := flag_back h1 h2
  obtain ⟨v1, v2, v3⟩ := vecR_back f1
  obtain ⟨u1, u2⟩ := mustR_back v1
  obtain ⟨n1, n2, n3, _⟩ := nameR_back u1
  obtain ⟨w1, w2⟩ := mustR_back n1
  obtain ⟨p1, p2, p3, _⟩ := nameR_back w1
  refine ⟨⟨by rw [bs_B]; exact p2, by rw [bs_B]; exact n2, v2⟩, ?_⟩
  simp only [placeT, bs_B, List.append_assoc, List.cons_append]
  rw [← f2, ← v3, ← u2, ← n3, ← w2]; exact p3
theorem peersF_back : ∀ {f : Nat} {st : St}, st.s.length < f → (peersF f st).2.no = false → st.no = false ∧ (∀ x ∈ (peersF f st).1, numOk x) ∧ st.s = commaT (peersF f st).1 ++ (peersF f st).2.s := by
  intro f
  induction f with
  | zero => intro st hf; omega
  | succ f ih =>
    intro st hf h
    obtain ⟨h1, h2, h3⟩ := signR_back (c := 44) (st := st)
    simp only [peersF] at h ⊢
    generalize hs : signR 44 st = q at *
    obtain ⟨is, st1⟩ := q
    cases is with
    | true =>
      simp only at h h1 h2 ⊢
      have e := h2 trivial
      have hl2 : st.s.length = st1.s.length + 1 := by rw [e]; rfl
      have hl : (numR st1).2.s.length ≤ st1.s.length := by
        unfold numR
        simp only
        split
        · exact Nat.le_refl _
        · obtain ⟨_, _, h7⟩ := take_np (p := isD) st1.s
          have := congrArg List.length h7
          rw [List.length_append] at this
          show (st1.s.dropWhile isD).length ≤ _; omega
      obtain ⟨k1, k2, k3⟩ := ih (by omega) h
      obtain ⟨n1, n2, n3, _⟩ := numR_back k1
      refine ⟨by rw [← h1]; exact n1, fun x hx => ?_, ?_⟩
      · rcases List.mem_cons.1 hx with rfl | hx
        · exact n2
        · exact k2 x hx
      · simp only [commaT, List.cons_append, List.append_assoc]
        rw [← k3, ← n3]; exact e
    | false =>
      simp only at h h1 h3 ⊢
      obtain ⟨h4, _⟩ := h3 trivial
      subst h4
      exact ⟨h, by simp, rfl⟩
theorem peersR_back {st : St} (h : endR (peersR st).2 = true) : (peersR st).1 ≠ [] ∧ (∀ x ∈ (peersR st).1, numOk x) ∧ st.s = peersT (peersR st).1 := by
  obtain ⟨h1, h2⟩ := endR_true h
  simp only [peersR] at h1 h2 ⊢
  obtain ⟨k1, k2, k3⟩ := peersF_back (Nat.lt_succ_self _) h1
  obtain ⟨n1, n2, n3, _⟩ := numR_back k1
  refine ⟨by simp, fun x hx => ?_, ?_⟩
  · rcases List.mem_cons.1 hx with rfl | hx
    · exact n2
    · exact k2 x hx
  · simp only [peersT]
    rw [h2, List.append_nil] at k3
    rw [← k3]; exact n3
def splitB : Bs → List Bs
  | [] => [[]]
  | b :: t => if b = 32 then [] :: splitB t else match splitB t with | [] => [[b]] | w :: ws => (b :: w) :: ws
def joinB : List Bs → Bs
  | [] => []
  | [w] => w
  | w :: v :: ws => w ++ 32 :: joinB (v :: ws)
theorem splitB_ne (s : Bs) : splitB s ≠ [] := by
  cases s with
  | nil => simp [splitB]
  | cons b t =>
    simp only [splitB]
    split
    · simp
    · split <;> simp
theorem split_word : ∀ {w : Bs} {r : Bs}, (∀ c ∈ w, c ≠ 32) → splitB (w ++ 32 :: r) = w :: splitB r := by
  intro w
  induction w with
  | nil => intro r _; simp [splitB]
  | cons b w ih =>
    intro r h
    simp only [List.cons_append, splitB]
    rw [if_neg (h b (by simp)), ih (fun c hc => h c (by simp [hc]))]
theorem split_one : ∀ {w : Bs}, (∀ c ∈ w, c ≠ 32) → splitB w = [w] := by
  intro w
  induction w with
  | nil => intro _; rfl
  | cons b w ih =>
    intro h
    simp only [splitB]
    rw [if_neg (h b (by simp)), ih (fun c hc => h c (by simp [hc]))]
theorem split_join : ∀ {ws : List Bs}, ws ≠ [] → (∀ w ∈ ws, ∀ c ∈ w, c ≠ 32) → splitB (joinB ws) = ws := by
  intro ws
  induction ws with
  | nil => intro h; exact absurd rfl h
  | cons w ws ih =>
    intro _ h
    cases ws with
    | nil => exact split_one (h w (by simp))
    | cons v ws =>
      simp only [joinB]
      rw [split_word (h w (by simp)), ih (by simp) (fun x hx => h x (by simp [hx]))]
def wordsP (s : Bs) : List Bs := if (splitB s).any (·.isEmpty) then [] else splitB s
theorem words_join {ws : List Bs} (hn : ws ≠ []) (h : ∀ w ∈ ws, w ≠ [] ∧ ∀ c ∈ w, c ≠ 32) : wordsP (joinB ws) = ws := by
  unfold wordsP
  rw [split_join hn fun w hw => (h w hw).2, if_neg]
  rw [Bool.not_eq_true, List.any_eq_false]
  intro w hw
  have := (h w hw).1
  cases w with
  | nil => exact absurd rfl this
  | cons _ _ => simp
def bareP (n : NodeD) : Bool := decide (n.cpu = 0) && decide (n.mem = 0) && n.marks.isEmpty && n.taints.isEmpty && !n.closed
def gangsP (k : Int) : Bool := decide (3 ≤ k) && decide (k ≤ 7)
def peeredP (k : Int) : Bool := decide (k = 3) || decide (k = 7)
def moreP (r : RecD) : Bool :=
  if ((!gangsP r.kind && !decide (r.gang = 0)) || (!peeredP r.kind && !r.peers.isEmpty) || (!decide (r.kind = 3) && !r.places.isEmpty)) = true then true
  else if r.kind = 1 then false
  else !bareP r.node || (!decide (r.kind = 2) && decide (r.node.name.size ≠ 0))
def riseAt (l : List Int) (i : Nat) : Bool := decide (1 ≤ l.getD i 0) && decide (l.getD i 0 ≤ 4) && (decide (i = 0) || decide (l.getD (i - 1) 0 < l.getD i 0))
def risingP (l : List Int) : Bool := (List.range l.length).all (riseAt l) && decide (0 < l.length)
def placeE (p : PlaceD) : Int := if isName p.pod = false ∨ isName p.node = false then 1 else if sizeOk p.cpu p.mem = false then 2 else 0
def placesBad (l : List PlaceD) : Int := ((l.map placeE).find? fun e => decide (e ≠ 0)).getD 0
def dupP (l : List PlaceD) : Bool := !decide ((l.map (·.pod)).Nodup)
def placesE (l : List PlaceD) : Int := if l.length < 1 ∨ 8 < l.length then 3 else if placesBad l ≠ 0 then placesBad l else if dupP l = true then 4 else 0
def checkP (r : RecD) : Int :=
  if (decide (r.kind < 1) || decide (7 < r.kind) || moreP r) = true then 2
  else if r.kind = 1 then nodeErr r.node
  else if r.kind = 2 then (if isName r.node.name = false then 1 else 0)
  else if r.gang < 1 ∨ 999999 < r.gang ∨ (peeredP r.kind = true ∧ risingP r.peers = false) then 2
  else if r.kind = 3 then placesE r.places
  else 0
def verbT (k : Int) : Bs :=
  if k = 1 then [110, 111, 100, 101] else if k = 2 then [103, 111, 110, 101] else if k = 3 then [112, 114, 101, 112, 97, 114, 101] else if k = 4 then [99, 111, 109, 109, 105, 116]
  else if k = 5 then [97, 98, 111, 114, 116] else if k = 6 then [114, 101, 108, 101, 97, 115, 101] else if k = 7 then [103, 97, 110, 103] else []
def kindP (w : Bs) : Int :=
  if w = verbT 1 then 1 else if w = verbT 2 then 2 else if w = verbT 3 then 3 else if w = verbT 4 then 4 else if w = verbT 5 then 5 else if w = verbT 6 then 6 else if w = verbT 7 then 7 else 0
def textW (r : RecD) : List Bs :=
  if r.kind = 1 then [verbT 1, nodeT r.node]
  else if r.kind = 2 then [verbT 2, bs r.node.name]
  else verbT r.kind :: digN r.gang.toNat :: ((if peeredP r.kind = true then [peersT r.peers] else []) ++ (if r.kind = 3 then r.places.map placeT else []))
def textP (r : RecD) : Bs := joinB (textW r)
def okO {α : Type} (x : α × St) : Option α := if endR x.2 = true then some x.1 else none
def nodeO (w : Bs) : Option NodeD := okO (nodeR ⟨w, false⟩)
def nameO (w : Bs) : Option Bs := okO (nameR ⟨w, false⟩)
def numO (w : Bs) : Option Int := okO (numR ⟨w, false⟩)
def peersO (w : Bs) : Option (List Int) := okO (peersR ⟨w, false⟩)
def placeO (w : Bs) : Option PlaceD := okO (placeR ⟨w, false⟩)
def placesO : List Bs → Option (List PlaceD)
  | [] => some []
  | w :: ws => (placeO w).bind fun p => (placesO ws).map fun l => p :: l
def readO : List Bs → Option RecD
  | w0 :: w1 :: rest =>
    if kindP w0 = 0 then none
    else if kindP w0 = 1 then (if rest = [] then (nodeO w1).map fun n => { rec0 with kind := 1, node := n } else none)
    else if kindP w0 = 2 then (if rest = [] then (nameO w1).map fun n => { rec0 with kind := 2, node := { node0 with name := B n } } else none)
    else if kindP w0 = 3 then
      match rest with
      | [] => none
      | w2 :: rest2 => match numO w1, peersO w2, placesO rest2 with
        | some g, some p, some l => some { rec0 with kind := 3, gang := g, peers := p, places := l }
        | _, _, _ => none
    else if kindP w0 = 7 then
      match rest with
      | [w2] => match numO w1, peersO w2 with
        | some g, some p => some { rec0 with kind := 7, gang := g, peers := p }
        | _, _ => none
      | _ => none
    else (if rest = [] then (numO w1).map fun g => { rec0 with kind := kindP w0, gang := g } else none)
  | _ => none
def parseP (s : Bs) : RecD × Int := match readO (wordsP s) with
  | none => (rec0, 8)
  | some r => if checkP r = 0 then (r, 0) else (rec0, checkP r)
end Go.Proofs.YtealabaiamaojaaGreatDoor
namespace Go.Proofs.YtealabaiamaojaaGreatDoor
open Go.JW Go.RowKit
theorem decode_bytes (s : ByteArray) (pos k : Nat) (_ : pos < s.size) (h1 : pos < k) (h2 : k < pos + (Utf8.decode s pos).2) : k < s.size ∧ 128 ≤ (s.get! k).toNat := by
  have key : ∀ j, pos + j < s.size → ((s.get! (pos + j)).toNat / 64 == 2) = true → 128 ≤ (s.get! (pos + j)).toNat := fun j _ h => by
    have := eq_of_beq h; omega
  simp only [Utf8.decode] at h2
  repeat' split at h2
  all_goals simp only at h2
  all_goals try omega
  all_goals simp only [Bool.and_eq_true, decide_eq_true_eq] at *
  · obtain rfl : k = pos + 1 := by omega
    exact ⟨by omega, key 1 (by omega) (by simp_all)⟩
  · rcases (show k = pos + 1 ∨ k = pos + 2 by omega) with rfl | rfl
    · exact ⟨by omega, key 1 (by omega) (by simp_all)⟩
    · exact ⟨by omega, key 2 (by omega) (by simp_all)⟩
  · rcases (show k = pos + 1 ∨ k = pos + 2 ∨ k = pos + 3 by omega) with rfl | rfl | rfl
    · exact ⟨by omega, key 1 (by omega) (by simp_all)⟩
    · exact ⟨by omega, key 2 (by omega) (by simp_all)⟩
    · exact ⟨by omega, key 3 (by omega) (by simp_all)⟩
theorem bs_len (s : ByteArray) : (bs s).length = s.size := Array.length_toList
theorem get_bs (s : ByteArray) (i : Nat) (h : i < s.size) : (bs s)[i]'(by rw [bs_len]; exact h) = s.get! i := by
  show (s.data.toList)[i] = s.data[i]!
  rw [getElem!_pos s.data i h]; simp
theorem low_rune (s : ByteArray) : ∀ (b pos i : Nat), s.size ≤ pos + b → pos ≤ i → i < s.size → (s.get! i).toNat < 128 → (i, ((s.get! i).toNat : Int)) ∈ runesAt s b pos := by
  intro b
  induction b with
  | zero => intro pos i h1 h2 h3; omega
  | succ b ih =>
    intro pos i h1 h2 h3 h4
    have hp : pos < s.size := by omega
    have hw := width_pos s pos hp
    simp only [runesAt]
    rw [if_pos hp]
    by_cases e : i = pos
    · subst e
      have hg : (s[i]'h3).toNat = (s.get! i).toNat := by
        have := get_at s i h3
        rw [← this]; rfl
      rw [decode_ascii s i h3 (by rw [hg]; exact h4), hg]
      exact List.mem_cons_self
    · refine List.mem_cons_of_mem _ (ih _ i (by omega) ?_ h3 h4)
      refine Nat.le_of_not_lt fun hlt => ?_
      have := (decode_bytes s pos i hp (by omega) hlt).2
      omega
theorem letter_np {c : UInt8} (h : isLetter (c.toNat : Int) = true ∨ isDigit (c.toNat : Int) = true) : np c = true := by
  unfold np
  simp only [Bool.not_eq_true', Bool.or_eq_false_iff, decide_eq_false_iff_not]
  refine ⟨⟨⟨⟨⟨⟨⟨?_, ?_⟩, ?_⟩, ?_⟩, ?_⟩, ?_⟩, ?_⟩, ?_⟩ <;> (rintro rfl; revert h; decide)
theorem isName_ok {s : ByteArray} (h : isName s = true) : okName (bs s) := by
  simp only [isName, Bool.and_eq_true, decide_eq_true_eq] at h
  obtain ⟨h1, h2, _⟩ := h
  refine ⟨fun e => h2 (by rw [← B_bs s, e]; rfl), fun c hc => ?_⟩
  obtain ⟨i, hi, rfl⟩ := List.mem_iff_getElem.1 hc
  have hsz : i < s.size := by rw [bs_len] at hi; exact hi
  rw [get_bs s i hsz]
  by_cases hlow : (s.get! i).toNat < 128
  · have hm := low_rune s s.size 0 i (by omega) (Nat.zero_le _) hsz hlow
    simp only [nameRunes, List.all_eq_true] at h1
    have := h1 _ hm
    simp only [Bool.or_eq_true, Bool.and_eq_true] at this
    exact letter_np (this.elim .inl fun h => .inr h.1)
  · unfold np
    simp only [Bool.not_eq_true', Bool.or_eq_false_iff, decide_eq_false_iff_not]
    refine ⟨⟨⟨⟨⟨⟨⟨?_, ?_⟩, ?_⟩, ?_⟩, ?_⟩, ?_⟩, ?_⟩, ?_⟩ <;> (intro e; rw [e] at hlow; revert hlow; decide)
theorem isSet_ok {l : List ByteArray} (h : isSet l = true) : ∀ x ∈ l, okName (bs x) := by
  simp only [isSet, Bool.and_eq_true, setTo, List.all_eq_true, List.mem_range] at h
  intro x hx
  obtain ⟨i, hi, rfl⟩ := List.mem_iff_getElem.1 hx
  have := h.1 i hi
  simp only [setAtI, Bool.and_eq_true] at this
  have h2 := this.1
  rw [show l.getD i ⟨#[]⟩ = l[i] by simp [List.getD_eq_getElem?_getD, hi]] at h2
  exact isName_ok h2
theorem size_vec {c m : Int} (h : sizeOk c m = true) : vecOk c m := by
  simp only [sizeOk, size1, Bool.and_eq_true, decide_eq_true_eq] at h
  exact ⟨by omega, by omega⟩
theorem node_ok {n : NodeD} (h : nodeErr n = 0) : OkNode n := by
  unfold nodeErr at h
  cases e1 : isName n.name with
  | false => rw [e1, if_pos rfl] at h; cases h
  | true =>
    rw [e1, if_neg (by simp)] at h
    cases e2 : sizeOk n.cpu n.mem with
    | false => rw [e2, if_pos rfl] at h; cases h
    | true =>
      rw [e2, if_neg (by simp)] at h
      cases e3 : (!isSet n.marks || !isSet n.taints) with
      | true => rw [e3, if_pos rfl] at h; cases h
      | false =>
        simp only [Bool.or_eq_false_iff, Bool.not_eq_false'] at e3
        exact ⟨isName_ok e1, size_vec e2, isSet_ok e3.1, isSet_ok e3.2⟩
theorem placeE_ok {p : PlaceD} (h : placeE p = 0) : OkPlace p := by
  unfold placeE at h
  by_cases h1 : isName p.pod = false ∨ isName p.node = false
  · rw [if_pos h1] at h; cases h
  · rw [if_neg h1] at h
    by_cases h2 : sizeOk p.cpu p.mem = false
    · rw [if_pos h2] at h; cases h
    · simp only [not_or, Bool.not_eq_false] at h1 h2
      exact ⟨isName_ok h1.1, isName_ok h1.2, size_vec h2⟩
theorem placesBad_zero {l : List PlaceD} : placesBad l = 0 ↔ ∀ p ∈ l, placeE p = 0 := by
  unfold placesBad
  induction l with
  | nil => simp
  | cons p l ih =>
    simp only [List.map_cons, List.find?_cons, List.mem_cons, forall_eq_or_imp]
    by_cases h : placeE p = 0
    · simp only [h, ne_eq, not_true_eq_false, decide_false, true_and]; exact ih
    · simp [h]
theorem placesE_ok {l : List PlaceD} (h : placesE l = 0) : (∀ p ∈ l, OkPlace p) ∧ 1 ≤ l.length ∧ l.length ≤ 8 := by
  unfold placesE at h
  by_cases h1 : l.length < 1 ∨ 8 < l.length
  · rw [if_pos h1] at h; cases h
  · rw [if_neg h1] at h
    by_cases h2 : placesBad l ≠ 0
    · rw [if_pos h2] at h; exact absurd h h2
    · have h3 : placesBad l = 0 := by simpa using h2
      exact ⟨fun p hp => placeE_ok (placesBad_zero.1 h3 p hp), by omega, by omega⟩
theorem rising_ok {l : List Int} (h : risingP l = true) : l ≠ [] ∧ ∀ x ∈ l, numOk x ∧ 1 ≤ x ∧ x ≤ 4 := by
  simp only [risingP, Bool.and_eq_true, decide_eq_true_eq, List.all_eq_true, List.mem_range] at h
  refine ⟨List.length_pos_iff.1 h.2, fun x hx => ?_⟩
  obtain ⟨i, hi, rfl⟩ := List.mem_iff_getElem.1 hx
  have := h.1 i hi
  simp only [riseAt, Bool.and_eq_true, decide_eq_true_eq] at this
  rw [show l.getD i 0 = l[i] by simp [List.getD_eq_getElem?_getD, hi]] at this
  exact ⟨⟨by omega, by omega⟩, by omega, by omega⟩
inductive Okr : RecD → Prop
  | node (n : NodeD) (h : nodeErr n = 0) : Okr { rec0 with kind := 1, node := n }
  | gone (nm : ByteArray) (h : isName nm = true) : Okr { rec0 with kind := 2, node := { node0 with name := nm } }
  | prep (g : Int) (p : List Int) (l : List PlaceD) (hg : 1 ≤ g ∧ g ≤ 999999) (hp : risingP p = true) (hl : placesE l = 0) : Okr { rec0 with kind := 3, gang := g, peers := p, places := l }
  | gang (g : Int) (p : List Int) (hg : 1 ≤ g ∧ g ≤ 999999) (hp : risingP p = true) : Okr { rec0 with kind := 7, gang := g, peers := p }
  | plain (k g : Int) (hk : k = 4 ∨ k = 5 ∨ k = 6) (hg : 1 ≤ g ∧ g ≤ 999999) : Okr { rec0 with kind := k, gang := g }
theorem name_empty {s : ByteArray} (h : s.size = 0) : s = ⟨#[]⟩ := by
  rw [← B_bs s]
  have : bs s = [] := List.eq_nil_of_length_eq_zero (by rw [bs_len]; exact h)
  rw [this]; rfl
theorem bare_eq {n : NodeD} (h : bareP n = true) : n = { node0 with name := n.name } := by
  obtain ⟨nm, c, m, ms, ts, cl⟩ := n
  simp only [bareP, Bool.and_eq_true, decide_eq_true_eq, List.isEmpty_iff, Bool.not_eq_true'] at h
  obtain ⟨⟨⟨⟨rfl, rfl⟩, rfl⟩, rfl⟩, rfl⟩ := h
  rfl
theorem okr_of {r : RecD} (h : checkP r = 0) : Okr r := by
  obtain ⟨k, g, p, l, n⟩ := r
  unfold checkP at h
  cases e0 : (decide (k < 1) || decide (7 < k) || moreP ⟨k, g, p, l, n⟩) with
  | true => simp only [e0, if_true] at h; cases h
  | false =>
    simp only [e0] at h
    rw [if_neg (by simp)] at h
    simp only [Bool.or_eq_false_iff, decide_eq_false_iff_not] at e0
    obtain ⟨⟨k1, k2⟩, hm⟩ := e0
    unfold moreP at hm
    simp only at hm
    cases e1 : ((!gangsP k && !decide (g = 0)) || (!peeredP k && !p.isEmpty) || (!decide (k = 3) && !l.isEmpty)) with
    | true => simp only [e1, if_true] at hm; cases hm
    | false =>
      simp only [e1] at hm
      rw [if_neg (by simp)] at hm
      simp only [Bool.or_eq_false_iff, Bool.and_eq_false_iff, Bool.not_eq_false', decide_eq_true_eq, List.isEmpty_iff] at e1
      obtain ⟨⟨hg0, hp0⟩, hl0⟩ := e1
      by_cases hk1 : k = 1
      · subst hk1
        rw [if_pos rfl] at h
        have a1 : g = 0 := hg0.elim (fun h => absurd h (by decide)) id
        have a2 : p = [] := hp0.elim (fun h => absurd h (by decide)) id
        have a3 : l = [] := hl0.elim (fun h => absurd h (by decide)) id
        subst a1; subst a2; subst a3
        exact Okr.node n h
      · rw [if_neg hk1] at h hm
        simp only [Bool.or_eq_false_iff, Bool.not_eq_false', Bool.and_eq_false_iff, decide_eq_true_eq, decide_eq_false_iff_not, Decidable.not_not] at hm
        have hb := bare_eq hm.1
        by_cases hk2 : k = 2
        · subst hk2
          rw [if_pos rfl] at h
          have a1 : g = 0 := hg0.elim (fun h => absurd h (by decide)) id
          have a2 : p = [] := hp0.elim (fun h => absurd h (by decide)) id
          have a3 : l = [] := hl0.elim (fun h => absurd h (by decide)) id
          subst a1; subst a2; subst a3
          rw [hb]
          refine Okr.gone n.name ?_
          cases e : isName n.name with
          | true => rfl
          | false => simp only [e, if_true] at h; cases h
        · rw [if_neg hk2] at h
          have hn : n = node0 := by
            have := hm.2.elim (fun h => absurd h hk2) id
            rw [hb, name_empty this]
            rfl
          subst hn
          by_cases hgb : g < 1 ∨ 999999 < g ∨ (peeredP k = true ∧ risingP p = false)
          · rw [if_pos hgb] at h; cases h
          · rw [if_neg hgb] at h
            simp only [not_or, not_and, Bool.not_eq_false] at hgb
            obtain ⟨g1, g2, g3⟩ := hgb
            by_cases hk3 : k = 3
            · subst hk3
              rw [if_pos rfl] at h
              exact Okr.prep g p l (by omega) (g3 (by decide)) h
            · have a3 : l = [] := hl0.elim (fun h => absurd h hk3) id
              subst a3
              by_cases hk7 : k = 7
              · subst hk7; exact Okr.gang g p (by omega) (g3 (by decide))
              · have a2 : p = [] := hp0.elim (fun h => by simp [peeredP, hk3, hk7] at h) id
                subst a2
                exact Okr.plain k g (by omega) (by omega)
end Go.Proofs.YtealabaiamaojaaGreatDoor
namespace Go.Proofs.YtealabaiamaojaaGreatDoor
open Go.JW Go.RowKit
def ns (l : Bs) : Prop := ∀ c ∈ l, c ≠ 32
theorem ns_nil : ns [] := fun c h => by cases h
theorem ns_app {a b : Bs} (ha : ns a) (hb : ns b) : ns (a ++ b) := fun c h => (List.mem_append.1 h).elim (ha c) (hb c)
theorem ns_cons {x : UInt8} {a : Bs} (hx : x ≠ 32) (ha : ns a) : ns (x :: a) := fun c h => (List.mem_cons.1 h).elim (fun e => e ▸ hx) (ha c)
theorem ns_name {x : Bs} (h : okName x) : ns x := fun c hc e => by have := h.2 c hc; rw [e] at this; exact absurd this (by decide)
theorem ns_dig {n : Int} (h : numOk n) : ns (digN n.toNat) := fun c hc e => by
  obtain ⟨h1, _⟩ := digN_spec (n := n.toNat) (by have := h.1; have := h.2; omega)
  have := h1 c hc; rw [e] at this; exact absurd this (by decide)
theorem ns_vec {c m : Int} (h : vecOk c m) : ns (vecT c m) := ns_app (ns_dig h.1) (ns_cons (by decide) (ns_dig h.2))
theorem ns_signed {c : UInt8} (hc : c ≠ 32) {l : List Bs} (h : ∀ x ∈ l, okName x) : ns (signedT c l) := by
  induction l with
  | nil => exact ns_nil
  | cons x l ih => exact ns_app (ns_cons hc (ns_name (h x (by simp)))) (ih fun y hy => h y (by simp [hy]))
theorem ns_flag (b : Bool) : ns (flagT b) := by cases b; exact ns_nil; exact ns_cons (by decide) ns_nil
theorem ns_node {n : NodeD} (h : OkNode n) : ns (nodeT n) :=
  ns_app (ns_app (ns_app (ns_app (ns_name h.name) (ns_cons (by decide) (ns_vec h.vec))) (ns_signed (by decide) (by simpa using h.marks))) (ns_signed (by decide) (by simpa using h.taints))) (ns_flag _)
theorem ns_place {p : PlaceD} (h : OkPlace p) : ns (placeT p) := by
  have e : placeT p = bs p.pod ++ 62 :: (bs p.node ++ 58 :: (vecT p.cpu p.mem ++ flagT p.alone)) := by simp [placeT]
  rw [e]
  exact ns_app (ns_name h.pod) (ns_cons (by decide) (ns_app (ns_name h.node) (ns_cons (by decide) (ns_app (ns_vec h.vec) (ns_flag _)))))
theorem ns_comma {l : List Int} (h : ∀ x ∈ l, numOk x) : ns (commaT l) := by
  induction l with
  | nil => exact ns_nil
  | cons x l ih => exact ns_app (ns_cons (by decide) (ns_dig (h x (by simp)))) (ih fun y hy => h y (by simp [hy]))
theorem ns_peers {l : List Int} (h : ∀ x ∈ l, numOk x) : ns (peersT l) := by
  cases l with
  | nil => exact ns_nil
  | cons x l => exact ns_app (ns_dig (h x (by simp))) (ns_comma fun y hy => h y (by simp [hy]))
theorem ne_dig {n : Int} (h : numOk n) : digN n.toNat ≠ [] := (digN_spec (n := n.toNat) (by have := h.1; have := h.2; omega)).2.2.1
theorem ne_node {n : NodeD} (_ : OkNode n) : nodeT n ≠ [] := by simp [nodeT]
theorem ne_place (p : PlaceD) : placeT p ≠ [] := by simp [placeT]
theorem ne_peers {l : List Int} (hn : l ≠ []) (h : ∀ x ∈ l, numOk x) : peersT l ≠ [] := by
  cases l with
  | nil => exact absurd rfl hn
  | cons x l => simp only [peersT]; intro e; exact ne_dig (h x (by simp)) (List.append_eq_nil_iff.1 e).1
theorem verb_ns : ∀ k : Fin 8, ns (verbT k.val) := fun k c hc => by
  have : ∀ k : Fin 8, ∀ c ∈ verbT k.val, ¬ c = 32 := by decide
  exact this k c hc
theorem verb_ne : ∀ k : Fin 8, k.val ≠ 0 → verbT k.val ≠ [] := by decide
theorem kind_verb : ∀ k : Fin 8, k.val ≠ 0 → kindP (verbT k.val) = k.val := by decide
theorem kv1 : kindP (verbT 1) = 1 := by decide
theorem kv2 : kindP (verbT 2) = 2 := by decide
theorem kv3 : kindP (verbT 3) = 3 := by decide
theorem kv7 : kindP (verbT 7) = 7 := by decide
theorem numOk_gang {g : Int} (h : 1 ≤ g ∧ g ≤ 999999) : numOk g := ⟨by omega, by omega⟩
theorem okO_end {α : Type} {x : α} : okO (x, (⟨[], false⟩ : St)) = some x := rfl
theorem numO_on {n : Int} (h : numOk n) : numO (digN n.toNat) = some n := by
  have := numR_on (r := []) ⟨h.1, h.2⟩ (stops_nil _)
  rw [List.append_nil] at this
  exact (congrArg okO this).trans okO_end
theorem nodeO_on {n : NodeD} (h : OkNode n) : nodeO (nodeT n) = some n := by unfold nodeO; rw [nodeR_on h]; exact okO_end
theorem nameO_on {x : Bs} (h : okName x) : nameO x = some x := by
  have := nameR_on (r := []) h (stops_nil _)
  rw [List.append_nil] at this
  unfold nameO; rw [this]; exact okO_end
theorem peersO_on {l : List Int} (hn : l ≠ []) (h : ∀ x ∈ l, numOk x) : peersO (peersT l) = some l := by unfold peersO; rw [peersR_on hn h]; exact okO_end
theorem placeO_on {p : PlaceD} (h : OkPlace p) : placeO (placeT p) = some p := by unfold placeO; rw [placeR_on h]; exact okO_end
theorem placesO_on {l : List PlaceD} (h : ∀ p ∈ l, OkPlace p) : placesO (l.map placeT) = some l := by
  induction l with
  | nil => rfl
  | cons p l ih =>
    show (placeO (placeT p)).bind _ = _
    rw [placeO_on (h p (by simp)), ih fun q hq => h q (by simp [hq])]
    rfl
theorem read_text {r : RecD} (h : Okr r) : readO (textW r) = some r ∧ (textW r ≠ [] ∧ ∀ w ∈ textW r, w ≠ [] ∧ ns w) := by
  cases h with
  | node n h =>
    have ho := node_ok h
    refine ⟨?_, by simp [textW], fun w hw => ?_⟩
    · show readO [verbT 1, nodeT n] = _
      simp [readO, kv1, nodeO_on ho]
    · simp only [textW, if_true, List.mem_cons, List.not_mem_nil, or_false] at hw
      rcases hw with rfl | rfl
      · exact ⟨verb_ne 1 (by decide), verb_ns 1⟩
      · exact ⟨ne_node ho, ns_node ho⟩
  | gone nm h =>
    have ho := isName_ok h
    refine ⟨?_, by simp [textW], fun w hw => ?_⟩
    · show readO [verbT 2, bs nm] = _
      simp [readO, kv2, nameO_on ho, B_bs]
    · simp only [textW, if_true] at hw
      rw [if_neg (by decide)] at hw
      simp only [List.mem_cons, List.not_mem_nil, or_false] at hw
      rcases hw with rfl | rfl
      · exact ⟨verb_ne 2 (by decide), verb_ns 2⟩
      · exact ⟨ho.1, ns_name ho⟩
  | prep g p l hg hp hl =>
    obtain ⟨p1, p2⟩ := rising_ok hp
    have p3 := fun x hx => (p2 x hx).1
    obtain ⟨l1, _, _⟩ := placesE_ok hl
    have hn := numOk_gang hg
    have e : textW { rec0 with kind := 3, gang := g, peers := p, places := l } = verbT 3 :: digN g.toNat :: peersT p :: l.map placeT := rfl
    rw [e]
    refine ⟨?_, by simp, fun w hw => ?_⟩
    · simp [readO, kv3, numO_on hn, peersO_on p1 p3, placesO_on l1]
    · simp only [List.mem_cons, List.mem_map] at hw
      rcases hw with rfl | rfl | rfl | ⟨q, hq, rfl⟩
      · exact ⟨verb_ne 3 (by decide), verb_ns 3⟩
      · exact ⟨ne_dig hn, ns_dig hn⟩
      · exact ⟨ne_peers p1 p3, ns_peers p3⟩
      · exact ⟨ne_place q, ns_place (l1 q hq)⟩
  | gang g p hg hp =>
    obtain ⟨p1, p2⟩ := rising_ok hp
    have p3 := fun x hx => (p2 x hx).1
    have hn := numOk_gang hg
    have e : textW { rec0 with kind := 7, gang := g, peers := p } = [verbT 7, digN g.toNat, peersT p] := rfl
    rw [e]
    refine ⟨?_, by simp, fun w hw => ?_⟩
    · simp [readO, kv7, numO_on hn, peersO_on p1 p3]
    · simp only [List.mem_cons, List.not_mem_nil, or_false] at hw
      rcases hw with rfl | rfl | rfl
      · exact ⟨verb_ne 7 (by decide), verb_ns 7⟩
      · exact ⟨ne_dig hn, ns_dig hn⟩
      · exact ⟨ne_peers p1 p3, ns_peers p3⟩
  | plain k g hk hg =>
    have hn := numOk_gang hg
    have key : ∀ j : Fin 8, (j.val = 4 ∨ j.val = 5 ∨ j.val = 6) → k = j.val → readO (textW { rec0 with kind := k, gang := g }) = some { rec0 with kind := k, gang := g } ∧ (textW { rec0 with kind := k, gang := g } ≠ [] ∧ ∀ w ∈ textW { rec0 with kind := k, gang := g }, w ≠ [] ∧ ns w) := fun j hj hkj => by
      have e : textW { rec0 with kind := k, gang := g } = [verbT k, digN g.toNat] := by
        unfold textW
        rw [if_neg (by show ¬ k = 1; omega), if_neg (by show ¬ k = 2; omega), if_neg (by simp [peeredP]; omega), if_neg (by show ¬ k = 3; omega)]
        rfl
      rw [e]
      refine ⟨?_, by simp, fun w hw => ?_⟩
      · have hkv : kindP (verbT k) = k := by rw [hkj]; exact kind_verb j (by omega)
        simp [readO, hkv, numO_on hn, show ¬ k = 0 by omega, show ¬ k = 1 by omega, show ¬ k = 2 by omega, show ¬ k = 3 by omega, show ¬ k = 7 by omega]
      · simp only [List.mem_cons, List.not_mem_nil, or_false] at hw
        rcases hw with rfl | rfl
        · rw [hkj]; exact ⟨verb_ne j (by omega), verb_ns j⟩
        · exact ⟨ne_dig hn, ns_dig hn⟩
    rcases hk with h | h | h
    · exact key 4 (by decide) h
    · exact key 5 (by decide) h
    · exact key 6 (by decide) h
theorem parse_text {r : RecD} (h : checkP r = 0) : parseP (textP r) = (r, 0) := by
  obtain ⟨h1, h2, h3⟩ := read_text (okr_of h)
  unfold parseP textP
  rw [words_join h2 h3, h1]
  simp only
  rw [if_pos h]
theorem okO_some {α : Type} {x : α × St} {a : α} (h : okO x = some a) : endR x.2 = true ∧ x.1 = a := by
  unfold okO at h
  split at h
  · rename_i h1; injection h with h; exact ⟨h1, h⟩
  · cases h
theorem nodeO_back {w : Bs} {n : NodeD} (h : nodeO w = some n) : w = nodeT n := by
  obtain ⟨h1, rfl⟩ := okO_some h; exact (nodeR_back h1).2
theorem peersO_back {w : Bs} {l : List Int} (h : peersO w = some l) : w = peersT l := by
  obtain ⟨h1, rfl⟩ := okO_some h; exact (peersR_back h1).2.2
theorem placeO_back {w : Bs} {p : PlaceD} (h : placeO w = some p) : w = placeT p := by
  obtain ⟨h1, rfl⟩ := okO_some h; exact (placeR_back h1).2
theorem placesO_back : ∀ {ws : List Bs} {l : List PlaceD}, placesO ws = some l → ws = l.map placeT := by
  intro ws
  induction ws with
  | nil => intro l h; injection h with h; subst h; rfl
  | cons w ws ih =>
    intro l h
    have h : ((placeO w).bind fun p => (placesO ws).map fun l => p :: l) = some l := h
    cases e1 : placeO w with
    | none => rw [e1] at h; cases h
    | some p =>
      cases e2 : placesO ws with
      | none => rw [e1, e2] at h; cases h
      | some l' =>
        rw [e1, e2] at h
        injection h with h
        subst h
        rw [List.map_cons, ← placeO_back e1, ← ih e2]
end Go.Proofs.YtealabaiamaojaaGreatDoor
namespace Go.Proofs.YtealabaiamaojaaGreatDoor
open Go.JW Go.RowKit
def bindS {α β : Type} (f : St → α × St) (k : α → St → β × St) : St → β × St := fun st => k (f st).1 (f st).2
def Stk {α : Type} (f : St → α × St) : Prop := ∀ st, st.no = true → (f st).2.no = true
structure Sim {α : Type} (f g : St → α × St) : Prop where
  stf : Stk f
  stg : Stk g
  no : ∀ st, st.no = false → (g st).2.no = (f st).2.no
  eq : ∀ st, st.no = false → (f st).2.no = false → g st = f st
theorem Sim.bind {α β : Type} {f g : St → α × St} {k k' : α → St → β × St} (h : Sim f g) (hk : ∀ a, Sim (k a) (k' a)) : Sim (bindS f k) (bindS g k') where
  stf st hs := (hk _).stf _ (h.stf st hs)
  stg st hs := (hk _).stg _ (h.stg st hs)
  no st hs := by
    unfold bindS
    cases e : (f st).2.no with
    | false => rw [h.eq st hs e]; exact (hk _).no _ e
    | true => rw [(hk _).stf _ e, (hk _).stg _ (by rw [h.no st hs]; exact e)]
  eq st hs hf := by
    unfold bindS at hf ⊢
    cases e : (f st).2.no with
    | false => rw [h.eq st hs e]; exact (hk _).eq _ e hf
    | true => rw [(hk _).stf _ e] at hf; cases hf
theorem Sim.same {α : Type} {f : St → α × St} (h : Stk f) : Sim f f := ⟨h, h, fun _ _ => rfl, fun _ _ _ => rfl⟩
theorem Sim.pure {α : Type} (a : α) : Sim (fun st => (a, st)) (fun st => (a, st)) := Sim.same fun _ h => h
theorem Sim.okO {α : Type} {f g : St → α × St} (h : Sim f g) (w : Bs) : Go.Proofs.YtealabaiamaojaaGreatDoor.okO (g ⟨w, false⟩) = Go.Proofs.YtealabaiamaojaaGreatDoor.okO (f ⟨w, false⟩) := by
  cases e : (f ⟨w, false⟩).2.no with
  | false => rw [h.eq _ rfl e]
  | true =>
    have e2 := h.no ⟨w, false⟩ rfl
    rw [e] at e2
    simp [Go.Proofs.YtealabaiamaojaaGreatDoor.okO, endR, e, e2]
end Go.Proofs.YtealabaiamaojaaGreatDoor
namespace Go.Proofs.YtealabaiamaojaaGreatDoor
open Go.JW Go.RowKit
theorem decDigits_eq : ∀ (f n : Nat), n < 10 ^ f → 0 < f → Lib.decDigits n = digF f n := by
  intro f
  induction f with
  | zero => intro n _ h; omega
  | succ f ih =>
    intro n hn _
    rw [Lib.decDigits]
    simp only [digF]
    by_cases h : n < 10
    · rw [dif_pos h, if_pos h]
    · rw [dif_neg h, if_neg h]
      have hp : 10 ^ (f + 1) = 10 ^ f * 10 := Nat.pow_succ ..
      have hf : 0 < f := by
        rcases Nat.eq_zero_or_pos f with e | e
        · subst e; simp at hn; omega
        · exact e
      rw [ih (n / 10) (by rw [Nat.div_lt_iff_lt_mul (by omega)]; omega) hf]
theorem itoa_eq {n : Int} (h : 0 ≤ n ∧ n ≤ 9223372036854775807) : Lib.itoa n = digN n.toNat := by
  unfold Lib.itoa digN
  rw [if_neg (by omega)]
  exact decDigits_eq 20 _ (Nat.lt_of_le_of_lt (show n.toNat ≤ 9223372036854775807 by omega) (by decide)) (by omega)
theorem part32 (s : Bs) : (ns s) ∨ ∃ w r, s = w ++ 32 :: r ∧ ns w := by
  induction s with
  | nil => exact .inl ns_nil
  | cons b s ih =>
    by_cases h : b = 32
    · exact .inr ⟨[], s, by simp [h], ns_nil⟩
    · rcases ih with h1 | ⟨w, r, rfl, h1⟩
      · exact .inl (ns_cons h h1)
      · exact .inr ⟨b :: w, r, by simp, ns_cons h h1⟩
theorem count_ns {w : Bs} (h : ns w) : w.count 32 = 0 := List.count_eq_zero.2 fun hm => h 32 hm rfl
theorem index_ns : ∀ {w : Bs} {r : Bs}, ns w → Lib.index (w ++ 32 :: r) [32] = (w.length : Int) := by
  intro w
  induction w with
  | nil => intro r _; simp [Lib.index, List.isPrefixOf]
  | cons b w ih =>
    intro r h
    have h1 := ih (r := r) (fun c hc => h c (by simp [hc]))
    have h2 : ¬ (32 : UInt8) = b := fun e => h b (by simp) e.symm
    simp only [List.cons_append, Lib.index, List.isPrefixOf]
    rw [h1]
    have e1 : ((32 : UInt8) == b) = false := by simpa using h2
    have e2 : ((w.length : Int) == -1) = false := by
      rw [beq_eq_false_iff_ne]; omega
    simp only [e1, Bool.false_and, Bool.false_eq_true, if_false, e2, List.length_cons]
    omega
theorem split_eq : ∀ (n : Nat) (s : Bs), s.length ≤ n → Lib.split s [32] = splitB s := by
  intro n
  induction n with
  | zero =>
    intro s h
    rw [List.eq_nil_of_length_eq_zero (by omega : s.length = 0)]
    unfold Lib.split
    rw [Lib.count_one]; rfl
  | succ n ih =>
    intro s h
    rcases part32 s with h1 | ⟨w, r, rfl, h1⟩
    · unfold Lib.split
      rw [Lib.count_one, count_ns h1, split_one h1]; rfl
    · have hc : (w ++ 32 :: r).count 32 = r.count 32 + 1 := by rw [List.count_append, count_ns h1]; simp
      have hr := ih r (by simp at h; omega)
      unfold Lib.split at hr ⊢
      rw [Lib.count_one] at hr ⊢
      rw [hc, split_word h1, ← hr]
      have e2 : ((w.length : Int) == -1) = false := by rw [beq_eq_false_iff_ne]; omega
      have e3 : Lib.splitK [32] 0 (r.count 32 + 1) (w ++ 32 :: r) = if (Lib.index (w ++ 32 :: r) [32] == -1) = true then [w ++ 32 :: r] else (w ++ 32 :: r).take ((Lib.index (w ++ 32 :: r) [32]).toNat + 0) :: Lib.splitK [32] 0 (r.count 32) ((w ++ 32 :: r).drop ((Lib.index (w ++ 32 :: r) [32]).toNat + 1)) := rfl
      rw [e3, index_ns h1, e2, if_neg (by simp)]
      simp
theorem split_lib (s : Bs) : Lib.split s [32] = splitB s := split_eq _ s (Nat.le_refl _)
theorem join_lib : ∀ ws : List Bs, Lib.join ws [32] = joinB ws := by
  intro ws
  induction ws with
  | nil => rfl
  | cons w ws ih =>
    cases ws with
    | nil => rw [Lib.join_one]; rfl
    | cons v ws =>
      rw [Lib.join_cons]
      rw [Lib.join_cons] at ih
      simp only [joinB, ← ih, Lib.joinTail, List.map_cons, List.flatten_cons]
      simp
theorem comma_join : ∀ l : List Int, Lib.joinTail [44] (l.map fun x => digN x.toNat) = commaT l := by
  intro l
  induction l with
  | nil => rfl
  | cons x l ih => simp only [commaT, Lib.joinTail, List.map_cons, List.flatten_cons] at ih ⊢; rw [ih]; simp
theorem peers_join (l : List Int) : Lib.join (l.map fun x => digN x.toNat) [44] = peersT l := by
  cases l with
  | nil => rfl
  | cons x l => rw [List.map_cons, Lib.join_cons, comma_join]; rfl
def verbsB : Bs := [110, 111, 100, 101, 32, 103, 111, 110, 101, 32, 112, 114, 101, 112, 97, 114, 101, 32, 99, 111, 109, 109, 105, 116, 32, 97, 98, 111, 114, 116, 32, 114, 101, 108, 101, 97, 115, 101, 32, 103, 97, 110, 103]
theorem fields_verbs : Lib.fields verbsB = [verbT 1, verbT 2, verbT 3, verbT 4, verbT 5, verbT 6, verbT 7] := by decide +kernel
end Go.Proofs.YtealabaiamaojaaGreatDoor
namespace Go.JW

abbrev Us := Nat → Value
abbrev HS := List (Nat × (Value → PH → Prop))
inductive Info where
  | free (v : Value)
  | ex (v : Value)
  | exc (v : Value)
  | gr (T : Value → PH → Prop)
  | own (obj : Obj)
  | eff (T : Value → PH → Prop) (Kf : Us → List HP)
  | st (Kf : Us → List HP)
inductive Tag where
  | free | ex | own | eff | st
  | g (s : Nat) (b : Option Bool)
def Info.tag : Info → Tag
  | .free _ => .free
  | .ex _ | .exc _ | .gr _ => .ex
  | .own _ => .own
  | .eff .. => .eff
  | .st _ => .st
def Tag.isMut : Tag → Bool
  | .eff | .st => true
  | _ => false
def Tag.isFree : Tag → Bool
  | .free => true
  | _ => false
def Tag.isSt : Tag → Bool
  | .st => true
  | _ => false
def Info.isMut (i : Info) : Bool := i.tag.isMut
def Info.isFree (i : Info) : Bool := i.tag.isFree
def Info.isSt (i : Info) : Bool := i.tag.isSt
def fill (fr : Us) : HS → Us → Us
  | [], _ => fr
  | (s, _) :: H, us => upd (fill fr H us) s (us s)
def resE (E : List Nat) (us : Us) : Us := fun s => bif E.elem s then us s else undef
def ownHP (v : Value) (obj : Obj) : HP := ⟨fun g F => ∃ b, v = .pointer (some ⟨b, 0, none⟩) ∧ F b ∧ g.cur b = some obj, fun ⟨b, h1, h2, h3⟩ hg _ => ⟨b, h1, h2, by rw [hg _ h2]; exact h3⟩⟩
def ownsL (O : List (Nat × Obj)) (us : Us) : List HP := O.map fun p => ownHP (us p.1) p.2
def groupHP (K : List HP) : HP := ⟨fun g F => SepIn g K F, fun h hg hi => h.loc hg hi⟩
structure Stg where
  fr : Us
  H : HS
  O : List (Nat × Obj)
  Kf : Us → List HP
  E : List Nat
  sg : Bool
def Stg.slots (s : Stg) : List Nat := s.H.map (·.1)
def dstOf (o : Oper) : Nat := o.dst.getD 0
def readsTmp (o : Oper) : List Nat := o.op.operands.toList.filterMap fun | .tmp t => some t | _ => none
def Stg.seen (s : Stg) (o : Oper) : List Nat := (readsTmp o).filter (fun x => s.slots.elem x)
def Stg.next (s : Stg) (o : Oper) : Info → Stg
  | .free v | .ex v | .exc v => { s with fr := upd s.fr (dstOf o) v }
  | .gr T => { s with H := (dstOf o, T) :: s.H }
  | .own obj => { s with H := (dstOf o, fun _ _ => True) :: s.H, O := (dstOf o, obj) :: s.O }
  | .eff T Kf => { s with H := (dstOf o, T) :: s.H, Kf := fun us => Kf (resE (dstOf o :: (s.seen o ++ s.E)) us), E := dstOf o :: (s.seen o ++ s.E) }
  | .st Kf => { s with Kf := fun us => Kf (resE (s.O.map (·.1) ++ (s.seen o ++ s.E)) us), E := s.O.map (·.1) ++ (s.seen o ++ s.E), O := [], sg := true }
def StepsTo (P : Program) (ρ : Operand → Value) (o : Oper) (w : World) (Rel : Value → World → Prop) : Prop :=
  (∃ v w', (execOp ρ o).run P w = .ok (.value v) w' ∧ Rel v w') ∨ (∃ g args, (execOp ρ o).run P w = .ok (.enter g args) w ∧ Calls P g args w fun e w' => ∃ v, e = .returned v ∧ Rel v w')
def MonoT (T : Value → PH → Prop) : Prop := ∀ v σ σ', T v σ → PH.le σ σ' → T v σ'
section
variable (P : Program) (f : FuncId) (R : Ending → World → Prop) (k : List Item) (n : Nat) (w0 : World) (M : Nat → Prop) (σ : PH) (Kb : List HP)
def Ob (s : Stg) (o : Oper) (inf : Info) : Prop := o.guard = none ∧
  match inf with
  | .free v => o.dst.isSome = true ∧ ∀ us σ' w, PH.le σ σ' → PH.le σ' (hp w) → (∀ p ∈ s.H, p.1 ∈ readsTmp o → p.2 (us p.1) σ') → (execOp (ev n (fill s.fr s.H us)) o).run P w = .ok (.value v) w
  | .ex v => s.sg = false ∧ o.dst.isSome = true ∧ ∀ us σ' w, PH.le σ σ' → (∀ p ∈ s.H, p.1 ∈ readsTmp o → p.2 (us p.1) σ') → Sat w0 M σ' Kb w → (execOp (ev n (fill s.fr s.H us)) o).run P w = .ok (.value v) w
  | .exc v => s.sg = false ∧ o.dst.isSome = true ∧ ∀ us σ' w, PH.le σ σ' → (∀ p ∈ s.H, p.1 ∈ readsTmp o → p.2 (us p.1) σ') → Sat w0 M σ' Kb w →
      StepsTo P (ev n (fill s.fr s.H us)) o w fun u w' => RowKit.Below w.heap.size w w' ∧ u = v
  | .gr T => s.sg = false ∧ o.dst.isSome = true ∧ MonoT T ∧ ∀ us σ' w, PH.le σ σ' → (∀ p ∈ s.H, p.1 ∈ readsTmp o → p.2 (us p.1) σ') → Sat w0 M σ' Kb w →
      StepsTo P (ev n (fill s.fr s.H us)) o w fun u w' => RowKit.Below w.heap.size w w' ∧ T u (grow σ' w w')
  | .own obj => s.sg = false ∧ o.dst.isSome = true ∧ ∀ us w, (execOp (ev n (fill s.fr s.H us)) o).run P w = .ok (.value (.pointer (some ⟨w.heap.size, 0, none⟩))) (w.alloc obj)
  | .eff T Kf => s.sg = false ∧ o.dst.isSome = true ∧ MonoT T ∧ (∀ us, Less (Kf us) Kb) ∧ ∀ us σ' w X, PH.le σ σ' → (∀ p ∈ s.H, p.1 ∈ readsTmp o → p.2 (us p.1) σ') → Sat w0 M σ' (X :: s.Kf us) w →
      StepsTo P (ev n (fill s.fr s.H us)) o w fun u w' => ∃ σ'', PH.le σ' σ'' ∧ Sat w0 M σ'' (X :: Kf (upd us (dstOf o) u)) w' ∧ T u σ''
  | .st Kf => o.dst = none ∧ ∀ us σ' w, PH.le σ σ' → (∀ p ∈ s.H, p.1 ∈ readsTmp o → p.2 (us p.1) σ') → Sat w0 M σ' (ownsL s.O us ++ s.Kf us) w →
      ∃ w', ((execOp (ev n (fill s.fr s.H us)) o).run P w = .ok .skip w' ∨ ∃ v, (execOp (ev n (fill s.fr s.H us)) o).run P w = .ok (.value v) w') ∧ Sat w0 M σ' (Kf us) w'
def LDp : List (Oper × Info) → Stg → Prop
  | [], s => ∀ us σ', PH.le σ σ' → (∀ p ∈ s.H, p.2 (us p.1) σ') → RS P f R k n (fill s.fr s.H us) w0 M σ' (ownsL s.O us ++ s.Kf us)
  | (o, inf) :: l, s => Ob P n w0 M σ Kb s o inf ∧ LDp l (s.next o inf)
end
def stAt : List (Oper × Info) → Stg → Nat → Stg
  | _, s, 0 => s
  | [], s, _ + 1 => s
  | (o, inf) :: l, s, i + 1 => stAt l (s.next o inf) i
theorem stAt_succ : ∀ (l : List (Oper × Info)) (s : Stg) (i : Nat) (o : Oper) (inf : Info), l[i]? = some (o, inf) → stAt l s (i + 1) = (stAt l s i).next o inf := by
  intro l
  induction l with
  | nil => intro s i o inf h; simp at h
  | cons p l ih =>
    obtain ⟨o', inf'⟩ := p
    intro s i o inf h
    cases i with
    | zero => simp at h; obtain ⟨rfl, rfl⟩ := h; cases l <;> rfl
    | succ i => simp at h; exact ih _ _ _ _ h

def edgeTo (o : Oper) : List Nat := o.after.toList.filterMap fun e => if Region.binds .any e then some e.on else none
def orAll (acc : List Nat) : List Nat → Nat
  | [] => 0
  | e :: es => (2 ^ e ||| acc.getD e 0) ||| orAll acc es
def closL : List Oper → List Nat → List Nat
  | [], acc => acc
  | o :: l, acc => closL l (acc ++ [orAll acc (edgeTo o)])
def DownCl (l : List Oper) (L : Nat → Bool) : Prop := ∀ j o, l[j]? = some o → L j = true → ∀ e ∈ edgeTo o, L e = true
theorem orAll_bit {acc : List Nat} {i : Nat} : ∀ {es : List Nat}, (orAll acc es).testBit i = true → i ∈ es ∨ ∃ e ∈ es, (acc.getD e 0).testBit i = true := by
  intro es
  induction es with
  | nil => intro h; simp [orAll] at h
  | cons e es ih =>
    intro h
    simp only [orAll, Nat.testBit_or, Bool.or_eq_true, Nat.testBit_two_pow] at h
    rcases h with (h | h) | h
    · simp at h; exact .inl (by simp [h])
    · exact .inr ⟨e, by simp, h⟩
    · rcases ih h with h | ⟨e', h1, h2⟩
      · exact .inl (by simp [h])
      · exact .inr ⟨e', by simp [h1], h2⟩
theorem closL_sound (full : List Oper) (L : Nat → Bool) (hL : DownCl full L) : ∀ (l : List Oper) (acc : List Nat), (∀ j, l[j]? = full[acc.length + j]?) →
    (∀ j o, j < acc.length → full[j]? = some o → (∀ e ∈ edgeTo o, L e = true) → ∀ i, (acc.getD j 0).testBit i = true → L i = true) →
    ∀ j o, full[j]? = some o → (∀ e ∈ edgeTo o, L e = true) → ∀ i, ((closL l acc).getD j 0).testBit i = true → L i = true := by
  intro l
  induction l with
  | nil =>
    intro acc hl hacc j o hj he i hi
    simp only [closL] at hi
    rcases Nat.lt_or_ge j acc.length with h | h
    · exact hacc j o h hj he i hi
    · have := hl (j - acc.length)
      rw [show acc.length + (j - acc.length) = j by omega, hj] at this
      simp at this
  | cons o l ih =>
    intro acc hl hacc
    refine ih (acc ++ [orAll acc (edgeTo o)]) (fun j => ?_) ?_
    · have := hl (j + 1)
      simp only [List.length_append, List.length_cons, List.length_nil]
      rw [show acc.length + (0 + 1) + j = acc.length + (j + 1) by omega, ← this]; simp
    · intro j oj hj hoj he i hi
      simp only [List.length_append, List.length_cons, List.length_nil] at hj
      by_cases h : j < acc.length
      · rw [List.getD_eq_getElem?_getD, List.getElem?_append_left h, ← List.getD_eq_getElem?_getD] at hi
        exact hacc j oj h hoj he i hi
      · obtain rfl : j = acc.length := by omega
        have h0 := hl 0
        simp only [Nat.add_zero] at h0
        rw [hoj] at h0
        simp at h0
        subst h0
        rw [List.getD_eq_getElem?_getD, List.getElem?_append_right (by omega)] at hi
        simp at hi
        rcases orAll_bit hi with h1 | ⟨e, h1, h2⟩
        · exact he i h1
        · have hle := he e h1
          rcases Nat.lt_or_ge e acc.length with h3 | h3
          · have : ∃ oe, full[e]? = some oe := by
              rcases Nat.lt_or_ge e full.length with h4 | h4
              · exact ⟨_, List.getElem?_eq_getElem h4⟩
              · exfalso
                have h5 : full.length > acc.length := (List.getElem?_eq_some_iff.1 hoj).1
                omega
            obtain ⟨oe, hoe⟩ := this
            exact hacc e oe h3 hoe (hL e oe hoe hle) i h2
          · rw [List.getD_eq_getElem?_getD, List.getElem?_eq_none h3] at h2; simp at h2
def pairsOk (clos : List Nat) (l : List (Oper × Tag)) : List (Oper × Tag) → Nat → Bool
  | [], _ => true
  | (oj, fj) :: r, j =>
    (l.take j).zipIdx.all (fun p =>
      let oi := p.1.1; let fi := p.1.2; let i := p.2
      let before := (clos.getD j 0).testBit i
      (match oi.dst with
        | some d => (!(readsTmp oj).elem d || before) && (oj.dst != some d)
        | none => true) &&
      (match oj.dst with
        | some d => !(readsTmp oi).elem d || before
        | none => true) &&
      (!(fj.isMut && fi.isMut) || before) &&
      (!(fj.isSt && !fi.isFree) || before)) &&
    pairsOk clos l r (j + 1)
def drawOkT (ops : List Oper) (tags : List Tag) : Bool :=
  Region.noSelect ops.toArray && pairsOk (closL ops []) (ops.zip tags) (ops.zip tags) 0 && (ops.zipIdx.all (fun p => (edgeTo p.1).all fun e => decide (e < p.2)) && decide (ops.length = tags.length))
def drawOk (l : List (Oper × Info)) : Bool := drawOkT (l.map (·.1)) (l.map (·.2.tag))
structure PairOk (bef : Bool) (oi : Oper) (fi : Tag) (oj : Oper) (fj : Tag) : Prop where
  reads : ∀ d, oi.dst = some d → d ∈ readsTmp oj → bef = true
  ne : ∀ d, oi.dst = some d → oj.dst ≠ some d
  anti : ∀ d, oj.dst = some d → d ∈ readsTmp oi → bef = true
  chain : fj.isMut = true → fi.isMut = true → bef = true
  st : fj.isSt = true → fi.isFree = false → bef = true
theorem pairsOk_spec (clos : List Nat) (l : List (Oper × Tag)) : ∀ (r : List (Oper × Tag)) (k : Nat), (∀ j, r[j]? = l[k + j]?) → pairsOk clos l r k = true →
    ∀ i j oi fi oj fj, k ≤ j → i < j → l[i]? = some (oi, fi) → l[j]? = some (oj, fj) → PairOk ((clos.getD j 0).testBit i) oi fi oj fj := by
  intro r
  induction r with
  | nil =>
    intro k hr _ i j oi fi oj fj hk hij hi hj
    have := hr (j - k)
    rw [show k + (j - k) = j by omega, hj] at this; simp at this
  | cons p r ih =>
    obtain ⟨o, inf⟩ := p
    intro k hr h i j oi fi oj fj hk hij hi hj
    simp only [pairsOk, Bool.and_eq_true] at h
    by_cases hjk : j = k
    · subst hjk
      have h0 := hr 0
      simp only [Nat.add_zero] at h0
      rw [hj] at h0; simp at h0; obtain ⟨rfl, rfl⟩ := h0
      have h1 := List.all_eq_true.1 h.1 ((oi, fi), i) (by
        rw [List.mem_zipIdx_iff_getElem?]
        simp only [List.getElem?_take, hij, if_true]
        exact hi)
      simp only [Bool.and_eq_true, Bool.or_eq_true, Bool.not_eq_true'] at h1
      obtain ⟨⟨⟨h2, h3⟩, h4⟩, h5⟩ := h1
      refine ⟨fun d hd hr => ?_, fun d hd => ?_, fun d hd hr => ?_, fun a b => ?_, fun a b => ?_⟩
      · simp [hd, hr] at h2; exact h2.1
      · simp [hd] at h2; exact h2.2
      · simp [hd, hr] at h3; exact h3
      · rcases h4 with h4 | h4
        · simp [a, b] at h4
        · exact h4
      · rcases h5 with h5 | h5
        · simp [a, b] at h5
        · exact h5
    · refine ih (k + 1) (fun j => ?_) h.2 i j oi fi oj fj (by omega) hij hi hj
      have := hr (j + 1)
      rw [show k + 1 + j = k + (j + 1) by omega, ← this]; simp

theorem resE_mem {E : List Nat} {us : Us} {s : Nat} (h : s ∈ E) : resE E us s = us s := by simp [resE, h]
theorem fill_mem : ∀ {H : HS} {fr us : Us} {s : Nat}, s ∈ H.map (·.1) → fill fr H us s = us s := by
  intro H
  induction H with
  | nil => intro fr us s h; simp at h
  | cons p H ih =>
    obtain ⟨d, T⟩ := p
    intro fr us s h
    simp only [fill, upd]
    by_cases e : Nat.beq s d = true
    · simp [Nat.eq_of_beq_eq_true e]
    · simp only [e, cond_false]
      simp only [List.map_cons, List.mem_cons] at h
      rcases h with h | h
      · subst h; simp at e
      · exact ih h
theorem fill_not : ∀ {H : HS} {fr us : Us} {s : Nat}, s ∉ H.map (·.1) → fill fr H us s = fr s := by
  intro H
  induction H with
  | nil => intros; rfl
  | cons p H ih =>
    obtain ⟨d, T⟩ := p
    intro fr us s h
    simp only [List.map_cons, List.mem_cons, not_or] at h
    have e : Nat.beq s d = false := by rw [Bool.eq_false_iff]; intro hb; exact h.1 (Nat.eq_of_beq_eq_true hb)
    simp only [fill, upd, e, cond_false]
    exact ih h.2
theorem upd_eq (fr : Us) (d : Nat) (v : Value) : upd fr d v d = v := by simp [upd]
theorem upd_ne {fr : Us} {d s : Nat} {v : Value} (h : s ≠ d) : upd fr d v s = fr s := by
  have e : Nat.beq s d = false := by rw [Bool.eq_false_iff]; intro hb; exact h (Nat.eq_of_beq_eq_true hb)
  simp [upd, e]
theorem SepIn.append {g : VH} : ∀ {A K : List HP} {F : Nat → Prop}, SepIn g (groupHP A :: K) F → SepIn g (A ++ K) F := by
  intro A
  induction A with
  | nil => rintro K F ⟨F1, _, _, h⟩; exact h.mono fun b hb => hb.1
  | cons B A ih =>
    rintro K F ⟨F1, ⟨F2, h1, h2, h3⟩, h4, h5⟩
    refine ⟨F2, h1, fun b hb => h4 b (h2 b hb), ih ⟨fun b => F1 b ∧ ¬ F2 b, h3, fun b hb => ⟨h4 b hb.1, hb.2⟩, h5.mono fun b hb => ⟨⟨hb.1, fun h => hb.2 (h2 b h)⟩, fun h => hb.2 h.1⟩⟩⟩
theorem SepIn.group {g : VH} : ∀ {A K : List HP} {F : Nat → Prop}, SepIn g (A ++ K) F → SepIn g (groupHP A :: K) F := by
  intro A
  induction A with
  | nil => intro K F h; exact ⟨fun _ => False, trivial, fun b hb => hb.elim, h.mono fun b hb => ⟨hb, fun h => h⟩⟩
  | cons B A ih =>
    rintro K F ⟨F2, h1, h2, h3⟩
    obtain ⟨F3, h4, h5, h6⟩ := ih h3
    refine ⟨fun b => F2 b ∨ F3 b, ⟨F2, h1, fun b hb => .inl hb, SepIn.mono h4 fun b hb => ⟨.inr hb, (h5 b hb).2⟩⟩, fun b hb => hb.elim (h2 b) (fun h => (h5 b h).1), h6.mono fun b hb => ⟨hb.1.1, fun h => h.elim hb.1.2 hb.2⟩⟩
theorem SepIn.perm {g : VH} {A B : List HP} (h : A.Perm B) : ∀ {F : Nat → Prop}, SepIn g A F → SepIn g B F := by
  induction h with
  | nil => exact fun h => h
  | cons x _ ih => exact fun h => SepIn.cons_sub (fun _ => ih) h
  | swap x y l => exact fun h => SepIn.swap h
  | trans _ _ ih1 ih2 => exact fun h => ih2 (ih1 h)
theorem Sat.perm {w0 w : World} {M : Nat → Prop} {σ : PH} {A B : List HP} (h : Sat w0 M σ A w) (hp : A.Perm B) : Sat w0 M σ B w := h.weak fun _ => SepIn.perm hp
theorem ownsL_congr {O : List (Nat × Obj)} {us us' : Us} (h : ∀ p ∈ O, us p.1 = us' p.1) : ownsL O us = ownsL O us' := by
  unfold ownsL
  exact List.map_congr_left fun p hp => by rw [h p hp]
theorem stAt_Kf_congr {l : List (Oper × Info)} {s0 : Stg} (hs : ∀ us us', s0.Kf us = s0.Kf us') : ∀ i, i ≤ l.length → ∀ us us', (∀ x ∈ (stAt l s0 i).E, us x = us' x) → (stAt l s0 i).Kf us = (stAt l s0 i).Kf us' := by
  intro i
  induction i with
  | zero => intro _ us us' _; cases l <;> exact hs us us'
  | succ i ih =>
    intro hi us us' h
    obtain ⟨o, inf⟩ : ∃ p : Oper × Info, True := ⟨l[i], trivial⟩
    have hp : l[i]? = some (l[i].1, l[i].2) := by simp [List.getElem?_eq_getElem (show i < l.length by omega)]
    rw [stAt_succ l s0 i _ _ hp] at h ⊢
    generalize l[i].1 = o at h ⊢
    generalize l[i].2 = inf at h ⊢
    have key : ∀ E : List Nat, (∀ x ∈ E, us x = us' x) → resE E us = resE E us' := by
      intro E hE
      funext x
      by_cases hx : x ∈ E
      · rw [resE_mem hx, resE_mem hx, hE x hx]
      · simp [resE, hx]
    cases inf <;> simp only [Stg.next] at h ⊢
    case eff T Kf => rw [key _ h]
    case st Kf => rw [key _ h]
    all_goals exact ih (by omega) us us' h
theorem stAt_Kf_same {l : List (Oper × Info)} {s0 : Stg} (j : Nat) : ∀ m, j + m ≤ l.length → (∀ i o inf, j ≤ i → i < j + m → l[i]? = some (o, inf) → inf.isMut = false) → (stAt l s0 (j + m)).Kf = (stAt l s0 j).Kf ∧ (stAt l s0 (j + m)).E = (stAt l s0 j).E := by
  intro m
  induction m with
  | zero => intro _ _; exact ⟨rfl, rfl⟩
  | succ m ih =>
    intro hl h
    have hp : l[j + m]? = some (l[j + m].1, l[j + m].2) := by simp [List.getElem?_eq_getElem (show j + m < l.length by omega)]
    have hm := h (j + m) _ _ (by omega) (by omega) hp
    obtain ⟨h1, h2⟩ := ih (by omega) fun i o inf a b c => h i o inf a (by omega) c
    rw [← Nat.add_assoc, stAt_succ l s0 (j + m) _ _ hp]
    generalize l[j + m].2 = inf at hm ⊢
    cases inf <;> simp [Info.isMut, Info.tag, Tag.isMut] at hm <;> simp only [Stg.next] <;> exact ⟨h1, h2⟩

section
variable {l : List (Oper × Info)} {s0 : Stg}
def Info.hs : Info → Bool
  | .gr _ | .own _ | .eff .. => true
  | _ => false
def Info.val? : Info → Option Value
  | .free v | .ex v | .exc v => some v
  | _ => none
theorem at_some {i : Nat} (h : i < l.length) : ∃ o inf, l[i]? = some (o, inf) := ⟨l[i].1, l[i].2, by simp [List.getElem?_eq_getElem h]⟩
theorem slots_iff (h0 : s0.H = []) : ∀ i, i ≤ l.length → ∀ x, x ∈ (stAt l s0 i).slots ↔ ∃ k o inf, k < i ∧ l[k]? = some (o, inf) ∧ inf.hs = true ∧ dstOf o = x := by
  intro i
  induction i with
  | zero => intro _ x; have : stAt l s0 0 = s0 := by cases l <;> rfl
            rw [this]; simp [Stg.slots, h0]
  | succ i ih =>
    intro hi x
    obtain ⟨o, inf, hp⟩ := at_some (l := l) (show i < l.length by omega)
    rw [stAt_succ l s0 i _ _ hp]
    have base := ih (by omega) x
    have split : (∃ k o' inf', k < i + 1 ∧ l[k]? = some (o', inf') ∧ inf'.hs = true ∧ dstOf o' = x) ↔ (inf.hs = true ∧ dstOf o = x) ∨ ∃ k o' inf', k < i ∧ l[k]? = some (o', inf') ∧ inf'.hs = true ∧ dstOf o' = x := by
      constructor
      · rintro ⟨k, o', inf', h1, h2, h3, h4⟩
        by_cases hk : k = i
        · subst hk; rw [hp] at h2; simp at h2; obtain ⟨rfl, rfl⟩ := h2; exact .inl ⟨h3, h4⟩
        · exact .inr ⟨k, o', inf', by omega, h2, h3, h4⟩
      · rintro (⟨h1, h2⟩ | ⟨k, o', inf', h1, h2, h3, h4⟩)
        · exact ⟨i, o, inf, by omega, hp, h1, h2⟩
        · exact ⟨k, o', inf', by omega, h2, h3, h4⟩
    rw [split, ← base]
    cases inf <;> simp [Stg.next, Stg.slots, Info.hs, eq_comm]
theorem fr_no (i : Nat) : i ≤ l.length → ∀ x, (∀ k o inf v, k < i → l[k]? = some (o, inf) → inf.val? = some v → dstOf o ≠ x) → (stAt l s0 i).fr x = s0.fr x := by
  induction i with
  | zero => intro _ x _; have : stAt l s0 0 = s0 := by cases l <;> rfl
            rw [this]
  | succ i ih =>
    intro hi x h
    obtain ⟨o, inf, hp⟩ := at_some (l := l) (show i < l.length by omega)
    have base := ih (by omega) x fun k o inf v a b c => h k o inf v (by omega) b c
    rw [stAt_succ l s0 i _ _ hp, ← base]
    cases inf <;> simp only [Stg.next]
    case free v => exact upd_ne (Ne.symm (h i o _ v (by omega) hp rfl))
    case ex v => exact upd_ne (Ne.symm (h i o _ v (by omega) hp rfl))
    case exc v => exact upd_ne (Ne.symm (h i o _ v (by omega) hp rfl))
theorem fr_yes (i : Nat) : i ≤ l.length → ∀ k o inf v, k < i → l[k]? = some (o, inf) → inf.val? = some v → (∀ k' o' inf', k < k' → l[k']? = some (o', inf') → dstOf o' ≠ dstOf o ∨ o'.dst = none ∧ inf'.val? = none) → (stAt l s0 i).fr (dstOf o) = v := by
  induction i with
  | zero => intro _ k o inf v hk; omega
  | succ i ih =>
    intro hi k o inf v hk hkp hv hd
    obtain ⟨oi, infi, hp⟩ := at_some (l := l) (show i < l.length by omega)
    rw [stAt_succ l s0 i _ _ hp]
    by_cases e : k = i
    · subst e
      rw [hp] at hkp; simp at hkp; obtain ⟨rfl, rfl⟩ := hkp
      cases infi <;> simp [Info.val?] at hv <;> subst hv <;> simp only [Stg.next] <;> exact upd_eq _ _ _
    · have base := ih (by omega) k o inf v (by omega) hkp hv hd
      rw [← base]
      have hne := hd i oi infi (by omega) hp
      cases infi <;> simp only [Stg.next]
      all_goals
        rcases hne with hne | ⟨_, hne⟩
        · exact upd_ne (Ne.symm hne)
        · simp [Info.val?] at hne
theorem sg_iff (h0 : s0.sg = false) : ∀ i, i ≤ l.length → ((stAt l s0 i).sg = false ↔ ∀ k o inf, k < i → l[k]? = some (o, inf) → inf.isSt = false) := by
  intro i
  induction i with
  | zero => intro _; have : stAt l s0 0 = s0 := by cases l <;> rfl
            rw [this, h0]; simp
  | succ i ih =>
    intro hi
    obtain ⟨o, inf, hp⟩ := at_some (l := l) (show i < l.length by omega)
    rw [stAt_succ l s0 i _ _ hp]
    have base := ih (by omega)
    have split : (∀ k o' inf', k < i + 1 → l[k]? = some (o', inf') → inf'.isSt = false) ↔ inf.isSt = false ∧ ∀ k o' inf', k < i → l[k]? = some (o', inf') → inf'.isSt = false := by
      constructor
      · intro h; exact ⟨h i o inf (by omega) hp, fun k o' inf' a b => h k o' inf' (by omega) b⟩
      · rintro ⟨h1, h2⟩ k o' inf' a b
        by_cases hk : k = i
        · subst hk; rw [hp] at b; simp at b; obtain ⟨_, rfl⟩ := b; exact h1
        · exact h2 k o' inf' (by omega) b
    rw [split, ← base]
    cases inf <;> simp [Stg.next, Info.isSt, Info.tag, Tag.isSt]
theorem own_iff (h0 : s0.O = []) (h1 : s0.sg = false) : ∀ i, i ≤ l.length → ((stAt l s0 i).sg = true → (∀ k o inf, k < l.length → l[k]? = some (o, inf) → inf matches .own _ → (stAt l s0 k).sg = false) → (stAt l s0 i).O = []) ∧
    ((stAt l s0 i).sg = false → ∀ p, p ∈ (stAt l s0 i).O ↔ ∃ k o obj, k < i ∧ l[k]? = some (o, .own obj) ∧ p = (dstOf o, obj)) := by
  intro i
  induction i with
  | zero =>
    intro _
    have : stAt l s0 0 = s0 := by cases l <;> rfl
    rw [this, h1, h0]; simp
  | succ i ih =>
    intro hi
    obtain ⟨o, inf, hp⟩ := at_some (l := l) (show i < l.length by omega)
    obtain ⟨ih1, ih2⟩ := ih (by omega)
    rw [stAt_succ l s0 i _ _ hp]
    have split : ∀ p : Nat × Obj, (∃ k o' obj, k < i + 1 ∧ l[k]? = some (o', .own obj) ∧ p = (dstOf o', obj)) ↔ (∃ obj, inf = .own obj ∧ p = (dstOf o, obj)) ∨ ∃ k o' obj, k < i ∧ l[k]? = some (o', .own obj) ∧ p = (dstOf o', obj) := by
      intro p
      constructor
      · rintro ⟨k, o', obj, a, b, c⟩
        by_cases hk : k = i
        · subst hk; rw [hp] at b; simp at b; obtain ⟨rfl, rfl⟩ := b; exact .inl ⟨obj, rfl, c⟩
        · exact .inr ⟨k, o', obj, by omega, b, c⟩
      · rintro (⟨obj, a, c⟩ | ⟨k, o', obj, a, b, c⟩)
        · subst a; exact ⟨i, o, obj, by omega, hp, c⟩
        · exact ⟨k, o', obj, by omega, b, c⟩
    refine ⟨fun hs hown => ?_, fun hs p => ?_⟩
    · cases inf <;> simp only [Stg.next] at hs ⊢
      case own obj => have := hown i o _ (by omega) hp rfl; rw [this] at hs; cases hs
      all_goals exact ih1 hs hown
    · rw [split p]
      cases inf <;> simp only [Stg.next] at hs ⊢
      case own obj => simp [ih2 hs p]
      case st Kf => cases hs
      all_goals simp [ih2 hs p]
theorem Ob_at {P : Program} {f : FuncId} {R : Ending → World → Prop} {k : List Item} {n : Nat} {w0 : World} {M : Nat → Prop} {σ : PH} {Kb : List HP} : ∀ (l : List (Oper × Info)) (s0 : Stg), LDp P f R k n w0 M σ Kb l s0 →
    (∀ i o inf, l[i]? = some (o, inf) → Ob P n w0 M σ Kb (stAt l s0 i) o inf) ∧ LDp P f R k n w0 M σ Kb [] (stAt l s0 l.length) := by
  intro l
  induction l with
  | nil => intro s0 h; exact ⟨fun i o inf hi => by simp at hi, h⟩
  | cons p l ih =>
    obtain ⟨o, inf⟩ := p
    rintro s0 ⟨h1, h2⟩
    obtain ⟨h3, h4⟩ := ih _ h2
    refine ⟨fun i o' inf' hi => ?_, h4⟩
    cases i with
    | zero => simp at hi; obtain ⟨rfl, rfl⟩ := hi; exact h1
    | succ i => simp at hi; exact h3 i o' inf' hi
end
end Go.JW
