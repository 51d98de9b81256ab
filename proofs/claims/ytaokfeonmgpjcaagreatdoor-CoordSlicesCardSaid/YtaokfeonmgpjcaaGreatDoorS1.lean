/- The base of the walks: rules, contracts, plain laws, part 1. -/
import Derived.WalkKit
import Derived.Deep.Quiet
import Derived.Deep.AppendSrc
import Derived.Laws.Slices
import Derived.Laws.BytesString
import Derived.KernelRfl
import Derived.Laws.StructEq
import Derived.Laws.MakeOwn
import Derived.Shelf.Strings.Builder1
import Derived.Shelf.Strings.Builder2
import Derived.Shelf.Strings.OnBuilder
import Derived.Shelf.Small.Bits
import Derived.Shelf.Small.Wraps
import Derived.Shelf.Strings.BuilderF
import Derived.Shelf.Strings.BuilderK
import Derived.Shelf.Strings.Builder2Cap
import Derived.Shelf.Strconv.Itoa0
import Derived.Shelf.Strconv.Itoa1
import Derived.Shelf.LaysM
import Derived.Shelf.Strconv.Itoa2
import Derived.Shelf.Strconv.Itoa3
import Derived.Shelf.Strings.Search1
import Derived.Shelf.Strings.Search2
import Derived.Shelf.Strings.Search3
import Derived.Shelf.Strings.Count
import Derived.Shelf.Strings.Shaped
import Derived.Shelf.Sort.Plain
import Derived.Shelf.Strings.Prefix
import Derived.Shelf.Strings.Split
import Derived.Shelf.Strings.Fields
import Derived.Shelf.Strings.SplitShaped
import Derived.Shelf.Unicode.Latin
import Derived.Shelf.Unicode.DecodeSlow
import Derived.Shelf.Unicode.DecodeAny
import Derived.Shelf.Unicode.Is16White
import Derived.Shelf.Unicode.IsSpaceAny
import Derived.Shelf.Unicode.Is16Any
import Derived.Shelf.Unicode.Is32Any
import Derived.Shelf.Unicode.ExclAny
import Derived.Shelf.Strings.BuilderCap
import Derived.Shelf.Slices.Turned
import Derived.Ground.Names2Prog
import Derived.Shelf.Slices.Clone
import Derived.Shelf.Slices.CompactI
import Derived.Shelf.Slices.CompactS
import Derived.Shelf.Slices.SearchI
import Derived.Shelf.Slices.Cells
import Derived.Shelf.Slices.In.SortNone
import Derived.Ground.SlgnProg
import Derived.Shelf.SlicesE.Clone
import Derived.Test.YtaokfeonmgpjcaaGreatDoorProg
import Derived.Laws.IdiomRangeMap
import Derived.Lib.SplitLaws
import Derived.Lib.ItoaNum
import Derived.Lib.Join
import Derived.Lib.Fields
import Derived.Lib.LaidTab
import Derived.Laws.Cover3
import Derived.ChangeKeysEq
import Derived.Laws.Small
import Derived.Lib.MapLaws
import Derived.Laws.Cover4
import Derived.Laws.IdiomStrings
import Derived.Shelf.SlGeneric
import Derived.Shelf.SlIterI.Nil
import Derived.Ground.GgzProg
import Derived.Test.YtaokfeonmgpjcaaGreatDoorRows
import Derived.LaidSub
import Derived.Shelf.Vars
import Derived.Deep.DeepHandedRow
import Derived.Lay
import Derived.ChangeArms
import Derived.SizedLaws
namespace Go.JW

def act (n : Nat) (fr : Nat → Value) : Act := ⟨Array.ofFn (n := n) fun i => fr i.val, []⟩
def upd (fr : Nat → Value) (d : Nat) (v : Value) : Nat → Value := fun k => bif Nat.beq k d then v else fr k
def ev (n : Nat) (fr : Nat → Value) : Operand → Value
  | .tmp t => bif Nat.blt t n then fr t else undef
  | .const v => v
  | .global g => .pointer (some ⟨g, 0, none⟩)
  | .func f => .func (.func f) #[] #[]
theorem act_eval (n : Nat) (fr : Nat → Value) : (act n fr).eval = ev n fr := by
  funext x
  cases x with
  | tmp t =>
    simp only [Act.eval, act, ev, Array.getD_eq_getD_getElem?, Array.getElem?_ofFn]
    by_cases h : t < n
    · have : Nat.blt t n = true := by simpa [Nat.blt_eq] using h
      simp [h, this]
    · have : Nat.blt t n = false := by rw [Bool.eq_false_iff]; simpa [Nat.blt_eq] using h
      simp [h, this]
  | _ => rfl
theorem act_put (n : Nat) (fr : Nat → Value) (d : Nat) (v : Value) : (act n fr).put (some d) v = act n (upd fr d v) := by
  simp only [Act.put, act]
  congr 1
  apply Array.ext
  · simp
  · intro i h1 h2
    simp only [Array.getElem_ofFn, upd]
    by_cases h : d = i
    · subst h; simp
    · have : Nat.beq i d = false := by
        rw [Bool.eq_false_iff]; intro hb; exact h (Nat.eq_of_beq_eq_true hb).symm
      rw [Array.getElem_setIfInBounds_ne (by simpa using h1) h]
      simp [this]
theorem act_put_none (n : Nat) (fr : Nat → Value) (v : Value) : (act n fr).put none v = act n fr := rfl
def frameOf (l : List Value) : Nat → Value := fun k => l.getD k undef
theorem act_enter (args : Array Value) (n : Nat) (h : args.size ≤ n) :
    ({ tmps := args ++ Array.replicate (n - args.size) undef, defers := [] } : Act) = act n (frameOf args.toList) := by
  simp only [act, frameOf]
  congr 1
  apply Array.ext
  · simp; omega
  · intro i h1 h2
    simp only [Array.getElem_ofFn, List.getD_eq_getElem?_getD]
    by_cases hi : i < args.size
    · simp [hi]
    · rw [Array.getElem_append_right (by omega)]; simp [hi]

def base (f : FuncId) : Frame := { (default : Frame) with fn := f, kind := .normal }
def Run (P : Program) (f : FuncId) (R : Ending → World → Prop) (k : List Item) (a : Act) (w : World) : Prop :=
  ∀ cs, ∃ e w' fr, R e w' ∧ Comes P (lone ((base f).at a k) cs w) (lone fr cs w') e ∧ fr.fn = f ∧ fr.leaving P w' e
section
variable {P : Program} {f : FuncId} {R : Ending → World → Prop} {k : List Item} {a : Act} {w : World}
theorem Run.calls {fn : Func} {c : Code} {args : Array Value} (hf : P.funcs[f]? = some fn) (hb : fn.body = some c)
    (h : Run P f R [.code c] { tmps := args ++ Array.replicate (fn.ntmps - args.size) undef, defers := [] } w) : Calls P f args w R := by
  intro cs
  have henter : Frame.enter P f args .normal =
      (base f).at { tmps := args ++ Array.replicate (fn.ntmps - args.size) undef, defers := [] } [.code c] := by
    simp [Frame.enter, Frame.at, hf, hb, base]
  rw [henter]
  exact h cs
theorem Run.step {k' : List Item} {a' : Act} {w' : World} (hs : ∀ cs, step P (lone ((base f).at a k) cs w) = .next (lone ((base f).at a' k') cs w'))
    (h : Run P f R k' a' w') : Run P f R k a w := by
  intro cs
  obtain ⟨e, w2, fr, hR, hc, hn, hl⟩ := h cs
  exact ⟨e, w2, fr, hR, hc.of_steps (.one (hs cs)), hn, hl⟩
theorem Run.seq {x y : Code} (h : Run P f R (.code x :: .code y :: k) a w) : Run P f R (.code (.seq x y) :: k) a w := Run.step (fun _ => step_seq) h
theorem Run.skip (h : Run P f R k a w) : Run P f R (.code .skip :: k) a w := Run.step (fun _ => step_skip) h
theorem Run.block {id : Nat} {c : Code} (h : Run P f R (.code c :: .inBlock id :: k) a w) : Run P f R (.code (.block id c) :: k) a w := Run.step (fun _ => step_block) h
theorem Run.inBlock {id : Nat} (h : Run P f R k a w) : Run P f R (.inBlock id :: k) a w := Run.step (fun _ => step_inBlock) h
theorem Run.exit {id : Nat} {k' : List Item} (he : exitTo id k = some k') (h : Run P f R k' a w) : Run P f R (.code (.exit id) :: k) a w := Run.step (fun _ => step_exit he) h
theorem Run.cond {c : Operand} {x y : Code} {t : Bool} (hc : a.eval c = .bool t) (ht : t = true → Run P f R (.code x :: k) a w) (hf : t = false → Run P f R (.code y :: k) a w) :
    Run P f R (.code (.cond c x y) :: k) a w := by
  cases t
  · exact Run.step (fun _ => step_cond hc) (hf rfl)
  · exact Run.step (fun _ => step_cond hc) (ht rfl)
theorem Run.loop {c : Code} (I : Act → World → Prop) (μ : Act → World → Nat) (h0 : I a w)
    (round : ∀ a w, I a w → (∀ a' w', I a' w' → μ a' w' < μ a w → Run P f R (.inLoop c :: k) a' w') → Run P f R (.code c :: .inLoop c :: k) a w) :
    Run P f R (.code (.loop c) :: k) a w := by
  have key : ∀ n a w, μ a w = n → I a w → Run P f R (.code c :: .inLoop c :: k) a w := by
    intro n
    induction n using Nat.strongRecOn with
    | _ n ih =>
      intro a w hn hI
      refine round a w hI fun a' w' hI' hlt => ?_
      exact Run.step (fun _ => step_inLoop) (ih _ (hn ▸ hlt) a' w' rfl hI')
  exact Run.step (fun _ => step_loop) (key _ a w rfl h0)
theorem Run.ret {fn : Func} {v : Value} (hf : P.funcs[f]? = some fn) (hr : (results fn a.tmps).run P w = .ok v w) (hd : a.defers = []) (hR : R (.returned v) w) :
    Run P f R (.code .ret :: k) a w := by
  intro cs
  exact ⟨.returned v, w, _, hR, Steps.one step_ret, rfl, rfl, hd, rfl, fn, hf, hr⟩
theorem Run.fin {fn : Func} {v : Value} (hf : P.funcs[f]? = some fn) (hr : (results fn a.tmps).run P w = .ok v w) (hd : a.defers = []) (hR : R (.returned v) w) :
    Run P f R [] a w := by
  intro cs
  exact ⟨.returned v, w, _, hR, Steps.one step_end, rfl, rfl, hd, rfl, fn, hf, hr⟩
def QN (K : Act → World → Prop) : Exit → Act → World → Prop
  | .normal, a, w => K a w
  | _, _, _ => False
theorem Run.wp {c : Code} (h : c.wp P (QN (Run P f R k)) a w) : Run P f R (.code c :: k) a w := by
  intro cs
  obtain ⟨e, a', w', hq, harr⟩ := h (base f) k cs
  cases e with
  | normal =>
    obtain ⟨e, w2, fr, hR, hc, hn, hl⟩ := hq cs
    exact ⟨e, w2, fr, hR, hc.of_steps harr, hn, hl⟩
  | _ => exact hq.elim
end
end Go.JW
namespace Go.JW

abbrev PH := Nat → Option Obj
def hp (w : World) : PH := fun b => w.heap[b]?
def PH.le (g g' : PH) : Prop := ∀ b o, g b = some o → g' b = some o
theorem PH.le_refl (g : PH) : PH.le g g := fun _ _ h => h
theorem PH.le_trans {a b c : PH} (h : PH.le a b) (k : PH.le b c) : PH.le a c := fun x o hx => k x o (h x o hx)
structure VH where
  imm : PH
  cur : PH
structure HP where
  h : VH → (Nat → Prop) → Prop
  loc : ∀ {g g' : VH} {F : Nat → Prop}, h g F → (∀ b, F b → g'.cur b = g.cur b) → PH.le g.imm g'.imm → h g' F
def blk (b : Nat) (o : Obj) : HP := ⟨fun g F => F b ∧ g.cur b = some o, fun h hg _ => ⟨h.1, by rw [hg _ h.1]; exact h.2⟩⟩
def SepIn (g : VH) : List HP → (Nat → Prop) → Prop
  | [], _ => True
  | A :: K, F => ∃ F1 : Nat → Prop, A.h g F1 ∧ (∀ b, F1 b → F b) ∧ SepIn g K (fun b => F b ∧ ¬ F1 b)
theorem SepIn.mono {g : VH} {K : List HP} : ∀ {F F' : Nat → Prop}, SepIn g K F → (∀ b, F b → F' b) → SepIn g K F' := by
  induction K with
  | nil => intros; trivial
  | cons A K ih =>
    rintro F F' ⟨F1, h1, h2, h3⟩ hF
    exact ⟨F1, h1, fun b hb => hF b (h2 b hb), ih h3 fun b hb => ⟨hF b hb.1, hb.2⟩⟩
theorem SepIn.loc {g g' : VH} {K : List HP} : ∀ {F : Nat → Prop}, SepIn g K F → (∀ b, F b → g'.cur b = g.cur b) → PH.le g.imm g'.imm → SepIn g' K F := by
  induction K with
  | nil => intros; trivial
  | cons A K ih =>
    rintro F ⟨F1, h1, h2, h3⟩ hF hi
    exact ⟨F1, A.loc h1 (fun b hb => hF b (h2 b hb)) hi, h2, ih h3 (fun b hb => hF b hb.1) hi⟩
theorem SepIn.here {σ g g' : PH} {K : List HP} {F : Nat → Prop} (h : SepIn ⟨σ, g⟩ K F) (hg : ∀ b, F b → g' b = g b) : SepIn ⟨σ, g'⟩ K F := h.loc hg (PH.le_refl _)
theorem SepIn.over {σ σ' g g' : PH} {K : List HP} {F : Nat → Prop} (h : SepIn ⟨σ, g⟩ K F) (hg : ∀ b, F b → g' b = g b) (hs : PH.le σ σ') : SepIn ⟨σ', g'⟩ K F := h.loc hg hs
theorem SepIn.swap {g : VH} {A B : HP} {K : List HP} {F : Nat → Prop} (h : SepIn g (A :: B :: K) F) : SepIn g (B :: A :: K) F := by
  obtain ⟨F1, a1, a2, F2, b1, b2, r⟩ := h
  exact ⟨F2, b1, fun b hb => (b2 b hb).1, F1, a1, fun b hb => ⟨a2 b hb, fun h2 => (b2 b h2).2 hb⟩, r.mono fun b hb => ⟨⟨hb.1.1, hb.2⟩, hb.1.2⟩⟩
theorem SepIn.tail {g : VH} {A : HP} {K : List HP} {F : Nat → Prop} (h : SepIn g (A :: K) F) : SepIn g K F := by
  obtain ⟨F1, _, _, r⟩ := h
  exact r.mono fun b hb => hb.1
theorem SepIn.cons_sub {g : VH} {A : HP} {K K' : List HP} (hk : ∀ F, SepIn g K F → SepIn g K' F) {F : Nat → Prop} (h : SepIn g (A :: K) F) : SepIn g (A :: K') F := by
  obtain ⟨F1, h1, h2, r⟩ := h
  exact ⟨F1, h1, h2, hk _ r⟩
class FindB (b : Nat) (K : List HP) (o : outParam Obj) (put : outParam (HP → List HP)) (K' : outParam (List HP)) : Prop where
  get : ∀ {g : VH} {F : Nat → Prop}, SepIn g K F → SepIn g (blk b o :: K') F
  set : ∀ {A : HP} {g : VH} {F : Nat → Prop}, SepIn g (A :: K') F → SepIn g (put A) F
instance FindB.tail {b : Nat} {K : List HP} {o : Obj} {put : HP → List HP} {K' : List HP} {B : HP} [i : FindB b K o put K'] : FindB b (B :: K) o (fun A => B :: put A) (B :: K') where
  get h := SepIn.swap (SepIn.cons_sub (fun _ => i.get) h)
  set h := SepIn.cons_sub (fun _ => i.set) (SepIn.swap h)
instance FindB.head {b : Nat} {K : List HP} {o : Obj} : FindB b (blk b o :: K) o (fun A => A :: K) K where
  get h := h
  set h := h

structure Sat (w0 : World) (M : Nat → Prop) (σ : PH) (K : List HP) (w : World) : Prop where
  os : w.os = w0.os
  tape : w.tape = w0.tape
  output : w.output = w0.output
  size : w0.heap.size ≤ w.heap.size
  keep : ∀ b, b < w0.heap.size → ¬ M b → σ b = w0.heap[b]?
  imm : PH.le σ (hp w)
  sep : SepIn ⟨σ, hp w⟩ K (fun b => b < w.heap.size ∧ σ b = none)
theorem hp_lt {w : World} {b : Nat} {o : Obj} (h : hp w b = some o) : b < w.heap.size := (Array.getElem?_eq_some_iff.1 h).1
section
variable {w0 w w1 : World} {M : Nat → Prop} {σ : PH} {K K' : List HP}
theorem Sat.start (w : World) : Sat w (fun _ => False) (hp w) [] w := ⟨rfl, rfl, rfl, Nat.le_refl _, fun _ _ _ => rfl, PH.le_refl _, trivial⟩
theorem Sat.below (h : Sat w0 (fun _ => False) σ K w) : RowKit.Below w0.heap.size w0 w :=
  ⟨h.os, h.tape, h.output, h.size, fun k hk => by
    have e := h.keep k hk (fun h => h)
    have hs : w0.heap[k]? = some w0.heap[k] := Array.getElem?_eq_getElem hk
    rw [hs]
    exact h.imm k _ (e.trans hs)⟩
theorem Sat.weak (h : Sat w0 M σ K w) (hk : ∀ F, SepIn ⟨σ, hp w⟩ K F → SepIn ⟨σ, hp w⟩ K' F) : Sat w0 M σ K' w :=
  ⟨h.os, h.tape, h.output, h.size, h.keep, h.imm, hk _ h.sep⟩
theorem Sat.fresh (h : Sat w0 M σ K w) {b : Nat} (hb : w.heap.size ≤ b) : σ b = none := by
  cases e : σ b with
  | none => rfl
  | some o => have := hp_lt (h.imm b o e); omega
theorem heap_alloc_at (w : World) (o : Obj) (b : Nat) : hp (w.alloc o) b = if b = w.heap.size then some o else hp w b := by
  show (w.heap.push o)[b]? = _
  rw [Array.getElem?_push]; rfl
theorem Sat.alloc (h : Sat w0 M σ K w) (o : Obj) : Sat w0 M σ (blk w.heap.size o :: K) (w.alloc o) := by
  have hsz : (w.alloc o).heap.size = w.heap.size + 1 := by show (w.heap.push o).size = _; simp
  refine ⟨h.os, h.tape, h.output, by have := h.size; omega, h.keep, fun b x hb => ?_, fun b => b = w.heap.size, ⟨rfl, ?_⟩, ?_, ?_⟩
  · have := hp_lt (h.imm b x hb)
    rw [heap_alloc_at, if_neg (by omega)]; exact h.imm b x hb
  · show hp (w.alloc o) w.heap.size = _; rw [heap_alloc_at, if_pos rfl]
  · rintro b rfl
    exact ⟨by omega, h.fresh (Nat.le_refl _)⟩
  · refine (h.sep.here fun b hb => ?_).mono fun b hb => ⟨⟨by omega, hb.2⟩, by omega⟩
    rw [heap_alloc_at, if_neg (by omega)]
theorem Sat.ext (h : Sat w0 M σ K w) (hb : RowKit.Below w.heap.size w w1) : Sat w0 M σ K w1 := by
  refine ⟨hb.os.trans h.os, hb.tape.trans h.tape, hb.output.trans h.output, Nat.le_trans h.size hb.size, h.keep, fun b x hx => ?_, ?_⟩
  · have := h.imm b x hx
    show w1.heap[b]? = _
    rw [hb.block b (hp_lt this)]; exact this
  · refine (h.sep.here fun b hb' => ?_).mono fun b hb' => ⟨Nat.lt_of_lt_of_le hb'.1 hb.size, hb'.2⟩
    exact hb.block b hb'.1
def since (w w1 : World) : PH := fun b => if w.heap.size ≤ b then w1.heap[b]? else none
def grow (σ : PH) (w w1 : World) : PH := fun b => if w.heap.size ≤ b then w1.heap[b]? else σ b
theorem grow_le (h : Sat w0 M σ K w) : PH.le σ (grow σ w w1) := by
  intro b o hb
  have := hp_lt (h.imm b o hb)
  simp only [grow]; rw [if_neg (by omega)]; exact hb
theorem since_le (σ : PH) (w w1 : World) : PH.le (since w w1) (grow σ w w1) := by
  intro b o hb
  simp only [since, grow] at *
  split at hb
  · rename_i h; rw [if_pos h]; exact hb
  · simp at hb
theorem Sat.grow (h : Sat w0 M σ K w) (hb : RowKit.Below w.heap.size w w1) : Sat w0 M (grow σ w w1) K w1 := by
  have e := h.ext hb
  refine ⟨e.os, e.tape, e.output, e.size, fun b hb' hM => ?_, fun b x hx => ?_, ?_⟩
  · have := h.size
    simp only [JW.grow]; rw [if_neg (by omega)]; exact h.keep b hb' hM
  · simp only [JW.grow] at hx
    split at hx
    · exact hx
    · exact e.imm b x hx
  · refine (h.sep.over (fun b hb' => hb.block b hb'.1) (grow_le h)).mono fun b hb' => ⟨Nat.lt_of_lt_of_le hb'.1 hb.size, ?_⟩
    simp only [JW.grow]; rw [if_neg (by omega)]; exact hb'.2
theorem Sat.get (h : Sat w0 M σ K w) {b : Nat} {o : Obj} {put : HP → List HP} [i : FindB b K o put K'] : w.heap[b]? = some o := by
  obtain ⟨F1, h1, h2, _⟩ := i.get h.sep
  exact h1.2
theorem hp_set (w : World) (b : Nat) (o : Obj) (hb : b < w.heap.size) : hp { w with heap := w.heap.setIfInBounds b o } = fun x => if x = b then some o else hp w x := by
  funext x
  simp only [hp, Array.getElem?_setIfInBounds]
  by_cases h : b = x
  · subst h; simp [hb]
  · simp [h, Ne.symm h]
theorem Sat.put (h : Sat w0 M σ K w) {b : Nat} {o : Obj} {put : HP → List HP} [i : FindB b K o put K'] (o' : Obj) :
    Sat w0 M σ (put (blk b o')) { w with heap := w.heap.setIfInBounds b o' } := by
  obtain ⟨F1, h1, h2, h3⟩ := i.get h.sep
  have hb : b < w.heap.size := (h2 b h1.1).1
  have hs : ({ w with heap := w.heap.setIfInBounds b o' } : World).heap.size = w.heap.size := by simp
  refine ⟨h.os, h.tape, h.output, by rw [hs]; exact h.size, h.keep, fun x y hx => ?_, i.set ⟨F1, ⟨h1.1, ?_⟩, ?_, ?_⟩⟩
  · rw [hp_set w b o' hb]
    have hne : x ≠ b := fun e => by subst e; have := (h2 x h1.1).2; rw [this] at hx; exact absurd hx (by simp)
    simp only [if_neg hne]; exact h.imm x y hx
  · rw [hp_set w b o' hb]; simp
  · rw [hs]; exact h2
  · rw [hs]
    refine h3.here fun x hx => ?_
    have hne : x ≠ b := fun e => hx.2 (e ▸ h1.1)
    rw [hp_set w b o' hb]; simp [hne]
theorem Sat.drew (h : Sat w0 M σ K w) : Sat w0 M σ K w.drew := ⟨h.os, h.tape, h.output, h.size, h.keep, h.imm, h.sep⟩
end

structure RS (P : Program) (f : FuncId) (R : Ending → World → Prop) (k : List Item) (n : Nat) (fr : Nat → Value) (w0 : World) (M : Nat → Prop) (σ : PH) (K : List HP) : Prop where
  out : ∀ w, Sat w0 M σ K w → Run P f R k (act n fr) w
structure LS (P : Program) (q : Bool) (ops : Array Oper) (f : FuncId) (R : Ending → World → Prop) (k : List Item) (l : List Oper) (n : Nat) (fr : Nat → Value) (w0 : World) (M : Nat → Prop) (σ : PH) (K : List HP) : Prop where
  out : match q with
    | false => ∀ w, Sat w0 M σ K w → wpList P ops (QN (Run P f R k)) l (act n fr) w
    | true => wpQuiet P ops (Sat w0 M σ K) (fun a' => ∀ w', Sat w0 M σ K w' → Run P f R k a' w') l (act n fr)
section
variable {P : Program} {q : Bool} {ops : Array Oper} {f : FuncId} {R : Ending → World → Prop} {k : List Item} {n : Nat} {fr : Nat → Value} {w0 : World} {M : Nat → Prop} {σ : PH} {K : List HP}
theorem RS.enter {fn : Func} {c : Code} {l : List Value} {w : World} (hf : P.funcs[f]? = some fn) (hn : fn.ntmps = n) (hb : fn.body = some c) (hs : Nat.ble l.length n = true)
    (h : RS P f R [.code c] n (frameOf l) w (fun _ => False) (hp w) []) : Calls P f l.toArray w R := by
  refine Run.calls hf hb ?_
  rw [hn, act_enter _ _ (by simpa using hs)]
  exact h.out w (Sat.start w)
theorem RS.seq {x y : Code} (h : RS P f R (.code x :: .code y :: k) n fr w0 M σ K) : RS P f R (.code (.seq x y) :: k) n fr w0 M σ K := ⟨fun w hw => Run.seq (h.out w hw)⟩
theorem RS.skip (h : RS P f R k n fr w0 M σ K) : RS P f R (.code .skip :: k) n fr w0 M σ K := ⟨fun w hw => Run.skip (h.out w hw)⟩
theorem RS.block {id : Nat} {c : Code} (h : RS P f R (.code c :: .inBlock id :: k) n fr w0 M σ K) : RS P f R (.code (.block id c) :: k) n fr w0 M σ K := ⟨fun w hw => Run.block (h.out w hw)⟩
theorem RS.inBlock {id : Nat} (h : RS P f R k n fr w0 M σ K) : RS P f R (.inBlock id :: k) n fr w0 M σ K := ⟨fun w hw => Run.inBlock (h.out w hw)⟩
theorem RS.exit {id : Nat} {k' : List Item} (h : RS P f R k' n fr w0 M σ K) (he : exitTo id k = some k' := by rfl) : RS P f R (.code (.exit id) :: k) n fr w0 M σ K := ⟨fun w hw => Run.exit he (h.out w hw)⟩
theorem RS.cond {c : Operand} {x y : Code} {t : Bool} (ht : t = true → RS P f R (.code x :: k) n fr w0 M σ K) (hf : t = false → RS P f R (.code y :: k) n fr w0 M σ K) (hc : ev n fr c = .bool t := by rfl) :
    RS P f R (.code (.cond c x y) :: k) n fr w0 M σ K :=
  ⟨fun w hw => Run.cond (t := t) (by rw [act_eval]; exact hc) (fun h => (ht h).out w hw) (fun h => (hf h).out w hw)⟩
theorem RS.condT {c : Operand} {x y : Code} {t : Bool} (hx : RS P f R (.code x :: k) n fr w0 M σ K) (hc : ev n fr c = .bool t := by rfl) (h : t = true := by rfl) :
    RS P f R (.code (.cond c x y) :: k) n fr w0 M σ K := RS.cond (fun _ => hx) (fun h' => by rw [h] at h'; cases h') hc
theorem RS.condF {c : Operand} {x y : Code} {t : Bool} (hx : RS P f R (.code y :: k) n fr w0 M σ K) (hc : ev n fr c = .bool t := by rfl) (h : t = false := by rfl) :
    RS P f R (.code (.cond c x y) :: k) n fr w0 M σ K := RS.cond (fun h' => by rw [h] at h'; cases h') (fun _ => hx) hc
theorem RS.loop {X : Type} (I : X → Prop) (fx : X → Nat → Value) (σx : X → PH) (Kx : X → List HP) (μ : X → Nat) {c : Code} (x0 : X) (h0 : I x0) (hfr : fr = fx x0) (hσ : σ = σx x0) (hK : K = Kx x0)
    (round : ∀ x, I x → (∀ y, I y → μ y < μ x → RS P f R (.inLoop c :: k) n (fx y) w0 M (σx y) (Kx y)) → RS P f R (.code c :: .inLoop c :: k) n (fx x) w0 M (σx x) (Kx x)) :
    RS P f R (.code (.loop c) :: k) n fr w0 M σ K := by
  subst hfr hσ hK
  have key : ∀ m x, μ x = m → I x → RS P f R (.code c :: .inLoop c :: k) n (fx x) w0 M (σx x) (Kx x) := by
    intro m
    induction m using Nat.strongRecOn with
    | _ m ih =>
      intro x hm hI
      exact round x hI fun y hy hlt => ⟨fun w hw => Run.step (fun _ => step_inLoop) ((ih _ (hm ▸ hlt) y rfl hy).out w hw)⟩
  exact ⟨fun w hw => Run.step (fun _ => step_loop) ((key _ x0 rfl h0).out w hw)⟩
theorem RS.region {id : Nat} {l : List Oper} (h : LS P false l.toArray f R k l n fr w0 M σ K) : RS P f R (.code (.region id l.toArray false) :: k) n fr w0 M σ K :=
  ⟨fun w hw => Run.wp (wp_region_lit (h.out w hw))⟩
theorem RS.regionQ {id : Nat} {l : List Oper} (h : LS P true l.toArray f R k l n fr w0 M σ K) (hm : P.follows .mixedOrders = true) (hB : Region.lexB .any l.toArray = true) : RS P f R (.code (.region id l.toArray true) :: k) n fr w0 M σ K := by
  refine ⟨fun w hw => Run.wp (wp_region_quiet (C := Sat w0 M σ K) hm hB hw.drew ?_)⟩
  exact h.out
theorem LS.done (h : RS P f R k n fr w0 M σ K) : LS P q ops f R k [] n fr w0 M σ K := by
  cases q
  · exact ⟨fun w hw => wpList_nil (Q := QN (Run P f R k)) (h.out w hw)⟩
  · exact ⟨h.out⟩
theorem LS.val {o : Oper} {rest : List Oper} {d : Nat} {v : Value} (hg : o.guard = none) (hd : o.dst = some d)
    (ho : ∀ w, Sat w0 M σ K w → (execOp (ev n fr) o).run P w = .ok (.value v) w) (h : LS P q ops f R k rest n (upd fr d v) w0 M σ K) : LS P q ops f R k (o :: rest) n fr w0 M σ K := by
  cases q
  · refine ⟨fun w hw => ?_⟩
    refine wpList_plain hg fun K' hK' => ?_
    unfold Oper.wp
    rw [act_eval, ho w hw, Oper.upon_value, hd, act_put]
    exact hK' _ _ (h.out w hw)
  · refine ⟨wpQuiet_step fun K' hK' => ?_⟩
    simp only [Region.wanted, hg, if_true]
    refine ⟨v, fun w hw => ?_, hK' _ ?_⟩
    · unfold Oper.quietAt; rw [act_eval, ho w hw]; exact ⟨rfl, rfl⟩
    · rw [hd, act_put]; exact h.out
theorem LS.valW {o : Oper} {rest : List Oper} {d : Nat} (hg : o.guard = none) (hd : o.dst = some d)
    (ho : ∀ w, Sat w0 M σ K w → ∃ v w' σ' K', (execOp (ev n fr) o).run P w = .ok (.value v) w' ∧ Sat w0 M σ' K' w' ∧ LS P false ops f R k rest n (upd fr d v) w0 M σ' K') : LS P false ops f R k (o :: rest) n fr w0 M σ K := by
  refine ⟨fun w hw => ?_⟩
  obtain ⟨v, w', σ', K', h1, h2, h3⟩ := ho w hw
  refine wpList_plain hg fun K' hK' => ?_
  unfold Oper.wp
  rw [act_eval, h1, Oper.upon_value, hd, act_put]
  exact hK' _ _ (h3.out w' h2)
theorem LS.skipW {o : Oper} {rest : List Oper} (hg : o.guard = none) (hd : o.dst = none)
    (ho : ∀ w, Sat w0 M σ K w → ∃ w' σ' K', (execOp (ev n fr) o).run P w = .ok .skip w' ∧ Sat w0 M σ' K' w' ∧ LS P false ops f R k rest n fr w0 M σ' K') : LS P false ops f R k (o :: rest) n fr w0 M σ K := by
  refine ⟨fun w hw => ?_⟩
  obtain ⟨w', σ', K', h1, h2, h3⟩ := ho w hw
  refine wpList_plain hg fun K' hK' => ?_
  unfold Oper.wp
  rw [act_eval, h1, Oper.upon_skip, hd, act_put_none]
  exact hK' _ _ (h3.out w' h2)
theorem LS.enterW {o : Oper} {rest : List Oper} {d : Nat} {g : FuncId} {args : Array Value} (hg : o.guard = none) (hd : o.dst = some d)
    (ho : ∀ w, Sat w0 M σ K w → (execOp (ev n fr) o).run P w = .ok (.enter g args) w)
    (hc : ∀ w, Sat w0 M σ K w → Calls P g args w fun e w' => ∃ v σ' K', e = .returned v ∧ Sat w0 M σ' K' w' ∧ LS P false ops f R k rest n (upd fr d v) w0 M σ' K') : LS P false ops f R k (o :: rest) n fr w0 M σ K := by
  refine ⟨fun w hw => ?_⟩
  refine wpList_plain hg fun K' hK' => ?_
  unfold Oper.wp
  rw [act_eval, ho w hw, Oper.upon_enter]
  refine (hc w hw).mono ?_
  rintro e w' ⟨v, σ', K', rfl, h2, h3⟩
  simp only [hd, act_put]
  exact hK' _ _ (h3.out w' h2)
theorem LS.enterP {o : Oper} {rest : List Oper} {d : Nat} {g : FuncId} {args : Array Value} {v : Value} (hg : o.guard = none) (hd : o.dst = some d)
    (ho : ∀ w, Sat w0 M σ K w → (execOp (ev n fr) o).run P w = .ok (.enter g args) w)
    (hc : ∀ w, Sat w0 M σ K w → Calls P g args w fun e w' => e = .returned v ∧ Sat w0 M σ K w') (h : LS P q ops f R k rest n (upd fr d v) w0 M σ K) : LS P q ops f R k (o :: rest) n fr w0 M σ K := by
  cases q
  · exact LS.enterW hg hd ho fun w hw => (hc w hw).mono fun _ _ ⟨he, hs⟩ => ⟨v, σ, K, he, hs, h⟩
  · refine ⟨wpQuiet_step fun K' hK' => ?_⟩
    simp only [Region.wanted, hg, if_true]
    refine ⟨v, fun w hw => ?_, hK' _ ?_⟩
    · unfold Oper.quietAt; rw [act_eval, ho w hw]; exact ⟨rfl, hc w hw⟩
    · rw [hd, act_put]; exact h.out
theorem yielded_at {j g : Nat} {b : Bool} (hj : (ops[j]?).bind (·.dst) = some g) (hv : ev n fr (.tmp g) = .bool b) : yielded ops (act n fr).tmps j = some b := by
  have h1 : (act n fr).tmps.getD g undef = .bool b := by
    have := act_eval n fr
    have h2 := congrFun this (.tmp g)
    simp only [Act.eval] at h2
    rw [h2, hv]
  unfold yielded
  rw [hj]
  simp only [Option.bind_some]
  cases e : (act n fr).tmps[g]? with
  | none => rw [Array.getD_eq_getD_getElem?, e] at h1; simp [undef] at h1
  | some x => rw [Array.getD_eq_getD_getElem?, e] at h1; simp at h1; rw [h1]
theorem LS.on {rest : List Oper} {d : Option Tmp} {op : Op} {ty : TypeId} {pos : String} {aft : Array Edge} {j g : Nat} {b : Bool}
    (h : LS P q ops f R k (⟨d, op, ty, pos, aft, none⟩ :: rest) n fr w0 M σ K) (hj : (ops[j]?).bind (·.dst) = some g := by rfl) (hv : ev n fr (.tmp g) = .bool b := by rfl) :
    LS P q ops f R k (⟨d, op, ty, pos, aft, some (j, b)⟩ :: rest) n fr w0 M σ K := by
  have hy := yielded_at (ops := ops) hj hv
  cases q
  · refine ⟨fun w hw => ?_⟩
    have := h.out w hw
    unfold wpList at this ⊢
    simp only [Region.wanted, hy, if_true, beq_self_eq_true] at this ⊢
    exact this
  · have := h.out
    refine ⟨?_⟩
    unfold wpQuiet at this ⊢
    simp only [Region.wanted, hy, if_true, beq_self_eq_true] at this ⊢
    exact this
theorem LS.off {rest : List Oper} {d : Nat} {op : Op} {ty : TypeId} {pos : String} {aft : Array Edge} {j g : Nat} {b : Bool}
    (h : LS P q ops f R k rest n (upd fr d undef) w0 M σ K) (hj : (ops[j]?).bind (·.dst) = some g := by rfl) (hv : ev n fr (.tmp g) = .bool (!b) := by rfl) :
    LS P q ops f R k (⟨some d, op, ty, pos, aft, some (j, b)⟩ :: rest) n fr w0 M σ K := by
  have hy := yielded_at (ops := ops) hj hv
  cases q
  · refine ⟨fun w hw => ?_⟩
    have := h.out w hw
    unfold wpList
    simp only [Region.wanted, hy]
    rw [if_neg (by cases b <;> simp)]
    simp only [act_put]
    exact this
  · refine ⟨?_⟩
    unfold wpQuiet
    simp only [Region.wanted, hy]
    rw [if_neg (by cases b <;> simp)]
    simp only [act_put]
    exact h.out
theorem yielded_undef {j g : Nat} (hj : (ops[j]?).bind (·.dst) = some g) (hv : ev n fr (.tmp g) = undef) : yielded ops (act n fr).tmps j = none := by
  have h1 : (act n fr).tmps.getD g undef = undef := by
    have h2 := congrFun (act_eval n fr) (.tmp g)
    simp only [Act.eval] at h2
    rw [h2, hv]
  unfold yielded
  rw [hj]
  simp only [Option.bind_some]
  cases e : (act n fr).tmps[g]? with
  | none => rfl
  | some x => rw [Array.getD_eq_getD_getElem?, e] at h1; simp at h1; rw [h1]; rfl
theorem LS.offU {rest : List Oper} {d : Nat} {op : Op} {ty : TypeId} {pos : String} {aft : Array Edge} {j g : Nat} {b : Bool}
    (h : LS P q ops f R k rest n (upd fr d undef) w0 M σ K) (hj : (ops[j]?).bind (·.dst) = some g := by rfl) (hv : ev n fr (.tmp g) = undef := by rfl) :
    LS P q ops f R k (⟨some d, op, ty, pos, aft, some (j, b)⟩ :: rest) n fr w0 M σ K := by
  have hy := yielded_undef (ops := ops) hj hv
  cases q
  · refine ⟨fun w hw => ?_⟩
    have := h.out w hw
    unfold wpList
    simp only [Region.wanted, hy]
    rw [if_neg (by simp)]
    simp only [act_put]
    exact this
  · refine ⟨?_⟩
    unfold wpQuiet
    simp only [Region.wanted, hy]
    rw [if_neg (by simp)]
    simp only [act_put]
    exact h.out
theorem upd_same {g : Nat} {b : Value} (hv : fr g = b) : upd fr g b = fr := by
  funext x
  simp only [upd]
  by_cases h : Nat.beq x g = true
  · simp only [h, cond_true]; rw [Nat.eq_of_beq_eq_true h, hv]
  · simp [h]
theorem LS.part {l : List Oper} (g : Nat) {p : Bool} (ht : p = true → LS P q ops f R k l n (upd fr g (.bool true)) w0 M σ K) (hf : p = false → LS P q ops f R k l n (upd fr g (.bool false)) w0 M σ K)
    (hv : fr g = .bool p := by rfl) : LS P q ops f R k l n fr w0 M σ K := by
  cases p
  · have := hf rfl; rwa [upd_same hv] at this
  · have := ht rfl; rwa [upd_same hv] at this
theorem RS.part {l : List Item} (g : Nat) {p : Bool} (ht : p = true → RS P f R l n (upd fr g (.bool true)) w0 M σ K) (hf : p = false → RS P f R l n (upd fr g (.bool false)) w0 M σ K)
    (hv : fr g = .bool p := by rfl) : RS P f R l n fr w0 M σ K := by
  cases p
  · have := hf rfl; rwa [upd_same hv] at this
  · have := ht rfl; rwa [upd_same hv] at this
theorem LS.as {l : List Oper} (g : Nat) (v : Value) (hv : fr g = v) (h : LS P q ops f R k l n (upd fr g v) w0 M σ K) : LS P q ops f R k l n fr w0 M σ K := by rwa [upd_same hv] at h
theorem RS.as {l : List Item} (g : Nat) (v : Value) (hv : fr g = v) (h : RS P f R l n (upd fr g v) w0 M σ K) : RS P f R l n fr w0 M σ K := by rwa [upd_same hv] at h
theorem RS.ret1 {fn : Func} {t : Nat} {v : Value} (hf : P.funcs[f]? = some fn) (h : ∀ w, Sat w0 M σ K w → R (.returned v) w) (hr : fn.results = #[.tmp t] := by rfl) (hv : ev n fr (.tmp t) = v := by rfl) :
    RS P f R (.code .ret :: k) n fr w0 M σ K := by
  refine ⟨fun w hw => ?_⟩
  refine Run.ret hf (results_tmp hr _ _ _) rfl ?_
  have : (act n fr).tmps.getD t undef = v := by have := congrFun (act_eval n fr) (.tmp t); simp only [Act.eval] at this; rw [this, hv]
  rw [this]; exact h w hw
theorem RS.ret2 {fn : Func} {t u : Nat} {v v' : Value} (hf : P.funcs[f]? = some fn) (h : ∀ w, Sat w0 M σ K w → R (.returned (.tuple #[v, v'])) w) (hr : fn.results = #[.tmp t, .tmp u] := by rfl) (hv : ev n fr (.tmp t) = v := by rfl) (hv' : ev n fr (.tmp u) = v' := by rfl) :
    RS P f R (.code .ret :: k) n fr w0 M σ K := by
  refine ⟨fun w hw => ?_⟩
  refine Run.ret hf (results_tmp2 hr _ _ _) rfl ?_
  have e : ∀ s x, ev n fr (.tmp s) = x → (act n fr).tmps.getD s undef = x := fun s x hx => by have := congrFun (act_eval n fr) (.tmp s); simp only [Act.eval] at this; rw [this, hx]
  rw [e t v hv, e u v' hv']; exact h w hw
theorem RS.fin0 {fn : Func} (hf : P.funcs[f]? = some fn) (h : ∀ w, Sat w0 M σ K w → R (.returned (.tuple #[])) w) (hr : fn.results = #[] := by rfl) :
    RS P f R [] n fr w0 M σ K := ⟨fun w hw => Run.fin hf (results_none hr _ _ _) rfl (h w hw)⟩
end
end Go.JW
namespace Go.JW
def Stp (G G' : Prop) : Prop := G' → G
section
variable {P : Program} {f : FuncId} {R : Ending → World → Prop} {k k' : List Item} {n id : Nat} {fr : Nat → Value} {w0 : World} {M : Nat → Prop} {σ : PH} {K : List HP} {l : List Oper} {x y : Code} {G : Prop}
theorem zS (h : Stp (RS P f R (.code x :: .code y :: k) n fr w0 M σ K) G) : Stp (RS P f R (.code (.seq x y) :: k) n fr w0 M σ K) G := fun g => RS.seq (h g)
theorem zR : Stp (RS P f R (.code (.region id l.toArray false) :: k) n fr w0 M σ K) (LS P false l.toArray f R k l n fr w0 M σ K) := fun g => RS.region g
theorem zQ (hm : P.follows .mixedOrders = true := by kernel_rfl) (hB : Region.lexB .any l.toArray = true := by kernel_rfl) : Stp (RS P f R (.code (.region id l.toArray true) :: k) n fr w0 M σ K) (LS P true l.toArray f R k l n fr w0 M σ K) := fun g => RS.regionQ g hm hB
theorem zK (h : Stp (RS P f R k n fr w0 M σ K) G) : Stp (RS P f R (.code .skip :: k) n fr w0 M σ K) G := fun g => RS.skip (h g)
theorem zI (h : Stp (RS P f R k n fr w0 M σ K) G) : Stp (RS P f R (.inBlock id :: k) n fr w0 M σ K) G := fun g => RS.inBlock (h g)
theorem zB (h : Stp (RS P f R (.code x :: .inBlock id :: k) n fr w0 M σ K) G) : Stp (RS P f R (.code (.block id x) :: k) n fr w0 M σ K) G := fun g => RS.block (h g)
theorem zE (he : exitTo id k = some k') (h : Stp (RS P f R k' n fr w0 M σ K) G) : Stp (RS P f R (.code (.exit id) :: k) n fr w0 M σ K) G := fun g => RS.exit (h g) he
theorem zO : Stp G G := fun g => g
end
theorem zN {G G' : Prop} (h : G') (s : Stp G G' := by repeat (first | apply zS | exact zR | exact zQ | apply zK | apply zI | apply zB | (apply zE; rfl) | exact zO)) : G := s h
theorem zD {G G' : Prop} (h : G') (s : Stp G G' := by repeat (first | apply zS | exact zR | apply zK | apply zI | apply zB | (apply zE; rfl) | exact zO)) : G := s h
end Go.JW
namespace Go.JW

def aggOf (P : Program) (t : TypeId) : Option Bool :=
  match P.underlying t with
  | some (.struct _) | some (.array ..) => some true
  | some _ => some false
  | none => none
def szOf (P : Program) (t : TypeId) : Option Nat := (P.info? t).map (·.size)
def zeroOf (P : Program) (t : TypeId) : Option (List Value) := ((P.info? t).bind (·.zero)).map fun z => z.cells.toList
def fldOf (P : Program) (t : TypeId) (i : Nat) : Option (Nat × Nat) :=
  match P.underlying t with
  | some (.struct fs) => (fs[i]?).bind fun f => (szOf P f.type).map fun s => (f.offset, s)
  | _ => none
class TInt (P : Program) (t : TypeId) (k : outParam IntKind) : Prop where eq : P.underlying t = some (.int k)
class TStr (P : Program) (t : TypeId) : Prop where eq : P.underlying t = some .string
class TBool (P : Program) (t : TypeId) : Prop where eq : P.underlying t = some .bool
class TSlice (P : Program) (t : TypeId) (e : outParam TypeId) : Prop where eq : P.underlying t = some (.slice e)
class TPtr (P : Program) (t : TypeId) (e : outParam TypeId) : Prop where eq : P.underlying t = some (.pointer e)
class TArr (P : Program) (t : TypeId) (l e : outParam Nat) : Prop where eq : P.underlying t = some (.array l e)
class TMap (P : Program) (t : TypeId) (k e : outParam TypeId) : Prop where eq : P.underlying t = some (.map k e)
class TSz (P : Program) (t : TypeId) (s : outParam Nat) : Prop where eq : szOf P t = some s
class TBytes (P : Program) (t : TypeId) (s : outParam Nat) : Prop where eq : (P.info? t).map (·.bytes) = some s
class TOne (P : Program) (t : TypeId) : Prop where
  agg : aggOf P t = some false
class TAgg (P : Program) (t : TypeId) : Prop where
  agg : aggOf P t = some true
class TZero (P : Program) (t : TypeId) (zs : outParam (List Value)) : Prop where eq : zeroOf P t = some zs
class TFld (P : Program) (t : TypeId) (i : Nat) (off s : outParam Nat) : Prop where eq : fldOf P t i = some (off, s + 1)
section
variable {P : Program} {t : TypeId} (w : World)
theorem run_sz {s : Nat} (h : szOf P t = some s) : (sizeOf t).run P w = .ok s w := by
  unfold szOf at h
  cases hi : P.info? t with
  | none => simp [hi] at h
  | some i => simp [hi] at h; simp [sizeOf, typeInfo, hi, h]
theorem run_agg {b : Bool} (h : aggOf P t = some b) : (isAgg t).run P w = .ok b w := by
  unfold aggOf at h
  cases hu : P.underlying t with
  | none => simp [hu] at h
  | some d => cases d <;> simp [hu] at h <;> subst h <;> simp [isAgg, run_underlying hu]
end

def nth : List Value → Nat → Option Value
  | [], _ => none
  | v :: _, 0 => some v
  | _ :: l, i + 1 => nth l i
theorem nth_eq (l : List Value) (i : Nat) : nth l i = l[i]? := by
  induction l generalizing i with
  | nil => simp [nth]
  | cons v l ih => cases i <;> simp [nth, ih]
def takeAt : List Value → Nat → Nat → Option (List Value)
  | _, _, 0 => some []
  | [], _, _ + 1 => none
  | v :: l, 0, m + 1 => match takeAt l 0 m with | some r => some (v :: r) | none => none
  | _ :: l, i + 1, m + 1 => takeAt l i (m + 1)
theorem takeAt_spec : ∀ (l : List Value) (i m : Nat) (r : List Value), takeAt l i m = some r → r.length = m ∧ ∀ j, j < m → l[i + j]? = r[j]? := by
  intro l
  induction l with
  | nil =>
    intro i m r h
    cases m with
    | zero => simp [takeAt] at h; subst h; simp
    | succ m => simp [takeAt] at h
  | cons v l ih =>
    intro i m r h
    cases m with
    | zero => simp [takeAt] at h; subst h; simp
    | succ m =>
      cases i with
      | zero =>
        simp only [takeAt] at h
        cases e : takeAt l 0 m with
        | none => simp [e] at h
        | some r' =>
          simp [e] at h; subst h
          obtain ⟨h1, h2⟩ := ih 0 m r' e
          refine ⟨by simp [h1], fun j hj => ?_⟩
          cases j with
          | zero => simp
          | succ j => have := h2 j (by omega); simpa using this
      | succ i =>
        simp only [takeAt] at h
        obtain ⟨h1, h2⟩ := ih i (m + 1) r h
        refine ⟨h1, fun j hj => ?_⟩
        have := h2 j hj
        rw [show i + 1 + j = (i + j) + 1 by omega]; simpa using this
def setAt : List Value → Nat → List Value → List Value
  | l, _, [] => l
  | [], _, _ :: _ => []
  | _ :: l, 0, v :: vs => v :: setAt l 0 vs
  | u :: l, i + 1, v :: vs => u :: setAt l i (v :: vs)
theorem setAt_length : ∀ (l : List Value) (i : Nat) (vs : List Value), (setAt l i vs).length = l.length := by
  intro l
  induction l with
  | nil => intro i vs; cases vs <;> simp [setAt]
  | cons u l ih => intro i vs; cases vs <;> cases i <;> simp [setAt, ih]
theorem setAt_nil (l : List Value) (i : Nat) : setAt l i [] = l := by cases l <;> simp [setAt]
theorem setAt_cons : ∀ (l : List Value) (i : Nat) (v : Value) (vs : List Value), setAt l i (v :: vs) = setAt (l.set i v) (i + 1) vs := by
  intro l
  induction l with
  | nil => intro i v vs; cases vs <;> simp [setAt]
  | cons u l ih =>
    intro i v vs
    cases i with
    | zero =>
      cases vs with
      | nil => simp [setAt, setAt_nil]
      | cons v' vs => simp [setAt]
    | succ i =>
      have := ih i v vs
      cases vs with
      | nil => simp [setAt, this]
      | cons v' vs => simp only [setAt, List.set_cons_succ]; rw [this]
def cellsL (v : Value) : List Value := match v with | .agg cs => cs.toList | v => [v]
theorem cells_toList (v : Value) : v.cells.toList = cellsL v := by cases v <;> rfl

section
variable {P : Program} {w : World} {b : Nat} {cs : List Value} {T : TypeId}
theorem cell_blk (h : w.heap[b]? = some (.cells cs.toArray T (0, 0))) (off : Nat) : w.cell? ⟨b, off, none⟩ = cs[off]? := by
  simp [World.cell?, h]
theorem add_off (b off i : Nat) : (⟨b, off, none⟩ : Addr).add i = ⟨b, off + i, none⟩ := by unfold Addr.add; split <;> simp_all
theorem frozen_blk (h : w.heap[b]? = some (.cells cs.toArray T (0, 0))) (off : Nat) : w.frozen? ⟨b, off, none⟩ = false := by
  simp [World.frozen?, h]
theorem setCell_blk (h : w.heap[b]? = some (.cells cs.toArray T (0, 0))) (off : Nat) (v : Value) :
    w.setCell ⟨b, off, none⟩ v = { w with heap := w.heap.setIfInBounds b (.cells (cs.set off v).toArray T (0, 0)) } := by
  unfold World.setCell
  congr 1
  apply Array.ext_getElem?
  intro i
  rw [Array.getElem?_modify, Array.getElem?_setIfInBounds]
  have hb : b < w.heap.size := (Array.getElem?_eq_some_iff.1 h).1
  by_cases hi : b = i
  · subst hi; rw [h]; simp [hb]
  · simp [hi]
theorem run_loadFrom (a : Nat → Option Value) (hrd : ∀ j v, a j = some v → w.cell? ⟨b, j, none⟩ = some v) :
    ∀ (m i off : Nat) (acc : Array Value) (vs : List Value), vs.length = m → (∀ j, j < m → a (off + i + j) = vs[j]?) →
      (loadCellsFrom ⟨b, off, none⟩ i m acc).run P w = .ok (acc ++ vs.toArray) w := by
  intro m
  induction m with
  | zero => intro i off acc vs hl _; obtain rfl := List.eq_nil_of_length_eq_zero hl; simp [loadCellsFrom]
  | succ m ih =>
    intro i off acc vs hl hv
    cases vs with
    | nil => simp at hl
    | cons v vs =>
      have h0 := hrd (off + i) v (by have := hv 0 (by omega); simpa using this)
      have := ih (i + 1) off (acc.push v) vs (by simpa using hl) (fun j hj => by have := hv (j + 1) (by omega); simpa [Nat.add_assoc, Nat.add_comm, Nat.add_left_comm] using this)
      simp [loadCellsFrom, add_off, h0, this]
theorem run_loadVar1 {t : TypeId} {v : Value} (ht : aggOf P t = some false) (off : Nat) (h : w.cell? ⟨b, off, none⟩ = some v) : (loadVar t ⟨b, off, none⟩).run P w = .ok v w := by
  simp [loadVar, run_agg w ht, h]
theorem run_loadVarA {t : TypeId} {s : Nat} {vs : List Value} (ht : aggOf P t = some true) (hs : szOf P t = some s) (off : Nat) (hl : vs.length = s) (h : ∀ j, j < s → w.cell? ⟨b, off + j, none⟩ = vs[j]?) :
    (loadVar t ⟨b, off, none⟩).run P w = .ok (.agg vs.toArray) w := by
  have := run_loadFrom (P := P) (w := w) (b := b) (fun j => w.cell? ⟨b, j, none⟩) (fun j v h => h) s 0 off #[] vs hl (fun j hj => by first | (simp; done) | (have h1 := h j hj; simpa using h1))
  simp [loadVar, run_agg w ht, run_sz w hs, loadCells, this]
theorem run_storeCellsL (off : Nat) : ∀ (vs : List Value) (i : Nat) (w : World) (cs : List Value), w.heap[b]? = some (.cells cs.toArray T (0, 0)) →
    off + i + vs.length ≤ cs.length → vs.all (·.oneCell') = true →
    (storeCells ⟨b, off, none⟩ vs i).run P w = .ok () { w with heap := w.heap.setIfInBounds b (.cells (setAt cs (off + i) vs).toArray T (0, 0)) } := by
  intro vs
  induction vs with
  | nil =>
    intro i w cs hb _ _
    simp only [storeCells, Sem.run_pure, setAt_nil]
    congr 1
    have : w.heap.setIfInBounds b (.cells cs.toArray T (0, 0)) = w.heap := by
      apply Array.ext_getElem?
      intro j
      rw [Array.getElem?_setIfInBounds]
      by_cases hj : b = j
      · subst hj; rw [hb]; simp [(Array.getElem?_eq_some_iff.1 hb).1]
      · simp [hj]
    rw [this]
  | cons v vs ih =>
    intro i w cs hb hl h1
    simp only [List.all_cons, Bool.and_eq_true] at h1
    simp only [List.length_cons] at hl
    have hbs : b < w.heap.size := (Array.getElem?_eq_some_iff.1 hb).1
    have hc : w.cell? ⟨b, off + i, none⟩ = some (cs[off + i]'(by omega)) := by rw [cell_blk hb]; exact List.getElem?_eq_getElem _
    have := ih (i + 1) { w with heap := w.heap.setIfInBounds b (.cells (cs.set (off + i) v).toArray T (0, 0)) } (cs.set (off + i) v) (by simp [hbs]) (by simp; omega) h1.2
    rw [setAt_cons]
    simp only [storeCells, add_off, Sem.run_bind, run_store P w _ v _ h1.1, hc, frozen_blk hb, setCell_blk hb, Bool.false_eq_true, if_false, Result.andThen_ok, this]
    simp only [Array.setIfInBounds_setIfInBounds, Nat.add_assoc]
theorem run_storeVarL {t : TypeId} {s : Nat} {v : Value} (hb : w.heap[b]? = some (.cells cs.toArray T (0, 0))) (hs : szOf P t = some s) (off : Nat) (hl : (cellsL v).length = s) (hr : off + s ≤ cs.length) (h1 : (cellsL v).all (·.oneCell') = true) :
    (storeVar t ⟨b, off, none⟩ v).run P w = .ok () { w with heap := w.heap.setIfInBounds b (.cells (setAt cs off (cellsL v)).toArray T (0, 0)) } := by
  have := run_storeCellsL (P := P) (b := b) (T := T) off (cellsL v) 0 w cs hb (by omega) h1
  have hz : v.cells.size = s := by rw [← Array.length_toList, cells_toList]; exact hl
  simp only [storeVar, Sem.run_bind, run_sz w hs, Result.andThen_ok, hz, ne_eq, not_true_eq_false, if_false, cells_toList, this, Nat.add_zero]
end

section
variable {P : Program} {q : Bool} {ops : Array Oper} {f : FuncId} {R : Ending → World → Prop} {k : List Item} {n : Nat} {fr : Nat → Value} {w0 : World} {M : Nat → Prop} {σ : PH} {K : List HP}
variable {rest : List Oper} {d : Nat} {ty : TypeId} {pos : String} {aft : Array Edge} {x y z : Operand} {t t' : TypeId}
theorem mv {v : Value} (h : LS P q ops f R k rest n (upd fr d v) w0 M σ K) (hx : ev n fr x = v := by rfl) : LS P q ops f R k (⟨some d, .move x, ty, pos, aft, none⟩ :: rest) n fr w0 M σ K :=
  LS.val rfl rfl (fun w _ => by simp [execOp, hx]) h
theorem as_ {v : Value} (h : LS P q ops f R k rest n (upd fr d v) w0 M σ K) (hx : ev n fr x = v := by rfl) : LS P q ops f R k (⟨some d, .assign x, ty, pos, aft, none⟩ :: rest) n fr w0 M σ K :=
  LS.val rfl rfl (fun w _ => by simp [execOp, hx]) h
theorem mvI {kk : IntKind} {m : Int} (h : LS P q ops f R k rest n (upd fr d (.int kk m)) w0 M σ K) (hx : ev n fr x = .int kk m := by rfl) : LS P q ops f R k (⟨some d, .move x, ty, pos, aft, none⟩ :: rest) n fr w0 M σ K := mv h hx
theorem asI {kk : IntKind} {m : Int} (h : LS P q ops f R k rest n (upd fr d (.int kk m)) w0 M σ K) (hx : ev n fr x = .int kk m := by rfl) : LS P q ops f R k (⟨some d, .assign x, ty, pos, aft, none⟩ :: rest) n fr w0 M σ K := as_ h hx
theorem mvB {m : Bool} (h : LS P q ops f R k rest n (upd fr d (.bool m)) w0 M σ K) (hx : ev n fr x = .bool m := by rfl) : LS P q ops f R k (⟨some d, .move x, ty, pos, aft, none⟩ :: rest) n fr w0 M σ K := mv h hx
theorem asB {m : Bool} (h : LS P q ops f R k rest n (upd fr d (.bool m)) w0 M σ K) (hx : ev n fr x = .bool m := by rfl) : LS P q ops f R k (⟨some d, .assign x, ty, pos, aft, none⟩ :: rest) n fr w0 M σ K := as_ h hx
theorem mvS {m : ByteArray} (h : LS P q ops f R k rest n (upd fr d (.string m)) w0 M σ K) (hx : ev n fr x = .string m := by rfl) : LS P q ops f R k (⟨some d, .move x, ty, pos, aft, none⟩ :: rest) n fr w0 M σ K := mv h hx
theorem asS {m : ByteArray} (h : LS P q ops f R k rest n (upd fr d (.string m)) w0 M σ K) (hx : ev n fr x = .string m := by rfl) : LS P q ops f R k (⟨some d, .assign x, ty, pos, aft, none⟩ :: rest) n fr w0 M σ K := as_ h hx
theorem mvL {m : Option Addr} {l c : Nat} (h : LS P q ops f R k rest n (upd fr d (.slice m l c)) w0 M σ K) (hx : ev n fr x = .slice m l c := by rfl) : LS P q ops f R k (⟨some d, .move x, ty, pos, aft, none⟩ :: rest) n fr w0 M σ K := mv h hx
theorem asL {m : Option Addr} {l c : Nat} (h : LS P q ops f R k rest n (upd fr d (.slice m l c)) w0 M σ K) (hx : ev n fr x = .slice m l c := by rfl) : LS P q ops f R k (⟨some d, .assign x, ty, pos, aft, none⟩ :: rest) n fr w0 M σ K := as_ h hx
theorem mvP {m : Option Addr} (h : LS P q ops f R k rest n (upd fr d (.pointer m)) w0 M σ K) (hx : ev n fr x = .pointer m := by rfl) : LS P q ops f R k (⟨some d, .move x, ty, pos, aft, none⟩ :: rest) n fr w0 M σ K := mv h hx
theorem asP {m : Option Addr} (h : LS P q ops f R k rest n (upd fr d (.pointer m)) w0 M σ K) (hx : ev n fr x = .pointer m := by rfl) : LS P q ops f R k (⟨some d, .assign x, ty, pos, aft, none⟩ :: rest) n fr w0 M σ K := as_ h hx
theorem mvT {m : Array Value} (h : LS P q ops f R k rest n (upd fr d (.tuple m)) w0 M σ K) (hx : ev n fr x = .tuple m := by rfl) : LS P q ops f R k (⟨some d, .move x, ty, pos, aft, none⟩ :: rest) n fr w0 M σ K := mv h hx
theorem mvF {m : Fn} {l c : Array Value} (h : LS P q ops f R k rest n (upd fr d (.func m l c)) w0 M σ K) (hx : ev n fr x = .func m l c := by rfl) : LS P q ops f R k (⟨some d, .move x, ty, pos, aft, none⟩ :: rest) n fr w0 M σ K := mv h hx
theorem exec_bin {w : World} {op : BinOp} {kk : IntKind} {a b : Int} {v : Value} {g : Option (Nat × Bool)} (hx : ev n fr x = .int kk a) (hy : ev n fr y = .int kk b) (h : (binOp op t (.int kk a) (.int kk b)).run P w = .ok v w) :
    (execOp (ev n fr) ⟨some d, .binOp op t x y t', ty, pos, aft, g⟩).run P w = .ok (.value v) w := by
  simp only [execOp, hx, hy, eqGuard, Sem.run_bind]
  split <;> simp [h]
theorem addI {kk : IntKind} {a b : Int} (h : LS P q ops f R k rest n (upd fr d (.int kk (kk.wrap (a + b)))) w0 M σ K) (hx : ev n fr x = .int kk a := by rfl) (hy : ev n fr y = .int kk b := by rfl) :
    LS P q ops f R k (⟨some d, .binOp .add t x y t', ty, pos, aft, none⟩ :: rest) n fr w0 M σ K :=
  LS.val rfl rfl (fun w _ => exec_bin hx hy (by simp [binOp, Op.intArith])) h
theorem subI {kk : IntKind} {a b : Int} (h : LS P q ops f R k rest n (upd fr d (.int kk (kk.wrap (a - b)))) w0 M σ K) (hx : ev n fr x = .int kk a := by rfl) (hy : ev n fr y = .int kk b := by rfl) :
    LS P q ops f R k (⟨some d, .binOp .sub t x y t', ty, pos, aft, none⟩ :: rest) n fr w0 M σ K :=
  LS.val rfl rfl (fun w _ => exec_bin hx hy (by simp [binOp, Op.intArith])) h
theorem remI {kk : IntKind} {a b : Int} (h : LS P q ops f R k rest n (upd fr d (.int kk (a.tmod b))) w0 M σ K) (hx : ev n fr x = .int kk a := by rfl) (hy : ev n fr y = .int kk b := by rfl) (hb : b ≠ 0 := by omega) :
    LS P q ops f R k (⟨some d, .binOp .rem t x y t', ty, pos, aft, none⟩ :: rest) n fr w0 M σ K :=
  LS.val rfl rfl (fun w _ => exec_bin hx hy (by simp [binOp, Op.intDiv, hb])) h
theorem ltI {kk : IntKind} {a b : Int} (h : LS P q ops f R k rest n (upd fr d (.bool (decide (a < b)))) w0 M σ K) (hx : ev n fr x = .int kk a := by rfl) (hy : ev n fr y = .int kk b := by rfl) :
    LS P q ops f R k (⟨some d, .binOp .lss t x y t', ty, pos, aft, none⟩ :: rest) n fr w0 M σ K :=
  LS.val rfl rfl (fun w _ => exec_bin hx hy (by simp [binOp, Op.intCmp])) h
theorem leI {kk : IntKind} {a b : Int} (h : LS P q ops f R k rest n (upd fr d (.bool (decide (a ≤ b)))) w0 M σ K) (hx : ev n fr x = .int kk a := by rfl) (hy : ev n fr y = .int kk b := by rfl) :
    LS P q ops f R k (⟨some d, .binOp .leq t x y t', ty, pos, aft, none⟩ :: rest) n fr w0 M σ K :=
  LS.val rfl rfl (fun w _ => exec_bin hx hy (by simp [binOp, Op.intCmp])) h
theorem gtI {kk : IntKind} {a b : Int} (h : LS P q ops f R k rest n (upd fr d (.bool (decide (b < a)))) w0 M σ K) (hx : ev n fr x = .int kk a := by rfl) (hy : ev n fr y = .int kk b := by rfl) :
    LS P q ops f R k (⟨some d, .binOp .gtr t x y t', ty, pos, aft, none⟩ :: rest) n fr w0 M σ K :=
  LS.val rfl rfl (fun w _ => exec_bin hx hy (by simp [binOp, Op.intCmp])) h
theorem geI {kk : IntKind} {a b : Int} (h : LS P q ops f R k rest n (upd fr d (.bool (decide (b ≤ a)))) w0 M σ K) (hx : ev n fr x = .int kk a := by rfl) (hy : ev n fr y = .int kk b := by rfl) :
    LS P q ops f R k (⟨some d, .binOp .geq t x y t', ty, pos, aft, none⟩ :: rest) n fr w0 M σ K :=
  LS.val rfl rfl (fun w _ => exec_bin hx hy (by simp [binOp, Op.intCmp])) h
theorem eqI {kk : IntKind} {a b : Int} (h : LS P q ops f R k rest n (upd fr d (.bool (decide (a = b)))) w0 M σ K) (hx : ev n fr x = .int kk a := by rfl) (hy : ev n fr y = .int kk b := by rfl) :
    LS P q ops f R k (⟨some d, .binOp .eql t x y t', ty, pos, aft, none⟩ :: rest) n fr w0 M σ K :=
  LS.val rfl rfl (fun w _ => exec_bin hx hy (by simp [binOp, Op.intCmp]; rfl)) h
theorem neI {kk : IntKind} {a b : Int} (h : LS P q ops f R k rest n (upd fr d (.bool (!decide (a = b)))) w0 M σ K) (hx : ev n fr x = .int kk a := by rfl) (hy : ev n fr y = .int kk b := by rfl) :
    LS P q ops f R k (⟨some d, .binOp .neq t x y t', ty, pos, aft, none⟩ :: rest) n fr w0 M σ K :=
  LS.val rfl rfl (fun w _ => exec_bin hx hy (by simp [binOp, Op.intCmp]; rfl)) h
theorem exec_binS {w : World} {op : BinOp} {a b : ByteArray} {v : Value} {g : Option (Nat × Bool)} (hx : ev n fr x = .string a) (hy : ev n fr y = .string b) (h : (binOp op t (.string a) (.string b)).run P w = .ok v w) :
    (execOp (ev n fr) ⟨some d, .binOp op t x y t', ty, pos, aft, g⟩).run P w = .ok (.value v) w := by
  simp only [execOp, hx, hy, eqGuard, Sem.run_bind]
  split <;> simp [h]
theorem addS {a b : ByteArray} (h : LS P q ops f R k rest n (upd fr d (.string (a ++ b))) w0 M σ K) (hx : ev n fr x = .string a := by rfl) (hy : ev n fr y = .string b := by rfl) (hs : a.size + b.size ≤ 9223372036854775807 := by omega) :
    LS P q ops f R k (⟨some d, .binOp .add t x y t', ty, pos, aft, none⟩ :: rest) n fr w0 M σ K :=
  LS.val rfl rfl (fun w _ => exec_binS hx hy (by
    simp only [binOp, Op.stringOp]
    have e : IntKind.i64.max = 9223372036854775807 := rfl
    rw [if_neg (by rw [e]; omega)]; rfl)) h
theorem str_beq (a b : ByteArray) : (a.toList == b.toList) = decide (a = b) := by
  rw [Bool.eq_iff_iff]
  simp only [beq_iff_eq, decide_eq_true_eq, ByteArray.toList_eq]
  constructor
  · intro h; cases a; cases b; simp at h; subst h; rfl
  · intro h; rw [h]
theorem neS {a b : ByteArray} (h : LS P q ops f R k rest n (upd fr d (.bool (!decide (a = b)))) w0 M σ K) (hx : ev n fr x = .string a := by rfl) (hy : ev n fr y = .string b := by rfl) :
    LS P q ops f R k (⟨some d, .binOp .neq t x y t', ty, pos, aft, none⟩ :: rest) n fr w0 M σ K :=
  LS.val rfl rfl (fun w _ => exec_binS hx hy (by simp only [binOp, Op.stringOp, str_beq]; rfl)) h
def sLt (a b : ByteArray) : Bool := Op.bytesLess a.toList b.toList
theorem geS {a b : ByteArray} (h : LS P q ops f R k rest n (upd fr d (.bool (!sLt a b))) w0 M σ K) (hx : ev n fr x = .string a := by rfl) (hy : ev n fr y = .string b := by rfl) :
    LS P q ops f R k (⟨some d, .binOp .geq t x y t', ty, pos, aft, none⟩ :: rest) n fr w0 M σ K :=
  LS.val rfl rfl (fun w _ => exec_binS hx hy (by simp only [binOp, Op.stringOp]; rfl)) h
theorem not_ {b : Bool} (h : LS P q ops f R k rest n (upd fr d (.bool (!b))) w0 M σ K) (hx : ev n fr x = .bool b := by rfl) :
    LS P q ops f R k (⟨some d, .unOp .not t x, ty, pos, aft, none⟩ :: rest) n fr w0 M σ K :=
  LS.val rfl rfl (fun w _ => by simp [execOp, hx, Op.unary]) h
theorem pk {c : Bool} {v : Value} (h : LS P q ops f R k rest n (upd fr d v) w0 M σ K) (hx : ev n fr x = .bool c := by rfl) (hv : (bif c then ev n fr y else ev n fr z) = v := by rfl) :
    LS P q ops f R k (⟨some d, .pick x y z, ty, pos, aft, none⟩ :: rest) n fr w0 M σ K :=
  LS.val rfl rfl (fun w _ => by subst hv; cases c <;> simp [execOp, hx, asBool]) h
theorem cvI {kk kd : IntKind} {a : Int} [hs : TInt P t kk] [hd : TInt P t' kd] (h : LS P q ops f R k rest n (upd fr d (.int kd (kd.wrap a))) w0 M σ K) (hx : ev n fr x = .int kk a := by rfl) :
    LS P q ops f R k (⟨some d, .convert t t' x, ty, pos, aft, none⟩ :: rest) n fr w0 M σ K :=
  LS.val rfl rfl (fun w _ => by simp [execOp, hx, convert, run_underlying hs.eq, run_underlying hd.eq, Conv.intToInt]) h
theorem extr {l : List Value} {i : Nat} {v : Value} (h : LS P q ops f R k rest n (upd fr d v) w0 M σ K) (hx : ev n fr x = .tuple l.toArray := by rfl) (hv : nth l i = some v := by rfl) :
    LS P q ops f R k (⟨some d, .extract x i, ty, pos, aft, none⟩ :: rest) n fr w0 M σ K :=
  LS.val rfl rfl (fun w _ => by rw [nth_eq] at hv; simp [execOp, hx, Instr.extract, hv]) h
theorem nilck {a : Addr} (h : LS P q ops f R k rest n (upd fr d (.pointer (some a))) w0 M σ K) (hx : ev n fr x = .pointer (some a) := by rfl) :
    LS P q ops f R k (⟨some d, .nilCheck x, ty, pos, aft, none⟩ :: rest) n fr w0 M σ K :=
  LS.val rfl rfl (fun w _ => by simp [execOp, hx]) h
theorem zero_cells {zs : List Value} (hz : zeroOf P t = some zs) (w : World) : ∃ z, (zeroValue t).run P w = .ok z w ∧ z.cells = zs.toArray := by
  unfold zeroOf at hz
  cases hi : P.info? t with
  | none => simp [hi] at hz
  | some i =>
    cases hzz : i.zero with
    | none => simp [hi, hzz] at hz
    | some z =>
      simp [hi, hzz] at hz
      exact ⟨z, by simp [zeroValue, typeInfo, hi, hzz], by rw [← hz]⟩
theorem alloc_ {zs : List Value} [hz : TZero P t zs] (h : ∀ b, LS P false ops f R k rest n (upd fr d (.pointer (some ⟨b, 0, none⟩))) w0 M σ (blk b (.cells zs.toArray t (0, 0)) :: K)) :
    LS P false ops f R k (⟨some d, .alloc t, ty, pos, aft, none⟩ :: rest) n fr w0 M σ K :=
  LS.valW rfl rfl fun w hw => by
    obtain ⟨z, h1, h2⟩ := zero_cells hz.eq w
    refine ⟨_, _, _, _, ?_, hw.alloc (.cells zs.toArray t (0, 0)), h _⟩
    simp [execOp, Instr.alloc, h1, newVar, newRow, h2]
theorem box_ {v : Value} {cs : List Value} (h : ∀ b, LS P false ops f R k rest n (upd fr d (.pointer (some ⟨b, 0, none⟩))) w0 M σ (blk b (.cells cs.toArray t (0, 0)) :: K)) (hx : ev n fr x = v := by rfl) (hc : cellsL v = cs := by rfl) :
    LS P false ops f R k (⟨some d, .box t x, ty, pos, aft, none⟩ :: rest) n fr w0 M σ K :=
  LS.valW rfl rfl fun w hw => by
    refine ⟨_, _, _, _, ?_, hw.alloc (.cells cs.toArray t (0, 0)), h _⟩
    have : v.cells = cs.toArray := by rw [← hc, ← cells_toList]
    simp [execOp, hx, Instr.box, newVar, newRow, this]
theorem ld1 {b off : Nat} {cs : List Value} {T : TypeId} {v : Value} {put : HP → List HP} {K' : List HP} [ht : TOne P t] (h : LS P q ops f R k rest n (upd fr d v) w0 M σ K) (hx : ev n fr x = .pointer (some ⟨b, off, none⟩) := by rfl)
    (hf : FindB b K (.cells cs.toArray T (0, 0)) put K' := by infer_instance) (hv : nth cs off = some v := by rfl) :
    LS P q ops f R k (⟨some d, .load t x, ty, pos, aft, none⟩ :: rest) n fr w0 M σ K :=
  LS.val rfl rfl (fun w hw => by
    have hb := hw.get (i := hf)
    rw [nth_eq] at hv
    have := run_loadVar1 (P := P) (w := w) (b := b) ht.agg off ((cell_blk hb off).trans hv)
    simp [execOp, hx, Instr.loadAt, Instr.sureAddr, this]) h
theorem ldA (vs : List Value) {b off s : Nat} {cs : List Value} {T : TypeId} {put : HP → List HP} {K' : List HP} [ht : TAgg P t] [hs : TSz P t s] (h : LS P q ops f R k rest n (upd fr d (.agg vs.toArray)) w0 M σ K) (hx : ev n fr x = .pointer (some ⟨b, off, none⟩) := by rfl)
    (hf : FindB b K (.cells cs.toArray T (0, 0)) put K' := by infer_instance) (hv : takeAt cs off s = some vs := by rfl) :
    LS P q ops f R k (⟨some d, .load t x, ty, pos, aft, none⟩ :: rest) n fr w0 M σ K :=
  LS.val rfl rfl (fun w hw => by
    have hb := hw.get (i := hf)
    obtain ⟨hl, hc⟩ := takeAt_spec _ _ _ _ hv
    have := run_loadVarA (P := P) (w := w) (b := b) ht.agg hs.eq off hl (fun j hj => (cell_blk hb (off + j)).trans (hc j hj))
    simp [execOp, hx, Instr.loadAt, Instr.sureAddr, this]) h
theorem st (v : Value) (cs' : List Value) {b off s : Nat} {cs : List Value} {T : TypeId} {put : HP → List HP} {K' : List HP} [hs : TSz P t s]
    (h : LS P false ops f R k rest n fr w0 M σ (put (blk b (.cells cs'.toArray T (0, 0))))) (hx : ev n fr x = .pointer (some ⟨b, off, none⟩) := by rfl) (hf : FindB b K (.cells cs.toArray T (0, 0)) put K' := by infer_instance) (hy : ev n fr y = v := by rfl)
    (hl : Nat.beq (cellsL v).length s = true := by rfl) (hr : Nat.ble (off + s) cs.length = true := by rfl) (h1 : (cellsL v).all (·.oneCell') = true := by rfl) (hc : setAt cs off (cellsL v) = cs' := by rfl) :
    LS P false ops f R k (⟨none, .store t x y, ty, pos, aft, none⟩ :: rest) n fr w0 M σ K :=
  LS.skipW rfl rfl fun w hw => by
    have hb := hw.get (i := hf)
    have := run_storeVarL (P := P) hb hs.eq off (Nat.eq_of_beq_eq_true hl) (Nat.le_of_ble_eq_true hr) h1
    rw [hc] at this
    exact ⟨_, _, _, by simp [execOp, hx, hy, Instr.storeAt, Instr.sureAddr, this], hw.put (i := hf) _, h⟩
theorem fld {b off i o s : Nat} [hf : TFld P t i o s] (h : LS P q ops f R k rest n (upd fr d (.pointer (some ⟨b, off + o, none⟩))) w0 M σ K) (hx : ev n fr x = .pointer (some ⟨b, off, none⟩) := by rfl) :
    LS P q ops f R k (⟨some d, .fieldAddr t x i, ty, pos, aft, none⟩ :: rest) n fr w0 M σ K :=
  LS.val rfl rfl (fun w _ => by
    have h1 := hf.eq
    unfold fldOf at h1
    cases hu : P.underlying t with
    | none => simp [hu] at h1
    | some dd =>
      cases dd <;> simp [hu] at h1
      rename_i fs
      cases hi : fs[i]? with
      | none => simp [hi] at h1
      | some fd =>
        simp [hi] at h1
        obtain ⟨hs, ho⟩ := h1
        have hsz := run_sz (P := P) (t := fd.type) w hs
        simp [execOp, hx, Instr.fieldAt, run_underlying hu, hi, Instr.sureAddr, fieldPlace, hsz, ho, add_off]) h
theorem idx {b off len cap i s : Nat} {e : TypeId} [ht : TSlice P t e] [hs : TSz P e s] {kk : IntKind} {j : Int} (h : LS P q ops f R k rest n (upd fr d (.pointer (some ⟨b, off + i * s, none⟩))) w0 M σ K)
    (hx : ev n fr x = .slice (some ⟨b, off, none⟩) len cap := by rfl) (hy : ev n fr y = .int kk j := by rfl) (hj : j = (i : Int) := by rfl) (hi : i < len := by omega) :
    LS P q ops f R k (⟨some d, .indexAddr t x y, ty, pos, aft, none⟩ :: rest) n fr w0 M σ K :=
  LS.val rfl rfl (fun w _ => by
    subst hj
    simp [execOp, hx, hy, Instr.indexAt, asIntOf, run_underlying ht.eq, hi, run_sz w hs.eq, add_off]) h
theorem lenL {a : Option Addr} {len cap : Nat} {e : TypeId} [ht : TSlice P t e] (h : LS P q ops f R k rest n (upd fr d (.int .i64 len)) w0 M σ K) (hx : ev n fr x = .slice a len cap := by rfl) :
    LS P q ops f R k (⟨some d, .call ⟨.builtin .len, #[x], #[t]⟩, ty, pos, aft, none⟩ :: rest) n fr w0 M σ K :=
  LS.val rfl rfl (fun w _ => by simp [execOp, resolve, invoke, builtin, hx, Builtin.len_, run_underlying ht.eq, goInt]) h
theorem rngS {s : ByteArray} [ht : TStr P t] (h : ∀ b, LS P false ops f R k rest n (upd fr d (.pointer (some ⟨b, 0, none⟩))) w0 M σ (blk b (.stringIter s 0) :: K)) (hx : ev n fr x = .string s := by rfl) :
    LS P false ops f R k (⟨some d, .range t x, ty, pos, aft, none⟩ :: rest) n fr w0 M σ K :=
  LS.valW rfl rfl fun w hw => by
    refine ⟨_, _, _, _, ?_, hw.alloc (.stringIter s 0), h _⟩
    simp [execOp, hx, run_range_string _ _ _ ht.eq]; rfl
theorem nxtS {b pos' : Nat} {s : ByteArray} {put : HP → List HP} {K' : List HP} {it : Operand} (hp : pos' < s.size)
    (h : LS P false ops f R k rest n (upd fr d (.tuple (List.toArray [.bool true, .int .i64 pos', .int .i32 ((Utf8.decode s pos').1 : Int)]))) w0 M σ (put (blk b (.stringIter s (pos' + (Utf8.decode s pos').2)))))
    (hx : ev n fr it = .pointer (some ⟨b, 0, none⟩) := by rfl) (hf : FindB b K (.stringIter s pos') put K' := by infer_instance) :
    LS P false ops f R k (⟨some d, .next it true, ty, pos, aft, none⟩ :: rest) n fr w0 M σ K :=
  LS.valW rfl rfl fun w hw => by
    have hb := hw.get (i := hf)
    refine ⟨_, _, _, _, ?_, hw.put (i := hf) _, h⟩
    simp only [execOp, hx, Instr.next, getObj, setObj, Sem.run_bind, Sem.run, hb, Result.andThen_ok, hp, if_true]
    cases e : Utf8.decode s pos' with
    | mk c wd => simp [goInt]
theorem nxtSEnd {b pos' : Nat} {s : ByteArray} {put : HP → List HP} {K' : List HP} {it : Operand} (hp : ¬ pos' < s.size)
    (h : LS P q ops f R k rest n (upd fr d (.tuple (List.toArray [.bool false]))) w0 M σ K) (hx : ev n fr it = .pointer (some ⟨b, 0, none⟩) := by rfl) (hf : FindB b K (.stringIter s pos') put K' := by infer_instance) :
    LS P q ops f R k (⟨some d, .next it true, ty, pos, aft, none⟩ :: rest) n fr w0 M σ K :=
  LS.val rfl rfl (fun w hw => by
    have hb := hw.get (i := hf)
    simp [execOp, hx, Instr.next, getObj, Sem.run, hb, hp]) h
def callable (P : Program) (g : FuncId) : Bool :=
  match P.funcs[g]? with
  | some fn => fn.name != "runtime.NumGoroutine" && fn.body.isSome
  | none => false
class Fun (P : Program) (g : FuncId) : Prop where eq : callable P g = true
theorem run_callFunc {g : FuncId} (h : callable P g = true) (args : Array Value) (w : World) : (callFunc g args).run P w = .ok (.enter g args) w := by
  unfold callable at h
  cases hf : P.funcs[g]? with
  | none => simp [hf] at h
  | some fn =>
    simp only [hf, Bool.and_eq_true, bne_iff_ne, ne_eq] at h
    obtain ⟨h1, h2⟩ := h
    cases hb : fn.body with
    | none => simp [hb] at h2
    | some c => simp [callFunc, hf, h1, hb]
theorem exec_call {g : FuncId} {xs : Array Operand} {ts : Array TypeId} {args : List Value} {dd : Option Tmp} {gd : Option (Nat × Bool)} (h : callable P g = true) (hx : xs.toList.map (ev n fr) = args) (w : World) :
    (execOp (ev n fr) ⟨dd, .call ⟨.value (.func g), xs, ts⟩, ty, pos, aft, gd⟩).run P w = .ok (.enter g args.toArray) w := by
  have e : xs.map (ev n fr) = args.toArray := by rw [← hx]; cases xs; simp
  simp [execOp, resolve, ev, Deferred.ofValue, invoke, run_callFunc h, e]
theorem callP {g : FuncId} {xs : Array Operand} {ts : Array TypeId} {args : List Value} {v : Value} [i : Fun P g]
    (h : LS P q ops f R k rest n (upd fr d v) w0 M σ K) (hx : xs.toList.map (ev n fr) = args := by rfl)
    (hc : ∀ w, Sat w0 M σ K w → Calls P g args.toArray w fun e w' => e = .returned v ∧ RowKit.Below w.heap.size w w') :
    LS P q ops f R k (⟨some d, .call ⟨.value (.func g), xs, ts⟩, ty, pos, aft, none⟩ :: rest) n fr w0 M σ K :=
  LS.enterP rfl rfl (fun w _ => exec_call i.eq hx w) (fun w hw => (hc w hw).mono fun _ _ ⟨he, hb⟩ => ⟨he, hw.ext hb⟩) h
theorem callN {g : FuncId} {xs : Array Operand} {ts : Array TypeId} {args : List Value} {Q : Value → PH → PH → Prop} [i : Fun P g]
    (h : ∀ v τ σ', Q v τ σ' → PH.le σ σ' → PH.le τ σ' → LS P false ops f R k rest n (upd fr d v) w0 M σ' K) (hx : xs.toList.map (ev n fr) = args := by rfl)
    (hc : ∀ w, Sat w0 M σ K w → Calls P g args.toArray w fun e w' => ∃ v, e = .returned v ∧ RowKit.Below w.heap.size w w' ∧ Q v (since w w') (grow σ w w')) :
    LS P false ops f R k (⟨some d, .call ⟨.value (.func g), xs, ts⟩, ty, pos, aft, none⟩ :: rest) n fr w0 M σ K :=
  LS.enterW rfl rfl (fun w _ => exec_call i.eq hx w) fun w hw => (hc w hw).mono fun _ _ ⟨v, he, hb, hq⟩ => ⟨v, _, K, he, hw.grow hb, h v _ _ hq (grow_le hw) (since_le _ _ _)⟩

end
end Go.JW
namespace Go.JW

def hv (lo hi : Nat) (g fr : Nat → Value) : Nat → Value := fun k => bif Nat.ble lo k && Nat.blt k hi then g k else fr k
structure Out (lo hi : Nat) (fr' fr : Nat → Value) : Prop where
  out : ∀ k, (Nat.ble lo k && Nat.blt k hi) = false → fr' k = fr k
theorem Out.refl (lo hi : Nat) (fr : Nat → Value) : Out lo hi fr fr := ⟨fun _ _ => rfl⟩
theorem Out.hv {lo hi : Nat} {g fr : Nat → Value} : Out lo hi (hv lo hi g fr) fr := ⟨fun k hk => by simp [JW.hv, hk]⟩
theorem Out.upd {lo hi d : Nat} {v : Value} {fr' fr : Nat → Value} (h : Out lo hi fr' fr) (hd : (Nat.ble lo d && Nat.blt d hi) = true := by rfl) : Out lo hi (upd fr' d v) fr :=
  ⟨fun k hk => by
    have : Nat.beq k d = false := by
      rw [Bool.eq_false_iff]; intro hb
      rw [Nat.eq_of_beq_eq_true hb, hd] at hk; cases hk
    simp [JW.upd, this, h.out k hk]⟩
theorem Out.hvIn {lo hi lo' hi' : Nat} {g X fr : Nat → Value} (h : Out lo hi X fr) (h1 : Nat.ble lo lo' = true := by rfl) (h2 : Nat.ble hi' hi = true := by rfl) : Out lo hi (JW.hv lo' hi' g X) fr :=
  ⟨fun k hk => by
    have e : (Nat.ble lo' k && Nat.blt k hi') = false := by
      have a1 := Nat.le_of_ble_eq_true h1
      have a2 := Nat.le_of_ble_eq_true h2
      rw [Bool.eq_false_iff]
      intro hb
      rw [Bool.and_eq_true, Nat.ble_eq, Nat.blt_eq] at hb
      have : (Nat.ble lo k && Nat.blt k hi) = true := by rw [Bool.and_eq_true, Nat.ble_eq, Nat.blt_eq]; omega
      rw [this] at hk; cases hk
    simp only [JW.hv, e, cond_false]; exact h.out k hk⟩
def upds : List (Nat × Value) → (Nat → Value) → (Nat → Value)
  | [], f => f
  | (d, v) :: l, f => upd (upds l f) d v
def Live (fr : Nat → Value) : List (Nat × Value) → Prop
  | [] => True
  | (d, v) :: l => fr d = v ∧ Live fr l
theorem Live.upds {fr : Nat → Value} : ∀ {l : List (Nat × Value)}, Live fr l → upds l fr = fr := by
  intro l
  induction l with
  | nil => intro _; rfl
  | cons p l ih => obtain ⟨d, v⟩ := p; rintro ⟨h1, h2⟩; simp only [JW.upds, ih h2]; exact upd_same h1
theorem Out.eq {lo hi : Nat} {fr' fr : Nat → Value} (h : Out lo hi fr' fr) : JW.hv lo hi fr' fr = fr' := by
  funext k
  simp only [JW.hv]
  cases e : (Nat.ble lo k && Nat.blt k hi) with
  | true => simp
  | false => simp [h.out k e]

theorem wrapEq {x : Int} (h1 : -9223372036854775808 ≤ x) (h2 : x ≤ 9223372036854775807) : IntKind.i64.wrap x = x := IntWalk.i64_in _ ⟨h1, h2⟩
theorem intV {k : IntKind} {x y : Int} (e : x = y) : Value.int k x = .int k y := by rw [e]
theorem retI {k : IntKind} {x y : Int} (e : x = y) : Ending.returned (.int k x) = .returned (.int k y) := by rw [e]
theorem retB {x y : Bool} (e : x = y) : Ending.returned (.bool x) = .returned (.bool y) := by rw [e]
class Take (A : HP) (K : List HP) (K' : outParam (List HP)) : Prop where
  get : ∀ {g : VH} {F : Nat → Prop}, SepIn g K F → SepIn g (A :: K') F
instance Take.tail {A B : HP} {K K' : List HP} [i : Take A K K'] : Take A (B :: K) (B :: K') where
  get h := SepIn.swap (SepIn.cons_sub (fun _ => i.get) h)
instance Take.head {A : HP} {K : List HP} : Take A (A :: K) K where
  get h := h
class Less (K K' : List HP) : Prop where
  get : ∀ {g : VH} {F : Nat → Prop}, SepIn g K F → SepIn g K' F
instance Less.nil {K : List HP} : Less K [] where
  get _ := trivial
instance Less.cons {A : HP} {K K1 K' : List HP} [i : Take A K K1] [j : Less K1 K'] : Less K (A :: K') where
  get h := SepIn.cons_sub (fun _ => j.get) (i.get h)
section
variable {P : Program} {q : Bool} {ops : Array Oper} {f : FuncId} {R : Ending → World → Prop} {k : List Item} {n : Nat} {fr : Nat → Value} {w0 : World} {M : Nat → Prop} {σ : PH} {K K' : List HP}
theorem RS.to (h : RS P f R k n fr w0 M σ K') (i : Less K K' := by infer_instance) : RS P f R k n fr w0 M σ K := ⟨fun w hw => h.out w (hw.weak fun _ => i.get)⟩
theorem LS.to {l : List Oper} (h : LS P false ops f R k l n fr w0 M σ K') (i : Less K K' := by infer_instance) : LS P false ops f R k l n fr w0 M σ K := ⟨fun w hw => h.out w (hw.weak fun _ => i.get)⟩
theorem Sat.to {w : World} (h : Sat w0 M σ K w) (i : Less K K' := by infer_instance) : Sat w0 M σ K' w := h.weak fun _ => i.get
theorem RS.loopF {X : Type} (lo hi : Nat) (I : X → Prop) (live : X → List (Nat × Value)) (σx : X → PH) (Kx : X → List HP) (μ : X → Nat) {c : Code} (x0 : X) (h0 : I x0) (hl : Live fr (live x0)) (hσ : σ = σx x0) (hK : Less K (Kx x0))
    (round : ∀ x g, I x → (∀ {fr' σ' K'} y, I y → μ y < μ x → Live fr' (live y) → Out lo hi fr' fr → Less K' (Kx y) → σ' = σx y → RS P f R (.inLoop c :: k) n fr' w0 M σ' K') →
      RS P f R (.code c :: .inLoop c :: k) n (upds (live x) (hv lo hi g fr)) w0 M (σx x) (Kx x)) :
    RS P f R (.code (.loop c) :: k) n fr w0 M σ K := by
  refine RS.to (K' := Kx x0) ?_ hK
  refine RS.loop (X := X × (Nat → Value)) (fun x => I x.1) (fun x => upds (live x.1) (hv lo hi x.2 fr)) (fun x => σx x.1) (fun x => Kx x.1) (fun x => μ x.1) (x0, fr) h0 ?_ hσ rfl ?_
  · simp only [(Out.refl lo hi fr).eq, hl.upds]
  · rintro ⟨x, g⟩ hI ih
    refine round x g hI fun {fr' _ _} y hy hlt hl' ho hk hs => RS.to ?_ hk
    subst hs
    have := ih (y, fr') hy hlt
    simpa only [ho.eq, hl'.upds] using this
theorem LS.cut {l : List Oper} (lo hi : Nat) (live : List (Nat × Value)) (hk : ∀ g, RS P f R k n (upds live (hv lo hi g fr)) w0 M σ K)
    (h : (∀ {fr'}, Live fr' live → Out lo hi fr' fr → RS P f R k n fr' w0 M σ K) → LS P q ops f R k l n fr w0 M σ K) : LS P q ops f R k l n fr w0 M σ K :=
  h fun {fr'} hl ho => by have := hk fr'; rwa [ho.eq, hl.upds] at this
theorem RS.cut {X : Type} {c : Item} (lo hi : Nat) (I : X → Prop) (live : X → List (Nat × Value)) (σx : X → PH) (Kx : X → List HP) (hk : ∀ x g, I x → RS P f R k n (upds (live x) (hv lo hi g fr)) w0 M (σx x) (Kx x))
    (h : (∀ {fr' σ' K'} x, I x → Live fr' (live x) → Out lo hi fr' fr → Less K' (Kx x) → σ' = σx x → RS P f R k n fr' w0 M σ' K') → RS P f R (c :: k) n fr w0 M σ K) : RS P f R (c :: k) n fr w0 M σ K :=
  h fun {fr' _ _} x hI hl ho hK hs => RS.to (by subst hs; have := hk x fr' hI; rwa [ho.eq, hl.upds] at this) hK
variable {rest : List Oper} {d : Nat} {ty : TypeId} {pos : String} {aft : Array Edge} {x y z : Operand} {t t' : TypeId}
theorem addN {a b : Int} (h : LS P q ops f R k rest n (upd fr d (.int .i64 (a + b))) w0 M σ K) (hx : ev n fr x = .int .i64 a := by rfl) (hy : ev n fr y = .int .i64 b := by rfl) (h1 : -9223372036854775808 ≤ a + b := by omega) (h2 : a + b ≤ 9223372036854775807 := by omega) :
    LS P q ops f R k (⟨some d, .binOp .add t x y t', ty, pos, aft, none⟩ :: rest) n fr w0 M σ K := addI (by rw [wrapEq h1 h2]; exact h) hx hy
theorem subN {a b : Int} (h : LS P q ops f R k rest n (upd fr d (.int .i64 (a - b))) w0 M σ K) (hx : ev n fr x = .int .i64 a := by rfl) (hy : ev n fr y = .int .i64 b := by rfl) (h1 : -9223372036854775808 ≤ a - b := by omega) (h2 : a - b ≤ 9223372036854775807 := by omega) :
    LS P q ops f R k (⟨some d, .binOp .sub t x y t', ty, pos, aft, none⟩ :: rest) n fr w0 M σ K := subI (by rw [wrapEq h1 h2]; exact h) hx hy
theorem boolV {a b : Bool} (h : a = b) : Value.bool a = .bool b := by rw [h]
end
end Go.JW
namespace Go.JW

def PH.cell (σ : PH) (b off : Nat) : Option Value :=
  match σ b with
  | some (.cells c _ _) => c[off]?
  | _ => none
theorem PH.cell_mono {σ σ' : PH} (h : PH.le σ σ') {b off : Nat} {v : Value} (hc : σ.cell b off = some v) : σ'.cell b off = some v := by
  unfold PH.cell at *
  cases e : σ b with
  | none => simp [e] at hc
  | some o => rw [h b o e]; simpa [e] using hc
theorem PH.cell_world {w : World} {b off : Nat} : (hp w).cell b off = w.cell? ⟨b, off, none⟩ := by
  simp only [PH.cell, hp, World.cell?]
  cases w.heap[b]? with
  | none => rfl
  | some o => cases o <;> simp
theorem PH.cells_mono {σ σ' : PH} (h : PH.le σ σ') {b off n : Nat} {vs : List Value} (hl : vs.length = n) (hc : ∀ j, j < n → σ.cell b (off + j) = vs[j]?) : ∀ j, j < n → σ'.cell b (off + j) = vs[j]? := by
  intro j hj
  have h1 := hc j hj
  rw [List.getElem?_eq_getElem (by omega)] at h1 ⊢
  exact PH.cell_mono h h1

class Rep (α : Type) where
  sz : Nat
  rep : PH → List Value → α → Prop
  len : ∀ {σ : PH} {cs : List Value} {a : α}, rep σ cs a → cs.length = sz
  one : ∀ {σ : PH} {cs : List Value} {a : α}, rep σ cs a → cs.all (·.oneCell') = true
  mono : ∀ {σ σ' : PH} {cs : List Value} {a : α}, rep σ cs a → PH.le σ σ' → rep σ' cs a
abbrev I64 (n : Int) : Prop := -9223372036854775808 ≤ n ∧ n ≤ 9223372036854775807
instance : Rep Int where
  sz := 1
  rep _ cs n := cs = [.int .i64 n] ∧ I64 n
  len h := by rw [h.1]; rfl
  one h := by rw [h.1]; rfl
  mono h _ := h
instance : Rep Bool where
  sz := 1
  rep _ cs n := cs = [.bool n]
  len h := by rw [h]; rfl
  one h := by rw [h]; rfl
  mono h _ := h
instance : Rep ByteArray where
  sz := 1
  rep _ cs s := cs = [.string s] ∧ s.size ≤ 140737488355328
  len h := by rw [h.1]; rfl
  one h := by rw [h.1]; rfl
  mono h _ := h
def RowAt {α : Type} [Rep α] (σ : PH) (b o : Nat) (l : List α) : Prop :=
  ∀ i (h : i < l.length), ∃ vs, (∀ j, j < Rep.sz α → σ.cell b (o + i * Rep.sz α + j) = vs[j]?) ∧ Rep.rep σ vs l[i]
def RepL {α : Type} [Rep α] (σ : PH) (v : Value) (l : List α) : Prop :=
  l.length ≤ 140737488355328 ∧ ∃ a cap, v = .slice a l.length cap ∧ l.length ≤ cap ∧ (l ≠ [] → ∃ b o, a = some ⟨b, o, none⟩ ∧ RowAt σ b o l)
theorem RowAt.mono {α : Type} [Rep α] {σ σ' : PH} {b o : Nat} {l : List α} (h : RowAt σ b o l) (hs : PH.le σ σ') : RowAt σ' b o l := by
  intro i hi
  obtain ⟨vs, h1, h2⟩ := h i hi
  exact ⟨vs, PH.cells_mono hs (Rep.len h2) h1, Rep.mono h2 hs⟩
theorem RepL.mono {α : Type} [Rep α] {σ σ' : PH} {v : Value} {l : List α} (h : RepL σ v l) (hs : PH.le σ σ') : RepL σ' v l := by
  obtain ⟨h0, a, cap, h1, h2, h3⟩ := h
  exact ⟨h0, a, cap, h1, h2, fun hn => let ⟨b, o, e, r⟩ := h3 hn; ⟨b, o, e, r.mono hs⟩⟩
instance {α : Type} [Rep α] : Rep (List α) where
  sz := 1
  rep σ cs l := ∃ v, cs = [v] ∧ RepL σ v l
  len h := by obtain ⟨v, rfl, _⟩ := h; rfl
  one h := by obtain ⟨v, rfl, _, a, cap, rfl, _⟩ := h; rfl
  mono h hs := let ⟨v, e, r⟩ := h; ⟨v, e, r.mono hs⟩
theorem RepL.nil {α : Type} [Rep α] (σ : PH) (a : Option Addr) (cap : Nat) : RepL σ (.slice a 0 cap) ([] : List α) := ⟨by simp, a, cap, rfl, by simp, fun h => absurd rfl h⟩
theorem RepL.form {α : Type} [Rep α] {σ : PH} {v : Value} {l : List α} (h : RepL σ v l) : ∃ a cap, v = .slice a l.length cap := let ⟨_, a, cap, e, _⟩ := h; ⟨a, cap, e⟩
theorem RepL.addr {α : Type} [Rep α] {σ : PH} {a : Option Addr} {n cap : Nat} {l : List α} (h : RepL σ (.slice a n cap) l) (hn : l ≠ []) : ∃ b o, a = some ⟨b, o, none⟩ ∧ RowAt σ b o l := by
  obtain ⟨_, a', cap', e, _, r⟩ := h
  injection e with e1 e2 e3
  subst e1; exact r hn
theorem RepL.len {α : Type} [Rep α] {σ : PH} {a : Option Addr} {n cap : Nat} {l : List α} (h : RepL σ (.slice a n cap) l) : n = l.length := by
  obtain ⟨_, a', cap', e, _, r⟩ := h
  injection e
theorem RepL.cap {α : Type} [Rep α] {σ : PH} {a : Option Addr} {n cap : Nat} {l : List α} (h : RepL σ (.slice a n cap) l) : l.length ≤ cap := by
  obtain ⟨_, a', cap', e, hc, r⟩ := h
  injection e with e1 e2 e3; subst e3; exact hc
theorem RowAt.str {σ : PH} {b o : Nat} {l : List ByteArray} (h : RowAt σ b o l) (i : Nat) (hi : i < l.length) : σ.cell b (o + i * 1) = some (.string l[i]) ∧ l[i].size ≤ 140737488355328 := by
  obtain ⟨vs, h1, h2, h3⟩ := h i hi
  have := h1 0 (by show 0 < 1; omega)
  rw [h2] at this
  exact ⟨this, h3⟩
theorem RowAt.int {σ : PH} {b o : Nat} {l : List Int} (h : RowAt σ b o l) (i : Nat) (hi : i < l.length) : σ.cell b (o + i * 1) = some (.int .i64 l[i]) ∧ I64 l[i] := by
  obtain ⟨vs, h1, h2, h3⟩ := h i hi
  have := h1 0 (by show 0 < 1; omega)
  rw [h2] at this
  exact ⟨this, h3⟩

section
variable {P : Program} {q : Bool} {ops : Array Oper} {f : FuncId} {R : Ending → World → Prop} {k : List Item} {n : Nat} {fr : Nat → Value} {w0 : World} {M : Nat → Prop} {σ : PH} {K : List HP}
variable {rest : List Oper} {d : Nat} {ty : TypeId} {pos : String} {aft : Array Edge} {x y z : Operand} {t t' : TypeId}
theorem Sat.cell {w : World} (hw : Sat w0 M σ K w) {b off : Nat} {v : Value} (h : σ.cell b off = some v) : w.cell? ⟨b, off, none⟩ = some v := by
  rw [← PH.cell_world]; exact PH.cell_mono hw.imm h
theorem ldS {b off : Nat} {v : Value} [ht : TOne P t] (hc : σ.cell b off = some v) (h : LS P q ops f R k rest n (upd fr d v) w0 M σ K) (hx : ev n fr x = .pointer (some ⟨b, off, none⟩) := by rfl) :
    LS P q ops f R k (⟨some d, .load t x, ty, pos, aft, none⟩ :: rest) n fr w0 M σ K :=
  LS.val rfl rfl (fun w hw => by
    have := run_loadVar1 (P := P) (w := w) (b := b) ht.agg off (hw.cell hc)
    simp [execOp, hx, Instr.loadAt, Instr.sureAddr, this]) h
theorem ldSA {b off s : Nat} {vs : List Value} [ht : TAgg P t] [hs : TSz P t s] (hl : vs.length = s) (hc : ∀ j, j < s → σ.cell b (off + j) = vs[j]?) (h : LS P q ops f R k rest n (upd fr d (.agg vs.toArray)) w0 M σ K) (hx : ev n fr x = .pointer (some ⟨b, off, none⟩) := by rfl) :
    LS P q ops f R k (⟨some d, .load t x, ty, pos, aft, none⟩ :: rest) n fr w0 M σ K :=
  LS.val rfl rfl (fun w hw => by
    have := run_loadVarA (P := P) (w := w) (b := b) ht.agg hs.eq off hl (fun j hj => by
      have h1 := hc j hj
      rw [List.getElem?_eq_getElem (by omega)] at h1 ⊢
      exact hw.cell h1)
    simp [execOp, hx, Instr.loadAt, Instr.sureAddr, this]) h
end
end Go.JW
namespace Go.JW

abbrev Us := Nat → Value
abbrev HS := List (Nat × (Value → PH → Prop))
inductive Info where
  | free (v : Value)
  | ex (v : Value)
  | exc (v : Value)
  | gr (T : Value → PH → Prop)
  | own (obj : Obj)
  | eff (T : Value → PH → Prop) (Kf : Us → List HP)
  | st (Kf : Us → List HP)
inductive Tag where
  | free | ex | own | eff | st
  | g (s : Nat) (b : Option Bool)
def Info.tag : Info → Tag
  | .free _ => .free
  | .ex _ | .exc _ | .gr _ => .ex
  | .own _ => .own
  | .eff .. => .eff
  | .st _ => .st
def Tag.isMut : Tag → Bool
  | .eff | .st => true
  | _ => false
def Tag.isFree : Tag → Bool
  | .free => true
  | _ => false
def Tag.isSt : Tag → Bool
  | .st => true
  | _ => false
def Info.isMut (i : Info) : Bool := i.tag.isMut
def Info.isFree (i : Info) : Bool := i.tag.isFree
def Info.isSt (i : Info) : Bool := i.tag.isSt
def fill (fr : Us) : HS → Us → Us
  | [], _ => fr
  | (s, _) :: H, us => upd (fill fr H us) s (us s)
def resE (E : List Nat) (us : Us) : Us := fun s => bif E.elem s then us s else undef
def ownHP (v : Value) (obj : Obj) : HP := ⟨fun g F => ∃ b, v = .pointer (some ⟨b, 0, none⟩) ∧ F b ∧ g.cur b = some obj, fun ⟨b, h1, h2, h3⟩ hg _ => ⟨b, h1, h2, by rw [hg _ h2]; exact h3⟩⟩
def ownsL (O : List (Nat × Obj)) (us : Us) : List HP := O.map fun p => ownHP (us p.1) p.2
def groupHP (K : List HP) : HP := ⟨fun g F => SepIn g K F, fun h hg hi => h.loc hg hi⟩
structure Stg where
  fr : Us
  H : HS
  O : List (Nat × Obj)
  Kf : Us → List HP
  E : List Nat
  sg : Bool
def Stg.slots (s : Stg) : List Nat := s.H.map (·.1)
def dstOf (o : Oper) : Nat := o.dst.getD 0
def readsTmp (o : Oper) : List Nat := o.op.operands.toList.filterMap fun | .tmp t => some t | _ => none
def Stg.seen (s : Stg) (o : Oper) : List Nat := (readsTmp o).filter (fun x => s.slots.elem x)
def Stg.next (s : Stg) (o : Oper) : Info → Stg
  | .free v | .ex v | .exc v => { s with fr := upd s.fr (dstOf o) v }
  | .gr T => { s with H := (dstOf o, T) :: s.H }
  | .own obj => { s with H := (dstOf o, fun _ _ => True) :: s.H, O := (dstOf o, obj) :: s.O }
  | .eff T Kf => { s with H := (dstOf o, T) :: s.H, Kf := fun us => Kf (resE (dstOf o :: (s.seen o ++ s.E)) us), E := dstOf o :: (s.seen o ++ s.E) }
  | .st Kf => { s with Kf := fun us => Kf (resE (s.O.map (·.1) ++ (s.seen o ++ s.E)) us), E := s.O.map (·.1) ++ (s.seen o ++ s.E), O := [], sg := true }
def StepsTo (P : Program) (ρ : Operand → Value) (o : Oper) (w : World) (Rel : Value → World → Prop) : Prop :=
  (∃ v w', (execOp ρ o).run P w = .ok (.value v) w' ∧ Rel v w') ∨ (∃ g args, (execOp ρ o).run P w = .ok (.enter g args) w ∧ Calls P g args w fun e w' => ∃ v, e = .returned v ∧ Rel v w')
def MonoT (T : Value → PH → Prop) : Prop := ∀ v σ σ', T v σ → PH.le σ σ' → T v σ'
section
variable (P : Program) (f : FuncId) (R : Ending → World → Prop) (k : List Item) (n : Nat) (w0 : World) (M : Nat → Prop) (σ : PH) (Kb : List HP)
def Ob (s : Stg) (o : Oper) (inf : Info) : Prop := o.guard = none ∧
  match inf with
  | .free v => o.dst.isSome = true ∧ ∀ us σ' w, PH.le σ σ' → PH.le σ' (hp w) → (∀ p ∈ s.H, p.1 ∈ readsTmp o → p.2 (us p.1) σ') → (execOp (ev n (fill s.fr s.H us)) o).run P w = .ok (.value v) w
  | .ex v => s.sg = false ∧ o.dst.isSome = true ∧ ∀ us σ' w, PH.le σ σ' → (∀ p ∈ s.H, p.1 ∈ readsTmp o → p.2 (us p.1) σ') → Sat w0 M σ' Kb w → (execOp (ev n (fill s.fr s.H us)) o).run P w = .ok (.value v) w
  | .exc v => s.sg = false ∧ o.dst.isSome = true ∧ ∀ us σ' w, PH.le σ σ' → (∀ p ∈ s.H, p.1 ∈ readsTmp o → p.2 (us p.1) σ') → Sat w0 M σ' Kb w →
      StepsTo P (ev n (fill s.fr s.H us)) o w fun u w' => RowKit.Below w.heap.size w w' ∧ u = v
  | .gr T => s.sg = false ∧ o.dst.isSome = true ∧ MonoT T ∧ ∀ us σ' w, PH.le σ σ' → (∀ p ∈ s.H, p.1 ∈ readsTmp o → p.2 (us p.1) σ') → Sat w0 M σ' Kb w →
      StepsTo P (ev n (fill s.fr s.H us)) o w fun u w' => RowKit.Below w.heap.size w w' ∧ T u (grow σ' w w')
  | .own obj => s.sg = false ∧ o.dst.isSome = true ∧ ∀ us w, (execOp (ev n (fill s.fr s.H us)) o).run P w = .ok (.value (.pointer (some ⟨w.heap.size, 0, none⟩))) (w.alloc obj)
  | .eff T Kf => s.sg = false ∧ o.dst.isSome = true ∧ MonoT T ∧ (∀ us, Less (Kf us) Kb) ∧ ∀ us σ' w X, PH.le σ σ' → (∀ p ∈ s.H, p.1 ∈ readsTmp o → p.2 (us p.1) σ') → Sat w0 M σ' (X :: s.Kf us) w →
      StepsTo P (ev n (fill s.fr s.H us)) o w fun u w' => ∃ σ'', PH.le σ' σ'' ∧ Sat w0 M σ'' (X :: Kf (upd us (dstOf o) u)) w' ∧ T u σ''
  | .st Kf => o.dst = none ∧ ∀ us σ' w, PH.le σ σ' → (∀ p ∈ s.H, p.1 ∈ readsTmp o → p.2 (us p.1) σ') → Sat w0 M σ' (ownsL s.O us ++ s.Kf us) w →
      ∃ w', ((execOp (ev n (fill s.fr s.H us)) o).run P w = .ok .skip w' ∨ ∃ v, (execOp (ev n (fill s.fr s.H us)) o).run P w = .ok (.value v) w') ∧ Sat w0 M σ' (Kf us) w'
def LDp : List (Oper × Info) → Stg → Prop
  | [], s => ∀ us σ', PH.le σ σ' → (∀ p ∈ s.H, p.2 (us p.1) σ') → RS P f R k n (fill s.fr s.H us) w0 M σ' (ownsL s.O us ++ s.Kf us)
  | (o, inf) :: l, s => Ob P n w0 M σ Kb s o inf ∧ LDp l (s.next o inf)
end
def stAt : List (Oper × Info) → Stg → Nat → Stg
  | _, s, 0 => s
  | [], s, _ + 1 => s
  | (o, inf) :: l, s, i + 1 => stAt l (s.next o inf) i
theorem stAt_succ : ∀ (l : List (Oper × Info)) (s : Stg) (i : Nat) (o : Oper) (inf : Info), l[i]? = some (o, inf) → stAt l s (i + 1) = (stAt l s i).next o inf := by
  intro l
  induction l with
  | nil => intro s i o inf h; simp at h
  | cons p l ih =>
    obtain ⟨o', inf'⟩ := p
    intro s i o inf h
    cases i with
    | zero => simp at h; obtain ⟨rfl, rfl⟩ := h; cases l <;> rfl
    | succ i => simp at h; exact ih _ _ _ _ h

def edgeTo (o : Oper) : List Nat := o.after.toList.filterMap fun e => if Region.binds .any e then some e.on else none
def orAll (acc : List Nat) : List Nat → Nat
  | [] => 0
  | e :: es => (2 ^ e ||| acc.getD e 0) ||| orAll acc es
def closL : List Oper → List Nat → List Nat
  | [], acc => acc
  | o :: l, acc => closL l (acc ++ [orAll acc (edgeTo o)])
def DownCl (l : List Oper) (L : Nat → Bool) : Prop := ∀ j o, l[j]? = some o → L j = true → ∀ e ∈ edgeTo o, L e = true
theorem orAll_bit {acc : List Nat} {i : Nat} : ∀ {es : List Nat}, (orAll acc es).testBit i = true → i ∈ es ∨ ∃ e ∈ es, (acc.getD e 0).testBit i = true := by
  intro es
  induction es with
  | nil => intro h; simp [orAll] at h
  | cons e es ih =>
    intro h
    simp only [orAll, Nat.testBit_or, Bool.or_eq_true, Nat.testBit_two_pow] at h
    rcases h with (h | h) | h
    · simp at h; exact .inl (by simp [h])
    · exact .inr ⟨e, by simp, h⟩
    · rcases ih h with h | ⟨e', h1, h2⟩
      · exact .inl (by simp [h])
      · exact .inr ⟨e', by simp [h1], h2⟩
theorem closL_sound (full : List Oper) (L : Nat → Bool) (hL : DownCl full L) : ∀ (l : List Oper) (acc : List Nat), (∀ j, l[j]? = full[acc.length + j]?) →
    (∀ j o, j < acc.length → full[j]? = some o → (∀ e ∈ edgeTo o, L e = true) → ∀ i, (acc.getD j 0).testBit i = true → L i = true) →
    ∀ j o, full[j]? = some o → (∀ e ∈ edgeTo o, L e = true) → ∀ i, ((closL l acc).getD j 0).testBit i = true → L i = true := by
  intro l
  induction l with
  | nil =>
    intro acc hl hacc j o hj he i hi
    simp only [closL] at hi
    rcases Nat.lt_or_ge j acc.length with h | h
    · exact hacc j o h hj he i hi
    · have := hl (j - acc.length)
      rw [show acc.length + (j - acc.length) = j by omega, hj] at this
      simp at this
  | cons o l ih =>
    intro acc hl hacc
    refine ih (acc ++ [orAll acc (edgeTo o)]) (fun j => ?_) ?_
    · have := hl (j + 1)
      simp only [List.length_append, List.length_cons, List.length_nil]
      rw [show acc.length + (0 + 1) + j = acc.length + (j + 1) by omega, ← this]; simp
    · intro j oj hj hoj he i hi
      simp only [List.length_append, List.length_cons, List.length_nil] at hj
      by_cases h : j < acc.length
      · rw [List.getD_eq_getElem?_getD, List.getElem?_append_left h, ← List.getD_eq_getElem?_getD] at hi
        exact hacc j oj h hoj he i hi
      · obtain rfl : j = acc.length := by omega
        have h0 := hl 0
        simp only [Nat.add_zero] at h0
        rw [hoj] at h0
        simp at h0
        subst h0
        rw [List.getD_eq_getElem?_getD, List.getElem?_append_right (by omega)] at hi
        simp at hi
        rcases orAll_bit hi with h1 | ⟨e, h1, h2⟩
        · exact he i h1
        · have hle := he e h1
          rcases Nat.lt_or_ge e acc.length with h3 | h3
          · have : ∃ oe, full[e]? = some oe := by
              rcases Nat.lt_or_ge e full.length with h4 | h4
              · exact ⟨_, List.getElem?_eq_getElem h4⟩
              · exfalso
                have h5 : full.length > acc.length := (List.getElem?_eq_some_iff.1 hoj).1
                omega
            obtain ⟨oe, hoe⟩ := this
            exact hacc e oe h3 hoe (hL e oe hoe hle) i h2
          · rw [List.getD_eq_getElem?_getD, List.getElem?_eq_none h3] at h2; simp at h2
def pairsOk (clos : List Nat) (l : List (Oper × Tag)) : List (Oper × Tag) → Nat → Bool
  | [], _ => true
  | (oj, fj) :: r, j =>
    (l.take j).zipIdx.all (fun p =>
      let oi := p.1.1; let fi := p.1.2; let i := p.2
      let before := (clos.getD j 0).testBit i
      (match oi.dst with
        | some d => (!(readsTmp oj).elem d || before) && (oj.dst != some d)
        | none => true) &&
      (match oj.dst with
        | some d => !(readsTmp oi).elem d || before
        | none => true) &&
      (!(fj.isMut && fi.isMut) || before) &&
      (!(fj.isSt && !fi.isFree) || before)) &&
    pairsOk clos l r (j + 1)
def drawOkT (ops : List Oper) (tags : List Tag) : Bool :=
  Region.noSelect ops.toArray && pairsOk (closL ops []) (ops.zip tags) (ops.zip tags) 0 && (ops.zipIdx.all (fun p => (edgeTo p.1).all fun e => decide (e < p.2)) && decide (ops.length = tags.length))
def drawOk (l : List (Oper × Info)) : Bool := drawOkT (l.map (·.1)) (l.map (·.2.tag))
structure PairOk (bef : Bool) (oi : Oper) (fi : Tag) (oj : Oper) (fj : Tag) : Prop where
  reads : ∀ d, oi.dst = some d → d ∈ readsTmp oj → bef = true
  ne : ∀ d, oi.dst = some d → oj.dst ≠ some d
  anti : ∀ d, oj.dst = some d → d ∈ readsTmp oi → bef = true
  chain : fj.isMut = true → fi.isMut = true → bef = true
  st : fj.isSt = true → fi.isFree = false → bef = true
theorem pairsOk_spec (clos : List Nat) (l : List (Oper × Tag)) : ∀ (r : List (Oper × Tag)) (k : Nat), (∀ j, r[j]? = l[k + j]?) → pairsOk clos l r k = true →
    ∀ i j oi fi oj fj, k ≤ j → i < j → l[i]? = some (oi, fi) → l[j]? = some (oj, fj) → PairOk ((clos.getD j 0).testBit i) oi fi oj fj := by
  intro r
  induction r with
  | nil =>
    intro k hr _ i j oi fi oj fj hk hij hi hj
    have := hr (j - k)
    rw [show k + (j - k) = j by omega, hj] at this; simp at this
  | cons p r ih =>
    obtain ⟨o, inf⟩ := p
    intro k hr h i j oi fi oj fj hk hij hi hj
    simp only [pairsOk, Bool.and_eq_true] at h
    by_cases hjk : j = k
    · subst hjk
      have h0 := hr 0
      simp only [Nat.add_zero] at h0
      rw [hj] at h0; simp at h0; obtain ⟨rfl, rfl⟩ := h0
      have h1 := List.all_eq_true.1 h.1 ((oi, fi), i) (by
        rw [List.mem_zipIdx_iff_getElem?]
        simp only [List.getElem?_take, hij, if_true]
        exact hi)
      simp only [Bool.and_eq_true, Bool.or_eq_true, Bool.not_eq_true'] at h1
      obtain ⟨⟨⟨h2, h3⟩, h4⟩, h5⟩ := h1
      refine ⟨fun d hd hr => ?_, fun d hd => ?_, fun d hd hr => ?_, fun a b => ?_, fun a b => ?_⟩
      · simp [hd, hr] at h2; exact h2.1
      · simp [hd] at h2; exact h2.2
      · simp [hd, hr] at h3; exact h3
      · rcases h4 with h4 | h4
        · simp [a, b] at h4
        · exact h4
      · rcases h5 with h5 | h5
        · simp [a, b] at h5
        · exact h5
    · refine ih (k + 1) (fun j => ?_) h.2 i j oi fi oj fj (by omega) hij hi hj
      have := hr (j + 1)
      rw [show k + 1 + j = k + (j + 1) by omega, ← this]; simp

theorem resE_mem {E : List Nat} {us : Us} {s : Nat} (h : s ∈ E) : resE E us s = us s := by simp [resE, h]
theorem fill_mem : ∀ {H : HS} {fr us : Us} {s : Nat}, s ∈ H.map (·.1) → fill fr H us s = us s := by
  intro H
  induction H with
  | nil => intro fr us s h; simp at h
  | cons p H ih =>
    obtain ⟨d, T⟩ := p
    intro fr us s h
    simp only [fill, upd]
    by_cases e : Nat.beq s d = true
    · simp [Nat.eq_of_beq_eq_true e]
    · simp only [e, cond_false]
      simp only [List.map_cons, List.mem_cons] at h
      rcases h with h | h
      · subst h; simp at e
      · exact ih h
theorem fill_not : ∀ {H : HS} {fr us : Us} {s : Nat}, s ∉ H.map (·.1) → fill fr H us s = fr s := by
  intro H
  induction H with
  | nil => intros; rfl
  | cons p H ih =>
    obtain ⟨d, T⟩ := p
    intro fr us s h
    simp only [List.map_cons, List.mem_cons, not_or] at h
    have e : Nat.beq s d = false := by rw [Bool.eq_false_iff]; intro hb; exact h.1 (Nat.eq_of_beq_eq_true hb)
    simp only [fill, upd, e, cond_false]
    exact ih h.2
theorem upd_eq (fr : Us) (d : Nat) (v : Value) : upd fr d v d = v := by simp [upd]
theorem upd_ne {fr : Us} {d s : Nat} {v : Value} (h : s ≠ d) : upd fr d v s = fr s := by
  have e : Nat.beq s d = false := by rw [Bool.eq_false_iff]; intro hb; exact h (Nat.eq_of_beq_eq_true hb)
  simp [upd, e]
theorem SepIn.append {g : VH} : ∀ {A K : List HP} {F : Nat → Prop}, SepIn g (groupHP A :: K) F → SepIn g (A ++ K) F := by
  intro A
  induction A with
  | nil => rintro K F ⟨F1, _, _, h⟩; exact h.mono fun b hb => hb.1
  | cons B A ih =>
    rintro K F ⟨F1, ⟨F2, h1, h2, h3⟩, h4, h5⟩
    refine ⟨F2, h1, fun b hb => h4 b (h2 b hb), ih ⟨fun b => F1 b ∧ ¬ F2 b, h3, fun b hb => ⟨h4 b hb.1, hb.2⟩, h5.mono fun b hb => ⟨⟨hb.1, fun h => hb.2 (h2 b h)⟩, fun h => hb.2 h.1⟩⟩⟩
theorem SepIn.group {g : VH} : ∀ {A K : List HP} {F : Nat → Prop}, SepIn g (A ++ K) F → SepIn g (groupHP A :: K) F := by
  intro A
  induction A with
  | nil => intro K F h; exact ⟨fun _ => False, trivial, fun b hb => hb.elim, h.mono fun b hb => ⟨hb, fun h => h⟩⟩
  | cons B A ih =>
    rintro K F ⟨F2, h1, h2, h3⟩
    obtain ⟨F3, h4, h5, h6⟩ := ih h3
    refine ⟨fun b => F2 b ∨ F3 b, ⟨F2, h1, fun b hb => .inl hb, SepIn.mono h4 fun b hb => ⟨.inr hb, (h5 b hb).2⟩⟩, fun b hb => hb.elim (h2 b) (fun h => (h5 b h).1), h6.mono fun b hb => ⟨hb.1.1, fun h => h.elim hb.1.2 hb.2⟩⟩
theorem SepIn.perm {g : VH} {A B : List HP} (h : A.Perm B) : ∀ {F : Nat → Prop}, SepIn g A F → SepIn g B F := by
  induction h with
  | nil => exact fun h => h
  | cons x _ ih => exact fun h => SepIn.cons_sub (fun _ => ih) h
  | swap x y l => exact fun h => SepIn.swap h
  | trans _ _ ih1 ih2 => exact fun h => ih2 (ih1 h)
theorem Sat.perm {w0 w : World} {M : Nat → Prop} {σ : PH} {A B : List HP} (h : Sat w0 M σ A w) (hp : A.Perm B) : Sat w0 M σ B w := h.weak fun _ => SepIn.perm hp
theorem ownsL_congr {O : List (Nat × Obj)} {us us' : Us} (h : ∀ p ∈ O, us p.1 = us' p.1) : ownsL O us = ownsL O us' := by
  unfold ownsL
  exact List.map_congr_left fun p hp => by rw [h p hp]
theorem stAt_Kf_congr {l : List (Oper × Info)} {s0 : Stg} (hs : ∀ us us', s0.Kf us = s0.Kf us') : ∀ i, i ≤ l.length → ∀ us us', (∀ x ∈ (stAt l s0 i).E, us x = us' x) → (stAt l s0 i).Kf us = (stAt l s0 i).Kf us' := by
  intro i
  induction i with
  | zero => intro _ us us' _; cases l <;> exact hs us us'
  | succ i ih =>
    intro hi us us' h
    obtain ⟨o, inf⟩ : ∃ p : Oper × Info, True := ⟨l[i], trivial⟩
    have hp : l[i]? = some (l[i].1, l[i].2) := by simp [List.getElem?_eq_getElem (show i < l.length by omega)]
    rw [stAt_succ l s0 i _ _ hp] at h ⊢
    generalize l[i].1 = o at h ⊢
    generalize l[i].2 = inf at h ⊢
    have key : ∀ E : List Nat, (∀ x ∈ E, us x = us' x) → resE E us = resE E us' := by
      intro E hE
      funext x
      by_cases hx : x ∈ E
      · rw [resE_mem hx, resE_mem hx, hE x hx]
      · simp [resE, hx]
    cases inf <;> simp only [Stg.next] at h ⊢
    case eff T Kf => rw [key _ h]
    case st Kf => rw [key _ h]
    all_goals exact ih (by omega) us us' h
theorem stAt_Kf_same {l : List (Oper × Info)} {s0 : Stg} (j : Nat) : ∀ m, j + m ≤ l.length → (∀ i o inf, j ≤ i → i < j + m → l[i]? = some (o, inf) → inf.isMut = false) → (stAt l s0 (j + m)).Kf = (stAt l s0 j).Kf ∧ (stAt l s0 (j + m)).E = (stAt l s0 j).E := by
  intro m
  induction m with
  | zero => intro _ _; exact ⟨rfl, rfl⟩
  | succ m ih =>
    intro hl h
    have hp : l[j + m]? = some (l[j + m].1, l[j + m].2) := by simp [List.getElem?_eq_getElem (show j + m < l.length by omega)]
    have hm := h (j + m) _ _ (by omega) (by omega) hp
    obtain ⟨h1, h2⟩ := ih (by omega) fun i o inf a b c => h i o inf a (by omega) c
    rw [← Nat.add_assoc, stAt_succ l s0 (j + m) _ _ hp]
    generalize l[j + m].2 = inf at hm ⊢
    cases inf <;> simp [Info.isMut, Info.tag, Tag.isMut] at hm <;> simp only [Stg.next] <;> exact ⟨h1, h2⟩

section
variable {l : List (Oper × Info)} {s0 : Stg}
def Info.hs : Info → Bool
  | .gr _ | .own _ | .eff .. => true
  | _ => false
def Info.val? : Info → Option Value
  | .free v | .ex v | .exc v => some v
  | _ => none
theorem at_some {i : Nat} (h : i < l.length) : ∃ o inf, l[i]? = some (o, inf) := ⟨l[i].1, l[i].2, by simp [List.getElem?_eq_getElem h]⟩
theorem slots_iff (h0 : s0.H = []) : ∀ i, i ≤ l.length → ∀ x, x ∈ (stAt l s0 i).slots ↔ ∃ k o inf, k < i ∧ l[k]? = some (o, inf) ∧ inf.hs = true ∧ dstOf o = x := by
  intro i
  induction i with
  | zero => intro _ x; have : stAt l s0 0 = s0 := by cases l <;> rfl
            rw [this]; simp [Stg.slots, h0]
  | succ i ih =>
    intro hi x
    obtain ⟨o, inf, hp⟩ := at_some (l := l) (show i < l.length by omega)
    rw [stAt_succ l s0 i _ _ hp]
    have base := ih (by omega) x
    have split : (∃ k o' inf', k < i + 1 ∧ l[k]? = some (o', inf') ∧ inf'.hs = true ∧ dstOf o' = x) ↔ (inf.hs = true ∧ dstOf o = x) ∨ ∃ k o' inf', k < i ∧ l[k]? = some (o', inf') ∧ inf'.hs = true ∧ dstOf o' = x := by
      constructor
      · rintro ⟨k, o', inf', h1, h2, h3, h4⟩
        by_cases hk : k = i
        · subst hk; rw [hp] at h2; simp at h2; obtain ⟨rfl, rfl⟩ := h2; exact .inl ⟨h3, h4⟩
        · exact .inr ⟨k, o', inf', by omega, h2, h3, h4⟩
      · rintro (⟨h1, h2⟩ | ⟨k, o', inf', h1, h2, h3, h4⟩)
        · exact ⟨i, o, inf, by omega, hp, h1, h2⟩
        · exact ⟨k, o', inf', by omega, h2, h3, h4⟩
    rw [split, ← base]
    cases inf <;> simp [Stg.next, Stg.slots, Info.hs, eq_comm]
theorem fr_no (i : Nat) : i ≤ l.length → ∀ x, (∀ k o inf v, k < i → l[k]? = some (o, inf) → inf.val? = some v → dstOf o ≠ x) → (stAt l s0 i).fr x = s0.fr x := by
  induction i with
  | zero => intro _ x _; have : stAt l s0 0 = s0 := by cases l <;> rfl
            rw [this]
  | succ i ih =>
    intro hi x h
    obtain ⟨o, inf, hp⟩ := at_some (l := l) (show i < l.length by omega)
    have base := ih (by omega) x fun k o inf v a b c => h k o inf v (by omega) b c
    rw [stAt_succ l s0 i _ _ hp, ← base]
    cases inf <;> simp only [Stg.next]
    case free v => exact upd_ne (Ne.symm (h i o _ v (by omega) hp rfl))
    case ex v => exact upd_ne (Ne.symm (h i o _ v (by omega) hp rfl))
    case exc v => exact upd_ne (Ne.symm (h i o _ v (by omega) hp rfl))
theorem fr_yes (i : Nat) : i ≤ l.length → ∀ k o inf v, k < i → l[k]? = some (o, inf) → inf.val? = some v → (∀ k' o' inf', k < k' → l[k']? = some (o', inf') → dstOf o' ≠ dstOf o ∨ o'.dst = none ∧ inf'.val? = none) → (stAt l s0 i).fr (dstOf o) = v := by
  induction i with
  | zero => intro _ k o inf v hk; omega
  | succ i ih =>
    intro hi k o inf v hk hkp hv hd
    obtain ⟨oi, infi, hp⟩ := at_some (l := l) (show i < l.length by omega)
    rw [stAt_succ l s0 i _ _ hp]
    by_cases e : k = i
    · subst e
      rw [hp] at hkp; simp at hkp; obtain ⟨rfl, rfl⟩ := hkp
      cases infi <;> simp [Info.val?] at hv <;> subst hv <;> simp only [Stg.next] <;> exact upd_eq _ _ _
    · have base := ih (by omega) k o inf v (by omega) hkp hv hd
      rw [← base]
      have hne := hd i oi infi (by omega) hp
      cases infi <;> simp only [Stg.next]
      all_goals
        rcases hne with hne | ⟨_, hne⟩
        · exact upd_ne (Ne.symm hne)
        · simp [Info.val?] at hne
theorem sg_iff (h0 : s0.sg = false) : ∀ i, i ≤ l.length → ((stAt l s0 i).sg = false ↔ ∀ k o inf, k < i → l[k]? = some (o, inf) → inf.isSt = false) := by
  intro i
  induction i with
  | zero => intro _; have : stAt l s0 0 = s0 := by cases l <;> rfl
            rw [this, h0]; simp
  | succ i ih =>
    intro hi
    obtain ⟨o, inf, hp⟩ := at_some (l := l) (show i < l.length by omega)
    rw [stAt_succ l s0 i _ _ hp]
    have base := ih (by omega)
    have split : (∀ k o' inf', k < i + 1 → l[k]? = some (o', inf') → inf'.isSt = false) ↔ inf.isSt = false ∧ ∀ k o' inf', k < i → l[k]? = some (o', inf') → inf'.isSt = false := by
      constructor
      · intro h; exact ⟨h i o inf (by omega) hp, fun k o' inf' a b => h k o' inf' (by omega) b⟩
      · rintro ⟨h1, h2⟩ k o' inf' a b
        by_cases hk : k = i
        · subst hk; rw [hp] at b; simp at b; obtain ⟨_, rfl⟩ := b; exact h1
        · exact h2 k o' inf' (by omega) b
    rw [split, ← base]
    cases inf <;> simp [Stg.next, Info.isSt, Info.tag, Tag.isSt]
theorem own_iff (h0 : s0.O = []) (h1 : s0.sg = false) : ∀ i, i ≤ l.length → ((stAt l s0 i).sg = true → (∀ k o inf, k < l.length → l[k]? = some (o, inf) → inf matches .own _ → (stAt l s0 k).sg = false) → (stAt l s0 i).O = []) ∧
    ((stAt l s0 i).sg = false → ∀ p, p ∈ (stAt l s0 i).O ↔ ∃ k o obj, k < i ∧ l[k]? = some (o, .own obj) ∧ p = (dstOf o, obj)) := by
  intro i
  induction i with
  | zero =>
    intro _
    have : stAt l s0 0 = s0 := by cases l <;> rfl
    rw [this, h1, h0]; simp
  | succ i ih =>
    intro hi
    obtain ⟨o, inf, hp⟩ := at_some (l := l) (show i < l.length by omega)
    obtain ⟨ih1, ih2⟩ := ih (by omega)
    rw [stAt_succ l s0 i _ _ hp]
    have split : ∀ p : Nat × Obj, (∃ k o' obj, k < i + 1 ∧ l[k]? = some (o', .own obj) ∧ p = (dstOf o', obj)) ↔ (∃ obj, inf = .own obj ∧ p = (dstOf o, obj)) ∨ ∃ k o' obj, k < i ∧ l[k]? = some (o', .own obj) ∧ p = (dstOf o', obj) := by
      intro p
      constructor
      · rintro ⟨k, o', obj, a, b, c⟩
        by_cases hk : k = i
        · subst hk; rw [hp] at b; simp at b; obtain ⟨rfl, rfl⟩ := b; exact .inl ⟨obj, rfl, c⟩
        · exact .inr ⟨k, o', obj, by omega, b, c⟩
      · rintro (⟨obj, a, c⟩ | ⟨k, o', obj, a, b, c⟩)
        · subst a; exact ⟨i, o, obj, by omega, hp, c⟩
        · exact ⟨k, o', obj, by omega, b, c⟩
    refine ⟨fun hs hown => ?_, fun hs p => ?_⟩
    · cases inf <;> simp only [Stg.next] at hs ⊢
      case own obj => have := hown i o _ (by omega) hp rfl; rw [this] at hs; cases hs
      all_goals exact ih1 hs hown
    · rw [split p]
      cases inf <;> simp only [Stg.next] at hs ⊢
      case own obj => simp [ih2 hs p]
      case st Kf => cases hs
      all_goals simp [ih2 hs p]
theorem Ob_at {P : Program} {f : FuncId} {R : Ending → World → Prop} {k : List Item} {n : Nat} {w0 : World} {M : Nat → Prop} {σ : PH} {Kb : List HP} : ∀ (l : List (Oper × Info)) (s0 : Stg), LDp P f R k n w0 M σ Kb l s0 →
    (∀ i o inf, l[i]? = some (o, inf) → Ob P n w0 M σ Kb (stAt l s0 i) o inf) ∧ LDp P f R k n w0 M σ Kb [] (stAt l s0 l.length) := by
  intro l
  induction l with
  | nil => intro s0 h; exact ⟨fun i o inf hi => by simp at hi, h⟩
  | cons p l ih =>
    obtain ⟨o, inf⟩ := p
    rintro s0 ⟨h1, h2⟩
    obtain ⟨h3, h4⟩ := ih _ h2
    refine ⟨fun i o' inf' hi => ?_, h4⟩
    cases i with
    | zero => simp at hi; obtain ⟨rfl, rfl⟩ := hi; exact h1
    | succ i => simp at hi; exact h3 i o' inf' hi
end
end Go.JW
namespace Go.JW

def valOk (inf : Info) (v : Value) (σ' : PH) : Prop :=
  match inf with
  | .free u | .ex u | .exc u => v = u
  | .gr T | .eff T _ => T v σ'
  | .own _ => True
  | .st _ => True
section
variable {P : Program} {f : FuncId} {R : Ending → World → Prop} {k : List Item} {n : Nat} {w0 : World} {M : Nat → Prop} {σ : PH} {Kb : List HP} {l : List (Oper × Info)} {s0 : Stg}
structure DInv (w0 : World) (M : Nat → Prop) (σ : PH) (Kb : List HP) (l : List (Oper × Info)) (s0 : Stg) (L : Nat → Bool) (g : Us) (w : World) (σ' : PH) (Ol : List (Nat × Obj)) (j : Nat) : Prop where
  le : PH.le σ σ'
  down : DownCl (l.map (·.1)) L
  bound : ∀ i, L i = true → i < l.length
  jle : j ≤ l.length
  jlo : ∀ i o inf, i < j → l[i]? = some (o, inf) → inf.isMut = true → L i = true
  jhi : ∀ i o inf, j ≤ i → l[i]? = some (o, inf) → inf.isMut = true → L i = false
  sat : Sat w0 M σ' (groupHP (ownsL Ol g) :: (stAt l s0 j).Kf g) w
  base : (∀ i o inf, l[i]? = some (o, inf) → inf.isSt = true → L i = false) → ∀ us, Less ((stAt l s0 j).Kf us) Kb
  owns1 : (∀ i o inf, l[i]? = some (o, inf) → inf.isSt = true → L i = false) → Ol.Nodup ∧ ∀ p, p ∈ Ol ↔ ∃ i o obj, L i = true ∧ l[i]? = some (o, .own obj) ∧ p = (dstOf o, obj)
  owns2 : ¬ (∀ i o inf, l[i]? = some (o, inf) → inf.isSt = true → L i = false) → Ol = []
  vals : ∀ i o inf, L i = true → l[i]? = some (o, inf) → valOk inf (g (dstOf o)) σ'
  oth : ∀ s, (∀ i o inf, L i = true → l[i]? = some (o, inf) → o.dst = some s → False) → g s = s0.fr s
def Info.mono : Info → Prop
  | .gr T | .eff T _ => MonoT T
  | _ => True
theorem valOk_mono {inf : Info} {v : Value} {σ' σ'' : PH} (h : valOk inf v σ') (hle : PH.le σ' σ'') (hm : inf.mono) : valOk inf v σ'' := by
  cases inf <;> simp only [valOk, Info.mono] at h hm ⊢
  case gr T => exact hm _ _ _ h hle
  case eff T Kf => exact hm _ _ _ h hle
  all_goals exact h

variable (hp : ∀ i o inf, l[i]? = some (o, inf) → Ob P n w0 M σ Kb (stAt l s0 i) o inf) (hend : LDp P f R k n w0 M σ Kb [] (stAt l s0 l.length)) (hok : drawOk l = true)
  (hH : s0.H = []) (hO : s0.O = []) (hE : s0.E = []) (hsg : s0.sg = false) (hK : ∀ us us', s0.Kf us = s0.Kf us')
include hok in
theorem pair_of {i j : Nat} {oi oj : Oper} {fi fj : Info} (hij : i < j) (hi : l[i]? = some (oi, fi)) (hj : l[j]? = some (oj, fj)) : PairOk (((closL (l.map (·.1)) []).getD j 0).testBit i) oi fi.tag oj fj.tag := by
  simp only [drawOk, drawOkT, Bool.and_eq_true] at hok
  have z : ∀ (m : Nat) (o : Oper) (inf : Info), l[m]? = some (o, inf) → ((l.map (·.1)).zip (l.map (·.2.tag)))[m]? = some (o, inf.tag) := fun m o inf h => by
    rw [List.getElem?_zip_eq_some]; simp [h]
  exact pairsOk_spec _ _ _ 0 (fun j => by simp) hok.1.2 i j oi fi.tag oj fj.tag (by omega) hij (z _ _ _ hi) (z _ _ _ hj)
theorem clos_listed {L : Nat → Bool} (hd : DownCl (l.map (·.1)) L) {i j : Nat} {oj : Oper} {fj : Info} (hj : l[j]? = some (oj, fj)) (he : ∀ e ∈ edgeTo oj, L e = true) (hb : ((closL (l.map (·.1)) []).getD j 0).testBit i = true) : L i = true :=
  closL_sound (l.map (·.1)) L hd (l.map (·.1)) [] (fun j => by simp) (fun j o hj => by simp at hj) j oj (by simp [hj]) he i hb
include hp in
theorem dst_some {i : Nat} {o : Oper} {inf : Info} (hi : l[i]? = some (o, inf)) (hs : inf.isSt = false) : o.dst = some (dstOf o) := by
  have := (hp i o inf hi).2
  have h2 : o.dst.isSome = true := by
    cases inf <;> simp only [Info.isSt, Info.tag, Tag.isSt] at hs
    all_goals first | exact this.1 | exact this.2.1 | cases hs
  unfold dstOf
  cases e : o.dst with
  | none => rw [e] at h2; cases h2
  | some d => rfl
include hp in
theorem dst_none {i : Nat} {o : Oper} {inf : Info} (hi : l[i]? = some (o, inf)) (hs : inf.isSt = true) : o.dst = none := by
  have := (hp i o inf hi).2
  cases inf <;> simp only [Info.isSt, Info.tag, Tag.isSt] at hs
  all_goals first | exact this.1 | cases hs
include hp hok in
theorem dst_ne {i j : Nat} {oi oj : Oper} {fi fj : Info} (hij : i ≠ j) (hi : l[i]? = some (oi, fi)) (hj : l[j]? = some (oj, fj)) (hs : fi.isSt = false) (hs' : fj.isSt = false) : dstOf oi ≠ dstOf oj := by
  have ha := dst_some hp hi hs
  have hb := dst_some hp hj hs'
  intro e
  rcases Nat.lt_or_gt_of_ne hij with h | h
  · exact (pair_of hok h hi hj).ne _ ha (by rw [hb, e])
  · exact (pair_of hok h hj hi).ne _ hb (by rw [ha, ← e])
include hp hok hH in
theorem reads_as {L : Nat → Bool} {g us : Us} {w : World} {σ' : PH} {Ol : List (Nat × Obj)} {j : Nat} (I : DInv w0 M σ Kb l s0 L g w σ' Ol j) {i : Nat} {o : Oper} {inf : Info} (hi : l[i]? = some (o, inf)) (hn : L i = false) (he : ∀ e ∈ edgeTo o, L e = true)
    (hus : ∀ s ∈ (stAt l s0 i).seen o, us s = g s) : ∀ s ∈ readsTmp o, fill (stAt l s0 i).fr (stAt l s0 i).H us s = g s := by
  intro s hs
  have hil : i < l.length := (List.getElem?_eq_some_iff.1 hi).1
  by_cases hm : s ∈ (stAt l s0 i).slots
  · rw [fill_mem hm]
    exact hus s (by unfold Stg.seen; rw [List.mem_filter]; exact ⟨hs, by simpa using hm⟩)
  · rw [fill_not hm]
    by_cases hw : ∃ m om infm, m < i ∧ l[m]? = some (om, infm) ∧ om.dst = some s
    · obtain ⟨m, om, infm, h1, h2, h3⟩ := hw
      have hLm : L m = true := clos_listed I.down hi he ((pair_of hok h1 h2 hi).reads s h3 hs)
      have hst : infm.isSt = false := by
        cases hx : infm.isSt with
        | false => rfl
        | true => rw [dst_none hp h2 hx] at h3; cases h3
      have hds : dstOf om = s := by unfold dstOf; rw [h3]; rfl
      have hv : ∃ v, infm.val? = some v := by
        have : infm.hs = false := by
          cases hx : infm.hs with
          | false => rfl
          | true => exact absurd ((slots_iff hH i (by omega) s).2 ⟨m, om, infm, h1, h2, hx, hds⟩) hm
        cases infm <;> simp [Info.hs, Info.isSt, Info.tag, Tag.isSt] at this hst <;> simp [Info.val?]
      obtain ⟨v, hv⟩ := hv
      have := fr_yes (s0 := s0) i (by omega) m om infm v h1 h2 hv (fun k' o' inf' hk' hkp => by
        cases hx : inf'.isSt with
        | false => exact .inl (dst_ne hp hok (by omega) hkp h2 hx hst)
        | true => exact .inr ⟨dst_none hp hkp hx, by cases inf' <;> simp [Info.isSt, Info.tag, Tag.isSt] at hx <;> rfl⟩)
      rw [hds] at this
      rw [this]
      have hval := I.vals m om infm hLm h2
      rw [hds] at hval
      cases infm <;> simp [Info.val?] at hv <;> subst hv <;> exact hval.symm
    · rw [fr_no i (by omega) s fun m om infm v h1 h2 h3 h4 => hw ⟨m, om, infm, h1, h2, by
        have := dst_some hp h2 (by cases infm <;> simp [Info.val?] at h3 <;> rfl)
        rw [this, h4]⟩]
      refine (I.oth s fun m om infm h1 h2 h3 => ?_).symm
      have hml := I.bound m h1
      rcases Nat.lt_trichotomy m i with h | h | h
      · exact hw ⟨m, om, infm, h, h2, h3⟩
      · subst h; rw [hn] at h1; cases h1
      · have hb := (pair_of hok h hi h2).anti s h3 hs
        have : L i = true := clos_listed I.down h2 (fun e hee => I.down m om (by simp [h2]) h1 e hee) hb
        rw [hn] at this; cases this
include hok in
theorem exec_as {g : Us} {i : Nat} {o : Oper} {inf : Info} (hi : l[i]? = some (o, inf)) {fr' : Us} (h : ∀ s ∈ readsTmp o, fr' s = g s) : execOp (ev n fr') o = execOp (ev n g) o := by
  have hsel : ∀ cs b, o.op ≠ .select cs b := by
    simp only [drawOk, drawOkT, Bool.and_eq_true] at hok
    exact fun cs b => Region.noSelect_spec hok.1.1 i o cs b (by simp [hi])
  refine execOp_congr o hsel fun x hx => ?_
  cases x with
  | tmp s =>
    have : s ∈ readsTmp o := by
      unfold readsTmp
      rw [List.mem_filterMap]
      exact ⟨.tmp s, by simpa using hx, rfl⟩
    simp only [ev, h s this]
  | _ => rfl
theorem H_of (hH : s0.H = []) : ∀ i, i ≤ l.length → ∀ p, p ∈ (stAt l s0 i).H → ∃ m om infm, m < i ∧ l[m]? = some (om, infm) ∧ infm.hs = true ∧ dstOf om = p.1 ∧ ∀ v σ', valOk infm v σ' → p.2 v σ' := by
  intro i
  induction i with
  | zero => intro _ p h; have : stAt l s0 0 = s0 := by cases l <;> rfl
            rw [this, hH] at h; simp at h
  | succ i ih =>
    intro hi p h
    obtain ⟨o, inf, hpp⟩ := at_some (l := l) (show i < l.length by omega)
    rw [stAt_succ l s0 i _ _ hpp] at h
    have old : p ∈ (stAt l s0 i).H → ∃ m om infm, m < i + 1 ∧ l[m]? = some (om, infm) ∧ infm.hs = true ∧ dstOf om = p.1 ∧ ∀ v σ', valOk infm v σ' → p.2 v σ' := fun h => by
      obtain ⟨m, om, infm, a, b⟩ := ih (by omega) p h; exact ⟨m, om, infm, by omega, b⟩
    cases inf <;> simp only [Stg.next, List.mem_cons] at h
    case gr T => rcases h with rfl | h; exact ⟨i, o, _, by omega, hpp, rfl, rfl, fun _ _ h => h⟩; exact old h
    case own T => rcases h with rfl | h; exact ⟨i, o, _, by omega, hpp, rfl, rfl, fun _ _ h => h⟩; exact old h
    case eff T Kf => rcases h with rfl | h; exact ⟨i, o, _, by omega, hpp, rfl, rfl, fun _ _ h => h⟩; exact old h
    all_goals exact old h
include hp hok hH in
theorem H_facts {L : Nat → Bool} {g : Us} {w : World} {σ' : PH} {Ol : List (Nat × Obj)} {j : Nat} (I : DInv w0 M σ Kb l s0 L g w σ' Ol j) {i : Nat} {o : Oper} {inf : Info} (hi : l[i]? = some (o, inf)) (he : ∀ e ∈ edgeTo o, L e = true) :
    ∀ p ∈ (stAt l s0 i).H, p.1 ∈ readsTmp o → p.2 (g p.1) σ' := by
  intro p hpm hr
  have hil : i < l.length := (List.getElem?_eq_some_iff.1 hi).1
  obtain ⟨m, om, infm, h1, h2, h3, h4, h5⟩ := H_of hH i (by omega) p hpm
  have hd := dst_some hp h2 (by cases infm <;> simp [Info.hs] at h3 <;> rfl)
  have hL := clos_listed I.down hi he ((pair_of hok h1 h2 hi).reads p.1 (by rw [hd, h4]) hr)
  have := I.vals m om infm hL h2
  rw [h4] at this
  exact h5 _ _ this
include hp hok hH hO hE hsg in
theorem E_listed {L : Nat → Bool} (hd : DownCl (l.map (·.1)) L) : ∀ i, i ≤ l.length → (∀ m om infm, m < i → l[m]? = some (om, infm) → infm.isMut = true → L m = true) → ∀ x ∈ (stAt l s0 i).E, ∃ m om infm, m < i ∧ L m = true ∧ l[m]? = some (om, infm) ∧ infm.hs = true ∧ dstOf om = x := by
  intro i
  induction i with
  | zero => intro _ _ x h; have : stAt l s0 0 = s0 := by cases l <;> rfl
            rw [this, hE] at h; simp at h
  | succ i ih =>
    intro hi hm x h
    obtain ⟨o, inf, hpp⟩ := at_some (l := l) (show i < l.length by omega)
    rw [stAt_succ l s0 i _ _ hpp] at h
    have old : x ∈ (stAt l s0 i).E → ∃ m om infm, m < i + 1 ∧ L m = true ∧ l[m]? = some (om, infm) ∧ infm.hs = true ∧ dstOf om = x := fun h => by
      obtain ⟨m, om, infm, a, b⟩ := ih (by omega) (fun m om infm a b c => hm m om infm (by omega) b c) x h; exact ⟨m, om, infm, by omega, b⟩
    have hsl : x ∈ (stAt l s0 i).slots → ∃ m om infm, m < i ∧ l[m]? = some (om, infm) ∧ infm.hs = true ∧ dstOf om = x := fun h => (slots_iff hH i (by omega) x).1 h
    have seenL : L i = true → x ∈ (stAt l s0 i).seen o → ∃ m om infm, m < i + 1 ∧ L m = true ∧ l[m]? = some (om, infm) ∧ infm.hs = true ∧ dstOf om = x := fun hLi h => by
      unfold Stg.seen at h
      rw [List.mem_filter] at h
      obtain ⟨m, om, infm, a, b, c, d⟩ := hsl (by simpa using h.2)
      have hdd := dst_some hp b (by cases infm <;> simp [Info.hs] at c <;> rfl)
      exact ⟨m, om, infm, by omega, clos_listed hd hpp (hd i o (by simp [hpp]) hLi) ((pair_of hok a b hpp).reads x (by rw [hdd, d]) h.1), b, c, d⟩
    cases inf <;> simp only [Stg.next] at h
    case eff T Kf =>
      have hLi := hm i o _ (by omega) hpp rfl
      simp only [List.mem_cons, List.mem_append] at h
      rcases h with rfl | h | h
      · exact ⟨i, o, _, by omega, hLi, hpp, rfl, rfl⟩
      · exact seenL hLi h
      · exact old h
    case st Kf =>
      have hLi := hm i o _ (by omega) hpp rfl
      simp only [List.mem_append] at h
      rcases h with h | h | h
      · rw [List.mem_map] at h
        obtain ⟨q, hq, rfl⟩ := h
        have hof := own_iff (l := l) hO hsg i (by omega)
        have hsgi : (stAt l s0 i).sg = false := by
          cases hx : (stAt l s0 i).sg with
          | false => rfl
          | true => rw [hof.1 hx (fun m om infm hml hlm hown => by
              have := (hp m om infm hlm).2
              cases infm <;> simp at hown
              exact this.1)] at hq; simp at hq
        obtain ⟨m, om, obj, a, b, c⟩ := (hof.2 hsgi q).1 hq
        exact ⟨m, om, _, by omega, clos_listed hd hpp (hd i o (by simp [hpp]) hLi) ((pair_of hok a b hpp).st rfl rfl), b, rfl, by rw [c]⟩
      · exact seenL hLi h
      · exact old h
    all_goals exact old h

def more (L : Nat → Bool) (i : Nat) : Nat → Bool := fun x => bif Nat.beq x i then true else L x
theorem more_at {L : Nat → Bool} {i : Nat} : more L i i = true := by simp [more]
theorem more_of {L : Nat → Bool} {i x : Nat} (h : L x = true) : more L i x = true := by simp [more, h]
theorem more_ne {L : Nat → Bool} {i x : Nat} (h : x ≠ i) : more L i x = L x := by
  have : Nat.beq x i = false := by rw [Bool.eq_false_iff]; intro hb; exact h (Nat.eq_of_beq_eq_true hb)
  simp [more, this]
theorem more_down {L : Nat → Bool} {i : Nat} {o : Oper} {inf : Info} (hd : DownCl (l.map (·.1)) L) (hi : l[i]? = some (o, inf)) (he : ∀ e ∈ edgeTo o, L e = true) : DownCl (l.map (·.1)) (more L i) := by
  intro j oj hj hL e hee
  by_cases hji : j = i
  · subst hji
    simp [hi] at hj; subst hj
    exact more_of (he e hee)
  · rw [more_ne hji] at hL
    exact more_of (hd j oj hj hL e hee)
include hp in
theorem mono_of {i : Nat} {o : Oper} {inf : Info} (hi : l[i]? = some (o, inf)) : inf.mono := by
  have := (hp i o inf hi).2
  cases inf <;> first | trivial | exact this.2.2.1
include hp hok in
theorem vals_step {L : Nat → Bool} {g : Us} {σ' σ'' : PH} (hv : ∀ i o inf, L i = true → l[i]? = some (o, inf) → valOk inf (g (dstOf o)) σ') (hle : PH.le σ' σ'') {i : Nat} {o : Oper} {inf : Info} (hi : l[i]? = some (o, inf)) (hst : inf.isSt = false) (hn : L i = false) {v : Value} (hval : valOk inf v σ'') :
    ∀ m om infm, more L i m = true → l[m]? = some (om, infm) → valOk infm (upd g (dstOf o) v (dstOf om)) σ'' := by
  intro m om infm hL hm
  by_cases hmi : m = i
  · subst hmi
    rw [hi] at hm; simp at hm; obtain ⟨rfl, rfl⟩ := hm
    rw [upd_eq]; exact hval
  · rw [more_ne hmi] at hL
    cases hx : infm.isSt with
    | true => cases infm <;> simp [Info.isSt, Info.tag, Tag.isSt] at hx; trivial
    | false =>
      rw [upd_ne (dst_ne hp hok hmi hm hi hx hst)]
      exact valOk_mono (hv m om infm hL hm) hle (mono_of hp hm)
include hp in
theorem oth_step {L : Nat → Bool} {g : Us} (ho : ∀ s, (∀ i o inf, L i = true → l[i]? = some (o, inf) → o.dst = some s → False) → g s = s0.fr s) {i : Nat} {o : Oper} {inf : Info} (hi : l[i]? = some (o, inf)) (hst : inf.isSt = false) {v : Value} :
    ∀ s, (∀ m om infm, more L i m = true → l[m]? = some (om, infm) → om.dst = some s → False) → upd g (dstOf o) v s = s0.fr s := by
  intro s h
  have hne : s ≠ dstOf o := fun e => h i o inf more_at hi (by rw [dst_some hp hi hst, e])
  rw [upd_ne hne]
  exact ho s fun m om infm a b c => h m om infm (more_of a) b c
include hp hok hH hO hE hsg hK in
theorem K_step {L : Nat → Bool} {g : Us} {w : World} {σ' : PH} {Ol : List (Nat × Obj)} {j : Nat} (I : DInv w0 M σ Kb l s0 L g w σ' Ol j) {i : Nat} {o : Oper} {inf : Info} (hi : l[i]? = some (o, inf)) (hst : inf.isSt = false) (hn : L i = false) (v : Value) :
    (stAt l s0 j).Kf (upd g (dstOf o) v) = (stAt l s0 j).Kf g ∧ ownsL Ol (upd g (dstOf o) v) = ownsL Ol g := by
  constructor
  · refine stAt_Kf_congr hK j I.jle _ _ fun x hx => upd_ne fun e => ?_
    obtain ⟨m, om, infm, _, h2, h3, h4, h5⟩ := E_listed hp hok hH hO hE hsg I.down j I.jle I.jlo x hx
    have hne : m ≠ i := fun e => by subst e; rw [hn] at h2; cases h2
    exact dst_ne hp hok hne h3 hi (by cases infm <;> simp [Info.hs] at h4 <;> rfl) hst (h5.trans e)
  · refine ownsL_congr fun p hpm => upd_ne fun e => ?_
    by_cases hs : ∀ i o inf, l[i]? = some (o, inf) → inf.isSt = true → L i = false
    · obtain ⟨m, om, obj, h1, h2, h3⟩ := ((I.owns1 hs).2 p).1 hpm
      have hne : m ≠ i := fun e => by subst e; rw [hn] at h1; cases h1
      exact dst_ne hp hok hne h2 hi rfl hst (by rw [← e, h3])
    · rw [I.owns2 hs] at hpm; simp at hpm
include hp hok hH hO hE hsg hK in
theorem step_val {L : Nat → Bool} {g : Us} {w w' : World} {σ' σ'' : PH} {Ol : List (Nat × Obj)} {j : Nat} (I : DInv w0 M σ Kb l s0 L g w σ' Ol j) {i : Nat} {o : Oper} {inf : Info} (hi : l[i]? = some (o, inf)) (hn : L i = false) (he : ∀ e ∈ edgeTo o, L e = true)
    (hm : inf.isMut = false) (hno : ¬ inf matches .own _) {v : Value} (hle : PH.le σ' σ'') (hw : Sat w0 M σ'' (groupHP (ownsL Ol g) :: (stAt l s0 j).Kf g) w') (hval : valOk inf v σ'') :
    DInv w0 M σ Kb l s0 (more L i) (upd g (dstOf o) v) w' σ'' Ol j := by
  have hst : inf.isSt = false := by cases inf <;> simp [Info.isMut, Info.tag, Tag.isMut] at hm <;> rfl
  have hil : i < l.length := (List.getElem?_eq_some_iff.1 hi).1
  obtain ⟨hk1, hk2⟩ := K_step hp hok hH hO hE hsg hK I hi hst hn v
  have stEq : (∀ m om infm, l[m]? = some (om, infm) → infm.isSt = true → more L i m = false) → ∀ m om infm, l[m]? = some (om, infm) → infm.isSt = true → L m = false := fun h m om infm a b => by
    have := h m om infm a b
    by_cases hmi : m = i
    · subst hmi; rw [hi] at a; simp at a; obtain ⟨_, rfl⟩ := a; rw [hst] at b; cases b
    · rwa [more_ne hmi] at this
  have stEq' : (∀ m om infm, l[m]? = some (om, infm) → infm.isSt = true → L m = false) → ∀ m om infm, l[m]? = some (om, infm) → infm.isSt = true → more L i m = false := fun h m om infm a b => by
    by_cases hmi : m = i
    · subst hmi; rw [hi] at a; simp at a; obtain ⟨_, rfl⟩ := a; rw [hst] at b; cases b
    · rw [more_ne hmi]; exact h m om infm a b
  refine ⟨PH.le_trans I.le hle, more_down I.down hi he, fun m hm => ?_, I.jle, fun m om infm a b c => more_of (I.jlo m om infm a b c), fun m om infm a b c => ?_, by rw [hk1, hk2]; exact hw, fun h => I.base (stEq h), fun h => ?_, fun h => I.owns2 fun h' => h (stEq' h'), vals_step hp hok I.vals hle hi hst hn hval, oth_step hp I.oth hi hst⟩
  · by_cases hmi : m = i
    · omega
    · rw [more_ne hmi] at hm; exact I.bound m hm
  · have hmi : m ≠ i := fun e => by subst e; rw [hi] at b; simp at b; obtain ⟨_, rfl⟩ := b; rw [hm] at c; cases c
    rw [more_ne hmi]; exact I.jhi m om infm a b c
  · obtain ⟨h1, h2⟩ := I.owns1 (stEq h)
    refine ⟨h1, fun p => (h2 p).trans ?_⟩
    constructor
    · rintro ⟨m, om, obj, a, b, c⟩; exact ⟨m, om, obj, more_of a, b, c⟩
    · rintro ⟨m, om, obj, a, b, c⟩
      have hmi : m ≠ i := fun e => by subst e; rw [hi] at b; simp at b; obtain ⟨_, rfl⟩ := b; exact hno rfl
      rw [more_ne hmi] at a
      exact ⟨m, om, obj, a, b, c⟩
include hp hok hH hO hE hsg hK in
theorem step_own {L : Nat → Bool} {g : Us} {w : World} {σ' : PH} {Ol : List (Nat × Obj)} {j : Nat} (I : DInv w0 M σ Kb l s0 L g w σ' Ol j) {i : Nat} {o : Oper} {obj : Obj} (hi : l[i]? = some (o, .own obj)) (hn : L i = false) (he : ∀ e ∈ edgeTo o, L e = true) :
    DInv w0 M σ Kb l s0 (more L i) (upd g (dstOf o) (.pointer (some ⟨w.heap.size, 0, none⟩))) (w.alloc obj) σ' ((dstOf o, obj) :: Ol) j := by
  have hil : i < l.length := (List.getElem?_eq_some_iff.1 hi).1
  obtain ⟨hk1, hk2⟩ := K_step hp hok hH hO hE hsg hK I hi rfl hn (.pointer (some ⟨w.heap.size, 0, none⟩))
  have hsgi : (stAt l s0 i).sg = false := (hp i o _ hi).2.1
  have noSt : ∀ m om infm, l[m]? = some (om, infm) → infm.isSt = true → L m = false := fun m om infm a b => by
    cases hL : L m with
    | false => rfl
    | true =>
      rcases Nat.lt_trichotomy m i with h | h | h
      · have := (sg_iff hsg i (by omega)).1 hsgi m om infm h a
        rw [b] at this; cases this
      · subst h; rw [hi] at a; simp at a; obtain ⟨_, rfl⟩ := a; cases b
      · have hb := (pair_of hok h hi a).st b rfl
        have := clos_listed I.down a (I.down m om (by simp [a]) hL) hb
        rw [hn] at this; cases this
  have noSt' : ∀ m om infm, l[m]? = some (om, infm) → infm.isSt = true → more L i m = false := fun m om infm a b => by
    by_cases hmi : m = i
    · subst hmi; rw [hi] at a; simp at a; obtain ⟨_, rfl⟩ := a; cases b
    · rw [more_ne hmi]; exact noSt m om infm a b
  refine ⟨I.le, more_down I.down hi he, fun m hm => ?_, I.jle, fun m om infm a b c => more_of (I.jlo m om infm a b c), fun m om infm a b c => ?_, ?_, fun _ => I.base noSt, fun _ => ?_, fun h => absurd noSt' h, vals_step hp hok I.vals (PH.le_refl _) hi rfl hn trivial, oth_step hp I.oth hi rfl⟩
  · by_cases hmi : m = i
    · omega
    · rw [more_ne hmi] at hm; exact I.bound m hm
  · have hmi : m ≠ i := fun e => by subst e; rw [hi] at b; simp at b; obtain ⟨_, rfl⟩ := b; cases c
    rw [more_ne hmi]; exact I.jhi m om infm a b c
  · rw [hk1]
    refine (I.sat.alloc obj).weak fun F h => ?_
    obtain ⟨F1, ⟨h1, h2⟩, h3, h4⟩ := h
    refine SepIn.group (A := ownsL ((dstOf o, obj) :: Ol) _) ?_
    refine ⟨F1, ⟨_, upd_eq _ _ _, h1, h2⟩, h3, ?_⟩
    have := SepIn.append h4
    rw [← hk2] at this
    exact this
  · obtain ⟨h1, h2⟩ := I.owns1 noSt
    have key : ∀ p, p ∈ (dstOf o, obj) :: Ol ↔ ∃ m om obj', more L i m = true ∧ l[m]? = some (om, .own obj') ∧ p = (dstOf om, obj') := by
      intro p
      rw [List.mem_cons, h2 p]
      constructor
      · rintro (rfl | ⟨m, om, obj', a, b, c⟩)
        · exact ⟨i, o, obj, more_at, hi, rfl⟩
        · exact ⟨m, om, obj', more_of a, b, c⟩
      · rintro ⟨m, om, obj', a, b, c⟩
        by_cases hmi : m = i
        · subst hmi; rw [hi] at b; simp at b; obtain ⟨rfl, rfl⟩ := b; exact .inl c
        · rw [more_ne hmi] at a; exact .inr ⟨m, om, obj', a, b, c⟩
    refine ⟨List.nodup_cons.2 ⟨fun hm => ?_, h1⟩, key⟩
    obtain ⟨m, om, obj', a, b, c⟩ := (h2 _).1 hm
    have hmi : m ≠ i := fun e => by subst e; rw [hn] at a; cases a
    exact dst_ne hp hok hmi b hi rfl rfl (by have := congrArg Prod.fst c; exact this.symm)
include hok in
theorem Kf_at {L : Nat → Bool} {g : Us} {w : World} {σ' : PH} {Ol : List (Nat × Obj)} {j : Nat} (I : DInv w0 M σ Kb l s0 L g w σ' Ol j) {i : Nat} {o : Oper} {inf : Info} (hi : l[i]? = some (o, inf)) (hn : L i = false) (he : ∀ e ∈ edgeTo o, L e = true) (hm : inf.isMut = true) :
    (stAt l s0 i).Kf = (stAt l s0 j).Kf ∧ (stAt l s0 i).E = (stAt l s0 j).E ∧ (∀ m om infm, m < i → l[m]? = some (om, infm) → infm.isMut = true → L m = true) ∧ j ≤ i := by
  have hil : i < l.length := (List.getElem?_eq_some_iff.1 hi).1
  have hji : j ≤ i := by
    rcases Nat.lt_or_ge i j with h | h
    · have := I.jlo i o inf h hi hm; rw [hn] at this; cases this
    · exact h
  have hall : ∀ m om infm, m < i → l[m]? = some (om, infm) → infm.isMut = true → L m = true := fun m om infm a b c => clos_listed I.down hi he ((pair_of hok a b hi).chain hm c)
  have := stAt_Kf_same (l := l) (s0 := s0) j (i - j) (by omega) fun m om infm a b c => by
    cases hx : infm.isMut with
    | false => rfl
    | true =>
      have h1 := hall m om infm (by omega) c hx
      have h2 := I.jhi m om infm a c hx
      rw [h2] at h1; cases h1
  rw [show j + (i - j) = i by omega] at this
  exact ⟨this.1, this.2, hall, hji⟩
include hp hok hH hO hE hsg hK in
theorem step_eff {L : Nat → Bool} {g : Us} {w w' : World} {σ' σ'' : PH} {Ol : List (Nat × Obj)} {j : Nat} (I : DInv w0 M σ Kb l s0 L g w σ' Ol j) {i : Nat} {o : Oper} {T : Value → PH → Prop} {Kf : Us → List HP} (hi : l[i]? = some (o, .eff T Kf)) (hn : L i = false) (he : ∀ e ∈ edgeTo o, L e = true)
    {u : Value} (hle : PH.le σ' σ'') (hw : Sat w0 M σ'' (groupHP (ownsL Ol g) :: Kf (upd (resE ((stAt l s0 i).seen o ++ (stAt l s0 i).E) g) (dstOf o) u)) w') (hval : T u σ'') :
    DInv w0 M σ Kb l s0 (more L i) (upd g (dstOf o) u) w' σ'' Ol (i + 1) := by
  have hil : i < l.length := (List.getElem?_eq_some_iff.1 hi).1
  obtain ⟨hk1, hk2⟩ := K_step hp hok hH hO hE hsg hK I hi rfl hn u
  obtain ⟨_, _, hall, hji⟩ := Kf_at hok I hi hn he rfl
  have hsgi : (stAt l s0 i).sg = false := (hp i o _ hi).2.1
  have hbase := (hp i o _ hi).2.2.2.2.1
  have stEq : (∀ m om infm, l[m]? = some (om, infm) → infm.isSt = true → more L i m = false) ↔ ∀ m om infm, l[m]? = some (om, infm) → infm.isSt = true → L m = false := by
    constructor
    · intro h m om infm a b
      have := h m om infm a b
      by_cases hmi : m = i
      · subst hmi; exact hn
      · rwa [more_ne hmi] at this
    · intro h m om infm a b
      by_cases hmi : m = i
      · subst hmi; rw [hi] at a; simp at a; obtain ⟨_, rfl⟩ := a; cases b
      · rw [more_ne hmi]; exact h m om infm a b
  have hKf : (stAt l s0 (i + 1)).Kf (upd g (dstOf o) u) = Kf (upd (resE ((stAt l s0 i).seen o ++ (stAt l s0 i).E) g) (dstOf o) u) := by
    rw [stAt_succ l s0 i _ _ hi]
    simp only [Stg.next]
    congr 1
    funext x
    by_cases hx : x = dstOf o
    · subst hx; rw [resE_mem (by simp), upd_eq, upd_eq]
    · rw [upd_ne hx]
      by_cases hm : x ∈ (stAt l s0 i).seen o ++ (stAt l s0 i).E
      · rw [resE_mem (by simp only [List.mem_cons]; exact .inr hm), upd_ne hx, resE_mem hm]
      · simp only [resE]
        rw [show (List.elem x (dstOf o :: ((stAt l s0 i).seen o ++ (stAt l s0 i).E))) = false by rw [Bool.eq_false_iff]; intro h; simp only [List.elem_eq_mem, decide_eq_true_eq, List.mem_cons] at h; exact h.elim hx hm,
          show (List.elem x ((stAt l s0 i).seen o ++ (stAt l s0 i).E)) = false by rw [Bool.eq_false_iff]; intro h; simp only [List.elem_eq_mem, decide_eq_true_eq] at h; exact hm h]
        rfl
  refine ⟨PH.le_trans I.le hle, more_down I.down hi he, fun m hm => ?_, by omega, fun m om infm a b c => ?_, fun m om infm a b c => ?_, by rw [hKf, hk2]; exact hw, fun _ us => ?_, fun h => ?_, fun h => I.owns2 fun h' => h (stEq.2 h'), vals_step hp hok I.vals hle hi rfl hn hval, oth_step hp I.oth hi rfl⟩
  · by_cases hmi : m = i
    · omega
    · rw [more_ne hmi] at hm; exact I.bound m hm
  · by_cases hmi : m = i
    · subst hmi; exact more_at
    · exact more_of (hall m om infm (by omega) b c)
  · rw [more_ne (by omega)]; exact I.jhi m om infm (by omega) b c
  · rw [stAt_succ l s0 i _ _ hi]; exact hbase _
  · obtain ⟨h1, h2⟩ := I.owns1 (stEq.1 h)
    refine ⟨h1, fun p => (h2 p).trans ?_⟩
    constructor
    · rintro ⟨m, om, obj, a, b, c⟩; exact ⟨m, om, obj, more_of a, b, c⟩
    · rintro ⟨m, om, obj, a, b, c⟩
      have hmi : m ≠ i := fun e => by subst e; rw [hi] at b; simp at b
      rw [more_ne hmi] at a
      exact ⟨m, om, obj, a, b, c⟩
include hp hok hO hsg in
theorem O_nodup : ∀ i, i ≤ l.length → (stAt l s0 i).sg = false → (stAt l s0 i).O.Nodup := by
  intro i
  induction i with
  | zero => intro _ _; have : stAt l s0 0 = s0 := by cases l <;> rfl
            rw [this, hO]; simp
  | succ i ih =>
    intro hi hs
    obtain ⟨o, inf, hpp⟩ := at_some (l := l) (show i < l.length by omega)
    have hsi : (stAt l s0 i).sg = false := (sg_iff hsg i (by omega)).2 fun m om infm a b => (sg_iff hsg (i + 1) hi).1 hs m om infm (by omega) b
    have base := ih (by omega) hsi
    rw [stAt_succ l s0 i _ _ hpp] at hs ⊢
    cases inf <;> simp only [Stg.next] at hs ⊢
    case own obj =>
      refine List.nodup_cons.2 ⟨fun h => ?_, base⟩
      obtain ⟨m, om, obj', a, b, c⟩ := ((own_iff hO hsg i (by omega)).2 hsi _).1 h
      exact dst_ne hp hok (by omega) b hpp rfl rfl (by have := congrArg Prod.fst c; exact this.symm)
    case st Kf => cases hs
    all_goals exact base
include hp hok hO hsg in
theorem O_perm {L : Nat → Bool} {g : Us} {w : World} {σ' : PH} {Ol : List (Nat × Obj)} {j : Nat} (I : DInv w0 M σ Kb l s0 L g w σ' Ol j) {i : Nat} (hil : i ≤ l.length)
    (hst : ∀ m om infm, l[m]? = some (om, infm) → infm.isSt = true → (L m = true ↔ m < i)) (how : ∀ m om obj, l[m]? = some (om, .own obj) → (stAt l s0 i).sg = false → (L m = true ↔ m < i)) : Ol.Perm (stAt l s0 i).O := by
  cases hs : (stAt l s0 i).sg with
  | false =>
    have noSt : ∀ m om infm, l[m]? = some (om, infm) → infm.isSt = true → L m = false := fun m om infm a b => by
      cases hL : L m with
      | false => rfl
      | true =>
        have := (sg_iff hsg i hil).1 hs m om infm ((hst m om infm a b).1 hL) a
        rw [b] at this; cases this
    obtain ⟨h1, h2⟩ := I.owns1 noSt
    rw [List.perm_ext_iff_of_nodup h1 (O_nodup hp hok hO hsg i hil hs)]
    intro p
    rw [h2 p, (own_iff hO hsg i hil).2 hs p]
    constructor
    · rintro ⟨m, om, obj, a, b, c⟩; exact ⟨m, om, obj, (how m om obj b hs).1 a, b, c⟩
    · rintro ⟨m, om, obj, a, b, c⟩; exact ⟨m, om, obj, (how m om obj b hs).2 a, b, c⟩
  | true =>
    have hex : ¬ ∀ m om infm, l[m]? = some (om, infm) → infm.isSt = true → L m = false := fun h => by
      have : (stAt l s0 i).sg = false := (sg_iff hsg i hil).2 fun m om infm a b => by
        cases hx : infm.isSt with
        | false => rfl
        | true =>
          have h1 := h m om infm b hx
          rw [(hst m om infm b hx).2 a] at h1; cases h1
      rw [hs] at this; cases this
    rw [I.owns2 hex, (own_iff hO hsg i hil).1 hs fun m om infm hml hlm hown => by
      have := (hp m om infm hlm).2
      cases infm <;> simp at hown
      exact this.1]
include hp hok in
theorem step_st {L : Nat → Bool} {g : Us} {w w' : World} {σ' : PH} {Ol : List (Nat × Obj)} {j : Nat} (I : DInv w0 M σ Kb l s0 L g w σ' Ol j) {i : Nat} {o : Oper} {Kf : Us → List HP} (hi : l[i]? = some (o, .st Kf)) (hn : L i = false) (he : ∀ e ∈ edgeTo o, L e = true)
    (hw : Sat w0 M σ' (Kf (resE ((stAt l s0 i).O.map (·.1) ++ ((stAt l s0 i).seen o ++ (stAt l s0 i).E)) g)) w') :
    DInv w0 M σ Kb l s0 (more L i) g w' σ' [] (i + 1) := by
  have hil : i < l.length := (List.getElem?_eq_some_iff.1 hi).1
  obtain ⟨_, _, hall, hji⟩ := Kf_at hok I hi hn he rfl
  have hdn := dst_none hp hi rfl
  refine ⟨I.le, more_down I.down hi he, fun m hm => ?_, by omega, fun m om infm a b c => ?_, fun m om infm a b c => ?_, ?_, fun h => ?_, fun h => ?_, fun _ => rfl, fun m om infm a b => ?_, fun s h => I.oth s fun m om infm a b c => h m om infm (more_of a) b c⟩
  · by_cases hmi : m = i
    · omega
    · rw [more_ne hmi] at hm; exact I.bound m hm
  · by_cases hmi : m = i
    · subst hmi; exact more_at
    · exact more_of (hall m om infm (by omega) b c)
  · rw [more_ne (by omega)]; exact I.jhi m om infm (by omega) b c
  · rw [stAt_succ l s0 i _ _ hi]
    exact hw.weak fun F h => SepIn.group (A := []) h
  · have := h i o _ hi rfl; rw [more_at] at this; cases this
  · have := h i o _ hi rfl; rw [more_at] at this; cases this
  · by_cases hmi : m = i
    · subst hmi; rw [hi] at b; simp at b; obtain ⟨_, rfl⟩ := b; trivial
    · rw [more_ne hmi] at a; exact I.vals m om infm a b
include hp hend hok hH hO hsg in
theorem all_done {L : Nat → Bool} {g : Us} {w : World} {σ' : PH} {Ol : List (Nat × Obj)} {j : Nat} (I : DInv w0 M σ Kb l s0 L g w σ' Ol j) (hall : ∀ i, i < l.length → L i = true) : Run P f R k (act n g) w := by
  have hfr : fill (stAt l s0 l.length).fr (stAt l s0 l.length).H g = g := by
    funext s
    by_cases hm : s ∈ (stAt l s0 l.length).slots
    · exact fill_mem hm
    · rw [fill_not hm]
      by_cases hw : ∃ m om infm v, m < l.length ∧ l[m]? = some (om, infm) ∧ infm.val? = some v ∧ dstOf om = s
      · obtain ⟨m, om, infm, v, h1, h2, h3, h4⟩ := hw
        have hst : infm.isSt = false := by cases infm <;> simp [Info.val?] at h3 <;> rfl
        have := fr_yes (s0 := s0) l.length (Nat.le_refl _) m om infm v h1 h2 h3 (fun k' o' inf' hk' hkp => by
          cases hx : inf'.isSt with
          | false => exact .inl (dst_ne hp hok (by omega) hkp h2 hx hst)
          | true => exact .inr ⟨dst_none hp hkp hx, by cases inf' <;> simp [Info.isSt, Info.tag, Tag.isSt] at hx <;> rfl⟩)
        rw [h4] at this
        rw [this]
        have hval := I.vals m om infm (hall m h1) h2
        rw [h4] at hval
        cases infm <;> simp [Info.val?] at h3 <;> subst h3 <;> exact hval.symm
      · rw [fr_no l.length (Nat.le_refl _) s fun m om infm v h1 h2 h3 h4 => hw ⟨m, om, infm, v, h1, h2, h3, h4⟩]
        refine (I.oth s fun m om infm h1 h2 h3 => ?_).symm
        have hml := I.bound m h1
        have hds : dstOf om = s := by unfold dstOf; rw [h3]; rfl
        cases hx : infm.hs with
        | true => exact hm ((slots_iff hH l.length (Nat.le_refl _) s).2 ⟨m, om, infm, hml, h2, hx, hds⟩)
        | false =>
          cases hy : infm.isSt with
          | true => rw [dst_none hp h2 hy] at h3; cases h3
          | false =>
            have : ∃ v, infm.val? = some v := by cases infm <;> simp [Info.hs, Info.isSt, Info.tag, Tag.isSt] at hx hy <;> simp [Info.val?]
            obtain ⟨v, hv⟩ := this
            exact hw ⟨m, om, infm, v, hml, h2, hv, hds⟩
  have hKe : (stAt l s0 l.length).Kf = (stAt l s0 j).Kf := by
    have := stAt_Kf_same (l := l) (s0 := s0) j (l.length - j) (by have := I.jle; omega) fun m om infm a b c => by
      cases hx : infm.isMut with
      | false => rfl
      | true =>
        have h2 := I.jhi m om infm a c hx
        rw [hall m (by have := I.jle; omega)] at h2; cases h2
    rw [show j + (l.length - j) = l.length by have := I.jle; omega] at this
    exact this.1
  have hperm := O_perm hp hok hO hsg I (Nat.le_refl _) (fun m om infm a _ => ⟨fun _ => (List.getElem?_eq_some_iff.1 a).1, fun h => hall m h⟩) (fun m om obj a _ => ⟨fun _ => (List.getElem?_eq_some_iff.1 a).1, fun h => hall m h⟩)
  have hfacts : ∀ p ∈ (stAt l s0 l.length).H, p.2 (g p.1) σ' := fun p hpm => by
    obtain ⟨m, om, infm, h1, h2, _, h4, h5⟩ := H_of hH l.length (Nat.le_refl _) p hpm
    have := I.vals m om infm (hall m h1) h2
    rw [h4] at this; exact h5 _ _ this
  have hR := hend g σ' I.le hfacts
  rw [hfr] at hR
  refine hR.out w (I.sat.weak fun F h => ?_)
  rw [hKe]
  exact SepIn.perm ((hperm.map _).append_right _) (SepIn.append h)
include hp hok hH hO hE hsg hK in
theorem step_any {Q' : Exit → Act → World → Prop} {L : Nat → Bool} {g : Us} {w : World} {σ' : PH} {Ol : List (Nat × Obj)} {j : Nat} (I : DInv w0 M σ Kb l s0 L g w σ' Ol j) {i : Nat} {o : Oper} {inf : Info} (hi : l[i]? = some (o, inf)) (hn : L i = false) (he : ∀ e ∈ edgeTo o, L e = true)
    {K' : Act → World → Prop} (hnext : ∀ g' w' σ'' Ol' j', DInv w0 M σ Kb l s0 (more L i) g' w' σ'' Ol' j' → K' (act n g') w') : o.wp P (act n g) w K' Q' := by
  have hil : i < l.length := (List.getElem?_eq_some_iff.1 hi).1
  have facts := H_facts hp hok hH I hi he
  have ob := (hp i o inf hi).2
  have same : ∀ us : Us, (∀ s ∈ (stAt l s0 i).seen o, us s = g s) → execOp (ev n (fill (stAt l s0 i).fr (stAt l s0 i).H us)) o = execOp (ev n g) o := fun us hus =>
    exec_as hok hi (reads_as hp hok hH I hi hn he hus)
  have noSt : (stAt l s0 i).sg = false → inf.isFree = false → ∀ m om infm, l[m]? = some (om, infm) → infm.isSt = true → L m = false := fun hs hf m om infm a b => by
    cases hL : L m with
    | false => rfl
    | true =>
      rcases Nat.lt_trichotomy m i with h | h | h
      · have := (sg_iff hsg i (by omega)).1 hs m om infm h a
        rw [b] at this; cases this
      · subst h; rw [hn] at hL; cases hL
      · have hb := (pair_of hok h hi a).st b hf
        have := clos_listed I.down a (I.down m om (by simp [a]) hL) hb
        rw [hn] at this; cases this
  have hbase : (stAt l s0 i).sg = false → inf.isFree = false → Sat w0 M σ' Kb w := fun hs hf => I.sat.weak fun F h => (I.base (noSt hs hf) g).get (SepIn.tail h)
  have dsome : inf.isSt = false → ∀ v, (act n g).put o.dst v = act n (upd g (dstOf o) v) := fun h v => by rw [dst_some hp hi h, act_put]
  have calls : ∀ (hst : inf.isSt = false) {ρ : Operand → Value} {Rel : Value → World → Prop}, execOp ρ o = execOp (ev n g) o → StepsTo P ρ o w Rel → (∀ v w', Rel v w' → K' (act n (upd g (dstOf o) v)) w') → o.wp P (act n g) w K' Q' := fun hst ρ Rel heq hs hr => by
    unfold Oper.wp
    rw [act_eval]
    rcases hs with ⟨v, w', h1, h2⟩ | ⟨gg, args, h1, h2⟩
    · rw [heq] at h1; rw [h1, Oper.upon_value, dsome hst]; exact hr v w' h2
    · rw [heq] at h1; rw [h1, Oper.upon_enter]
      refine h2.mono ?_
      rintro e w' ⟨v, rfl, h3⟩
      simp only [dsome hst]; exact hr v w' h3
  cases inf with
  | free v =>
    refine calls rfl (same g fun _ _ => rfl) (Rel := fun u w' => u = v ∧ w' = w) (.inl ⟨v, w, ob.2 g σ' w I.le I.sat.imm facts, rfl, rfl⟩) ?_
    rintro _ _ ⟨rfl, rfl⟩
    exact hnext _ _ _ _ _ (step_val hp hok hH hO hE hsg hK I hi hn he rfl (by simp) (PH.le_refl _) I.sat rfl)
  | ex v =>
    refine calls rfl (same g fun _ _ => rfl) (Rel := fun u w' => u = v ∧ w' = w) (.inl ⟨v, w, ob.2.2 g σ' w I.le facts (hbase ob.1 rfl), rfl, rfl⟩) ?_
    rintro _ _ ⟨rfl, rfl⟩
    exact hnext _ _ _ _ _ (step_val hp hok hH hO hE hsg hK I hi hn he rfl (by simp) (PH.le_refl _) I.sat rfl)
  | exc v =>
    refine calls rfl (same g fun _ _ => rfl) (ob.2.2 g σ' w I.le facts (hbase ob.1 rfl)) ?_
    rintro u w' ⟨hb, rfl⟩
    exact hnext _ _ _ _ _ (step_val hp hok hH hO hE hsg hK I hi hn he rfl (by simp) (PH.le_refl _) (I.sat.ext hb) rfl)
  | gr T =>
    refine calls rfl (same g fun _ _ => rfl) (ob.2.2.2 g σ' w I.le facts (hbase ob.1 rfl)) ?_
    rintro u w' ⟨hb, hT⟩
    exact hnext _ _ _ _ _ (step_val hp hok hH hO hE hsg hK I hi hn he rfl (by simp) (grow_le I.sat) (I.sat.grow hb) hT)
  | own obj =>
    refine calls rfl (same g fun _ _ => rfl) (Rel := fun u w' => u = .pointer (some ⟨w.heap.size, 0, none⟩) ∧ w' = w.alloc obj) (.inl ⟨_, _, ob.2.2 g w, rfl, rfl⟩) ?_
    rintro _ _ ⟨rfl, rfl⟩
    exact hnext _ _ _ _ _ (step_own hp hok hH hO hE hsg hK I hi hn he)
  | eff T Kf =>
    obtain ⟨h1, h2, _, hji⟩ := Kf_at hok I hi hn he rfl
    have hseen : ∀ s ∈ (stAt l s0 i).seen o, resE ((stAt l s0 i).seen o ++ (stAt l s0 i).E) g s = g s := fun s hs => resE_mem (by simp [hs])
    have hS : Sat w0 M σ' (groupHP (ownsL Ol g) :: (stAt l s0 i).Kf (resE ((stAt l s0 i).seen o ++ (stAt l s0 i).E) g)) w := by
      rw [h1, stAt_Kf_congr hK j I.jle _ g fun x hx => resE_mem (by rw [← h2] at hx; simp [hx])]
      exact I.sat
    refine calls rfl (same _ hseen) (ob.2.2.2.2 _ σ' w _ I.le (fun p hpm hr => ?_) hS) ?_
    · rw [hseen p.1 (by unfold Stg.seen; rw [List.mem_filter]; exact ⟨hr, by simp only [Stg.slots, List.elem_eq_mem, decide_eq_true_eq]; exact List.mem_map.2 ⟨p, hpm, rfl⟩⟩)]
      exact facts p hpm hr
    · rintro u w' ⟨σ'', hle, hw, hT⟩
      exact hnext _ _ _ _ _ (step_eff hp hok hH hO hE hsg hK I hi hn he hle hw hT)
  | st Kf =>
    obtain ⟨h1, h2, hall, hji⟩ := Kf_at hok I hi hn he rfl
    have hseen : ∀ s ∈ (stAt l s0 i).seen o, resE ((stAt l s0 i).O.map (·.1) ++ ((stAt l s0 i).seen o ++ (stAt l s0 i).E)) g s = g s := fun s hs => resE_mem (by simp [hs])
    have hperm := O_perm hp hok hO hsg I (i := i) (by omega) (fun m om infm a b => ⟨fun hL => (by
        rcases Nat.lt_trichotomy m i with h | h | h
        · exact h
        · subst h; rw [hn] at hL; cases hL
        · have hb := (pair_of hok h hi a).st b rfl
          have := clos_listed I.down a (I.down m om (by simp [a]) hL) hb
          rw [hn] at this; cases this), fun h => hall m om infm h a (by cases infm <;> simp [Info.isSt, Info.tag, Tag.isSt] at b; rfl)⟩)
      (fun m om obj a hs => ⟨fun hL => (by
        rcases Nat.lt_trichotomy m i with h | h | h
        · exact h
        · subst h; rw [hn] at hL; cases hL
        · have := (hp m om _ a).2.1
          have h3 := (sg_iff hsg m (by have := (List.getElem?_eq_some_iff.1 a).1; omega)).1 this i o _ h hi
          cases h3), fun h => clos_listed I.down hi he ((pair_of hok h a hi).st rfl rfl)⟩)
    have hS : Sat w0 M σ' (ownsL (stAt l s0 i).O (resE ((stAt l s0 i).O.map (·.1) ++ ((stAt l s0 i).seen o ++ (stAt l s0 i).E)) g) ++ (stAt l s0 i).Kf (resE ((stAt l s0 i).O.map (·.1) ++ ((stAt l s0 i).seen o ++ (stAt l s0 i).E)) g)) w := by
      rw [h1, stAt_Kf_congr hK j I.jle _ g fun x hx => resE_mem (by rw [← h2] at hx; simp [hx]), ownsL_congr fun p hpm => resE_mem (by simp only [List.mem_append, List.mem_map]; exact .inl ⟨p, hpm, rfl⟩)]
      exact I.sat.weak fun F h => SepIn.perm ((hperm.map _).append_right _) (SepIn.append h)
    obtain ⟨w', hr, hw⟩ := ob.2 _ σ' w I.le (fun p hpm hr => by
      rw [hseen p.1 (by unfold Stg.seen; rw [List.mem_filter]; exact ⟨hr, by simp only [Stg.slots, List.elem_eq_mem, decide_eq_true_eq]; exact List.mem_map.2 ⟨p, hpm, rfl⟩⟩)]
      exact facts p hpm hr) hS
    unfold Oper.wp
    rw [act_eval]
    rw [same _ hseen] at hr
    rcases hr with hr | ⟨v, hr⟩
    · rw [hr, Oper.upon_skip, dst_none hp hi rfl, act_put_none]
      exact hnext _ _ _ _ _ (step_st hp hok I hi hn he hw)
    · rw [hr, Oper.upon_value, dst_none hp hi rfl, act_put_none]
      exact hnext _ _ _ _ _ (step_st hp hok I hi hn he hw)
include hp hend hok hH hO hE hsg hK in
theorem any_order {rl : List Oper} (hrl : rl.length = l.length) (hreal : ∀ i o inf, l[i]? = some (o, inf) → ∃ r, rl[i]? = some r ∧ r.after = o.after ∧
      ∀ L g w σ' Ol j, DInv w0 M σ Kb l s0 L g w σ' Ol j → (∀ e ∈ edgeTo o, L e = true) → ∀ K' Q', o.wp P (act n g) w K' Q' → wpOp P rl.toArray Q' i K' (act n g) w) : ∀ (fuel : Nat) (listed : Array Bool) (g : Us) (w : World) (σ' : PH) (Ol : List (Nat × Obj)) (j : Nat), listed.size = l.length → (listed.toList.filter (!·)).length = fuel →
    DInv w0 M σ Kb l s0 (fun i => listed.getD i false) g w σ' Ol j → wpAny P .any rl.toArray (QN (Run P f R k)) fuel listed (act n g) w := by
  intro fuel
  induction fuel with
  | zero =>
    intro listed g w σ' Ol j hsz hc I
    have hall : ∀ i, i < l.length → listed.getD i false = true := fun i hi => by
      have h1 : listed[i]'(by omega) ∈ listed.toList := by simp
      have h2 := List.length_eq_zero_iff.1 hc
      rw [List.filter_eq_nil_iff] at h2
      have := h2 _ h1
      simp at this
      simp [Array.getD, hsz, hi, this]
    refine ⟨?_, all_done hp hend hok hH hO hsg I hall⟩
    rw [List.eq_nil_iff_forall_not_mem]
    intro i hi
    obtain ⟨h0, o, ho, _⟩ := mem_ready.1 hi
    have hil : i < l.length := by have := (Array.getElem?_eq_some_iff.1 ho).1; rw [← hrl]; simpa using this
    have := hall i hil
    simp [Array.getD, hsz, hil] at this h0
    rw [this] at h0; cases h0
  | succ fuel ih =>
    intro listed g w σ' Ol j hsz hc I
    refine ⟨fun hr => ?_, fun i hi => ?_⟩
    · exfalso
      have hex : ∃ i, i < l.length ∧ listed.getD i false = false := by
        refine Classical.byContradiction fun hno => ?_
        have : listed.toList.filter (!·) = [] := by
          rw [List.filter_eq_nil_iff]
          intro x hx
          obtain ⟨i, hi, rfl⟩ := List.mem_iff_getElem.1 hx
          have hi' : i < l.length := by rw [← hsz]; simpa using hi
          cases hxx : listed.toList[i] with
          | true => simp
          | false => exact absurd ⟨i, hi', by simp at hxx; simp [Array.getD, hsz, hi', hxx]⟩ hno
        rw [this] at hc; simp at hc
      obtain ⟨i, ⟨hi, hin⟩, hmin⟩ : ∃ i, (i < l.length ∧ listed.getD i false = false) ∧ ∀ m, m < i → ¬ (m < l.length ∧ listed.getD m false = false) := by
        obtain ⟨i0, h0⟩ := hex
        clear ih hr I
        induction i0 using Nat.strongRecOn with
        | _ i0 ihh =>
          by_cases h : ∃ m, m < i0 ∧ m < l.length ∧ listed.getD m false = false
          · obtain ⟨m, h1, h2⟩ := h
            exact ihh m h1 h2
          · exact ⟨i0, h0, fun m hm h2 => h ⟨m, hm, h2⟩⟩
      obtain ⟨o, inf, hio⟩ := at_some (l := l) hi
      obtain ⟨r, hr1, hr2, _⟩ := hreal i o inf hio
      have hmem : i ∈ Region.ready .any rl.toArray listed := by
        rw [mem_ready]
        refine ⟨by simp [Array.getD, hsz, hi] at hin ⊢; exact hin, r, by simpa using hr1, fun e hee hb => ?_⟩
        rw [hr2] at hee
        have hle : e.on < i := by
          simp only [drawOk, drawOkT, Bool.and_eq_true] at hok
          have := List.all_eq_true.1 hok.2.1 (o, i) (by rw [List.mem_zipIdx_iff_getElem?]; simp [hio])
          have h2 := List.all_eq_true.1 this e.on (by unfold edgeTo; rw [List.mem_filterMap]; exact ⟨e, by simpa using hee, by simp [hb]⟩)
          simpa using h2
        cases hx : listed.getD e.on false with
        | true => rfl
        | false => exact absurd ⟨by omega, hx⟩ (hmin e.on hle)
      rw [hr] at hmem; simp at hmem
    · obtain ⟨h0, r, ho, hall⟩ := mem_ready.1 hi
      have hil : i < l.length := by have := (Array.getElem?_eq_some_iff.1 ho).1; rw [← hrl]; simpa using this
      obtain ⟨o', inf, hio⟩ := at_some (l := l) hil
      obtain ⟨r', hr1, hr2, hr3⟩ := hreal i o' inf hio
      have hrr : r' = r := by
        have : rl.toArray[i]? = some r' := by simpa using hr1
        rw [ho] at this; simpa using this.symm
      subst hrr
      have hn : listed.getD i false = false := by simp [Array.getD, hsz, hil] at h0 ⊢; exact h0
      have hed : ∀ e ∈ edgeTo o', listed.getD e false = true := fun e hee => by
        unfold edgeTo at hee
        rw [List.mem_filterMap] at hee
        obtain ⟨ed, h1, h2⟩ := hee
        split at h2
        · rename_i hb; simp at h2; subst h2; exact hall ed (by rw [hr2]; simpa using h1) hb
        · cases h2
      refine hr3 _ g w σ' Ol j I hed _ _ (step_any hp hok hH hO hE hsg hK I hio hn hed fun g' w' σ'' Ol' j' I' => ?_)
      refine ih (listed.setIfInBounds i true) g' w' σ'' Ol' j' (by simpa using hsz) ?_ ?_
      · have hlist : (listed.setIfInBounds i true).toList = listed.toList.set i true := by simp
        rw [hlist]
        have hli : i < listed.toList.length := by simp; omega
        have hval : listed.toList[i] = false := by simp [Array.getD, hsz, hil] at hn; simpa using hn
        have e1 : listed.toList = listed.toList.take i ++ false :: listed.toList.drop (i + 1) := by
          have := (List.take_append_drop i listed.toList).symm
          rw [List.drop_eq_getElem_cons hli, hval] at this; exact this
        have e2 : listed.toList.set i true = listed.toList.take i ++ true :: listed.toList.drop (i + 1) := by
          rw [List.set_eq_take_append_cons_drop, if_pos hli]
        rw [e1] at hc
        rw [e2]
        simp only [List.filter_append, List.filter_cons, List.length_append, Bool.not_false, Bool.not_true, if_true, List.length_cons, Bool.false_eq_true, if_false] at hc ⊢
        omega
      · have : (fun x => (listed.setIfInBounds i true).getD x false) = more (fun x => listed.getD x false) i := by
          funext x
          by_cases hx : x = i
          · subst hx; rw [more_at]; simp [Array.getD, hsz, hil]
          · rw [more_ne hx]; exact getD_set_ne false (Ne.symm hx)
        rw [this]; exact I'
end
theorem RS.drawReal {P : Program} {f : FuncId} {R : Ending → World → Prop} {k : List Item} {n : Nat} {fr : Nat → Value} {w0 : World} {M : Nat → Prop} {σ : PH} {K Kb : List HP} {id : Nat} {l : List (Oper × Info)} {rl : List Oper} (hrl : rl.length = l.length)
    (hreal : (∀ i o inf, l[i]? = some (o, inf) → Ob P n w0 M σ Kb (stAt l ⟨fr, [], [], fun _ => K, [], false⟩ i) o inf) → ∀ i o inf, l[i]? = some (o, inf) → ∃ r, rl[i]? = some r ∧ r.after = o.after ∧
      ∀ L g w σ' Ol j, DInv w0 M σ Kb l ⟨fr, [], [], fun _ => K, [], false⟩ L g w σ' Ol j → (∀ e ∈ edgeTo o, L e = true) → ∀ K' Q', o.wp P (act n g) w K' Q' → wpOp P rl.toArray Q' i K' (act n g) w)
    (hm : P.follows .mixedOrders = true) (hok : drawOk l = true) (hb : Less K Kb) (h : LDp P f R k n w0 M σ Kb l ⟨fr, [], [], fun _ => K, [], false⟩) :
    RS P f R (.code (.region id rl.toArray true) :: k) n fr w0 M σ K := by
  obtain ⟨hp, hend⟩ := Ob_at l _ h
  refine ⟨fun w hw => Run.wp (wp_region_any hm ?_)⟩
  have hsz : rl.toArray.size = l.length := by simpa using hrl
  rw [hsz]
  have h0 : stAt l ⟨fr, [], [], fun _ => K, [], false⟩ 0 = ⟨fr, [], [], fun _ => K, [], false⟩ := by cases l <;> rfl
  have rep : ∀ i, (Array.replicate l.length false).getD i false = false := fun i => by
    simp only [Array.getD_eq_getD_getElem?, Array.getElem?_replicate]; split <;> rfl
  refine any_order hp hend hok rfl rfl rfl rfl (fun _ _ => rfl) hrl (hreal hp) l.length (Array.replicate l.length false) fr w.drew σ [] 0 (by simp) (by simp) ⟨PH.le_refl _, fun j o _ hL => ?_, fun i hL => ?_, by omega, fun i _ _ hi => by omega, fun i _ _ _ _ _ => rep i, ?_, fun _ us => by rw [h0]; exact hb, fun _ => ⟨by simp, fun p => ?_⟩, fun _ => rfl, fun i _ _ hL => ?_, fun s _ => rfl⟩
  · rw [rep] at hL; cases hL
  · rw [rep] at hL; cases hL
  · rw [h0]; exact hw.drew.weak fun F h => SepIn.group (A := []) h
  · constructor
    · intro h; simp at h
    · rintro ⟨i, _, _, hL, _⟩; rw [rep] at hL; cases hL
  · rw [rep] at hL; cases hL
theorem RS.drawAll {P : Program} {f : FuncId} {R : Ending → World → Prop} {k : List Item} {n : Nat} {fr : Nat → Value} {w0 : World} {M : Nat → Prop} {σ : PH} {K Kb : List HP} {id : Nat} {l : List (Oper × Info)}
    (hm : P.follows .mixedOrders = true) (hok : drawOk l = true) (hb : Less K Kb) (h : LDp P f R k n w0 M σ Kb l ⟨fr, [], [], fun _ => K, [], false⟩) :
    RS P f R (.code (.region id (l.map (·.1)).toArray true) :: k) n fr w0 M σ K := by
  refine RS.drawReal (by simp) (fun hp i o inf hio => ⟨o, by simp [hio], rfl, fun L g w σ' Ol j I he K' Q' hw => ?_⟩) hm hok hb h
  have hg := (hp i o inf hio).1
  unfold wpOp
  have hoi : (l.map (·.1)).toArray[i]? = some o := by simp [hio]
  rw [hoi]
  simp only [Region.wanted, hg, if_true]
  exact .inl hw
end Go.JW
namespace Go.JW

def plOf (P : Program) (t : TypeId) : Option (List (Nat × Nat)) :=
  match P.underlying t with
  | some (.struct fs) => fs.toList.mapM fun f => (szOf P f.type).map fun s => (f.offset, s)
  | _ => none
class TPl (P : Program) (t : TypeId) (pl : outParam (List (Nat × Nat))) : Prop where eq : plOf P t = some pl
def nthP : List (Nat × Nat) → Nat → Option (Nat × Nat)
  | [], _ => none
  | p :: _, 0 => some p
  | _ :: l, i + 1 => nthP l i
theorem nthP_eq (l : List (Nat × Nat)) (i : Nat) : nthP l i = l[i]? := by
  induction l generalizing i with
  | nil => simp [nthP]
  | cons v l ih => cases i <;> simp [nthP, ih]
def fillL (place : Nat → Option (Nat × Nat)) (cells : List Value) : List (Nat × Value) → Option (List Value)
  | [] => some cells
  | (i, v) :: rest =>
    match place i with
    | none => none
    | some (off, size) => bif Nat.beq (cellsL v).length size && Nat.ble (off + (cellsL v).length) cells.length then fillL place (setAt cells off (cellsL v)) rest else none
theorem foldl_set (off : Nat) : ∀ (vs : List Value) (j : Nat) (cs : Array Value), (vs.zipIdx j).foldl (fun (cs : Array Value) (p : Value × Nat) => cs.setIfInBounds (off + p.2) p.1) cs = (setAt cs.toList (off + j) vs).toArray := by
  intro vs
  induction vs with
  | nil => intro j cs; simp [setAt_nil]
  | cons v vs ih =>
    intro j cs
    rw [List.zipIdx_cons, List.foldl_cons, ih, setAt_cons]
    simp [Nat.add_assoc]
theorem fill_list (place : Nat → Option (Nat × Nat)) : ∀ (parts : List (Nat × Value)) (cells cs : List Value), fillL place cells parts = some cs → Instr.fill place cells.toArray parts = some cs.toArray := by
  intro parts
  induction parts with
  | nil => intro cells cs h; simp [fillL] at h; subst h; rfl
  | cons p parts ih =>
    obtain ⟨i, v⟩ := p
    intro cells cs h
    simp only [fillL] at h
    cases hp : place i with
    | none => simp [hp] at h
    | some q =>
      obtain ⟨off, size⟩ := q
      simp only [hp] at h
      cases hc : (Nat.beq (cellsL v).length size && Nat.ble (off + (cellsL v).length) cells.length) with
      | false => simp [hc] at h
      | true =>
        simp only [hc, cond_true] at h
        rw [Bool.and_eq_true, Nat.ble_eq] at hc
        have h1 := Nat.eq_of_beq_eq_true hc.1
        have hz : v.cells.size = (cellsL v).length := by rw [← cells_toList]; simp
        simp only [Instr.fill, hp]
        rw [if_neg (by rw [hz]; simp; omega)]
        have e : (v.cells.zipIdx.foldl (fun cs (c, j) => cs.setIfInBounds (off + j) c) cells.toArray) = (setAt cells off (cellsL v)).toArray := by
          have := foldl_set off (cellsL v) 0 cells.toArray
          rw [← Array.foldl_toList]
          rw [Array.toList_zipIdx, cells_toList]
          simpa using this
        rw [e]
        exact ih _ _ h

section
variable {P : Program}
theorem run_places {fs : Array Field} {pl : List (Nat × Nat)} (w : World) (h : fs.toList.mapM (fun f => (szOf P f.type).map fun s => (f.offset, s)) = some pl) :
    (fs.mapM fun f => do pure (f.offset, ← sizeOf f.type) : Sem _).run P w = .ok pl.toArray w := by
  have key : ∀ (l : List Field) (pl : List (Nat × Nat)), l.mapM (fun f => (szOf P f.type).map fun s => (f.offset, s)) = some pl → (l.mapM fun f => do pure (f.offset, ← sizeOf f.type) : Sem _).run P w = .ok pl w := by
    intro l
    induction l with
    | nil => intro pl h; simp at h; subst h; simp
    | cons f l ih =>
      intro pl h
      rw [List.mapM_cons] at h
      cases hs : szOf P f.type with
      | none => simp [hs] at h
      | some s =>
        cases hm : l.mapM (fun f => (szOf P f.type).map fun s => (f.offset, s)) with
        | none => simp [hs, hm] at h
        | some pl' =>
          simp [hs, hm] at h
          subst h
          have := ih pl' hm
          simp at this
          simp [List.mapM_cons, run_sz w hs, this]
  have := key fs.toList pl h
  rw [Array.mapM_eq_mapM_toList]
  show (Bind.bind _ _ : Sem _).run P w = _
  rw [Sem.run_bind, this]
  rfl
theorem run_build {t : TypeId} {pl : List (Nat × Nat)} {zs cs : List Value} {parts : List (Nat × Value)} (w : World) (hp : plOf P t = some pl) (hz : zeroOf P t = some zs) (h : fillL (nthP pl) zs parts = some cs) :
    (Instr.build t parts.toArray).run P w = .ok (.agg cs.toArray) w := by
  unfold plOf at hp
  cases hu : P.underlying t with
  | none => simp [hu] at hp
  | some dd =>
    cases dd <;> simp only [hu] at hp <;> try cases hp
    rename_i fs
    obtain ⟨z, h1, h2⟩ := zero_cells hz w
    have h3 := run_places w hp
    have e : (fun i => pl.toArray[i]?) = nthP pl := by funext i; rw [nthP_eq]; simp
    have h4 := fill_list (nthP pl) parts zs cs h
    simp only [Instr.build, Sem.run_bind, h1, Result.andThen_ok, run_underlying hu, h3, h2]
    rw [e, h4]
    rfl
end
def catL (s : Nat) : List Value → Option (List Value)
  | [] => some []
  | v :: l => bif Nat.beq (cellsL v).length s then (catL s l).map (cellsL v ++ ·) else none
theorem setAt_mid : ∀ (a b c d : List Value), b.length = d.length → setAt (a ++ b ++ c) a.length d = a ++ d ++ c := by
  intro a
  induction a with
  | nil =>
    intro b c d
    induction b generalizing d with
    | nil => intro h; cases d with
      | nil => simp [setAt_nil]
      | cons _ _ => simp at h
    | cons x b ih =>
      intro h
      cases d with
      | nil => simp at h
      | cons y d =>
        have := ih d (by simpa using h)
        simp only [List.nil_append, List.length_nil] at this
        simp only [List.nil_append, List.cons_append, List.length_nil, setAt, this]
  | cons x a ih =>
    intro b c d h
    have := ih b c d h
    cases d with
    | nil => simp [setAt_nil] at *; exact h
    | cons y d => simp only [List.cons_append, List.length_cons, setAt] at this ⊢; rw [this]
theorem fill_cat (s : Nat) : ∀ (l : List Value) (cs : List Value) (i : Nat) (a b : List Value), catL s l = some cs → a.length = i * s → b.length = l.length * s →
    fillL (fun i => some (i * s, s)) (a ++ b) (l.zipIdx i |>.map fun p => (p.2, p.1)) = some (a ++ cs) := by
  intro l
  induction l with
  | nil => intro cs i a b h ha hb; simp [catL] at h; subst h; simp at hb; subst hb; simp [fillL]
  | cons v l ih =>
    intro cs i a b h ha hb
    simp only [catL] at h
    cases hc : Nat.beq (cellsL v).length s with
    | false => simp [hc] at h
    | true =>
      simp only [hc, cond_true, Option.map_eq_some_iff] at h
      obtain ⟨cs', h1, rfl⟩ := h
      have hl := Nat.eq_of_beq_eq_true hc
      simp only [List.length_cons, Nat.succ_mul] at hb
      have e1 : b = b.take s ++ b.drop s := (List.take_append_drop s b).symm
      have ht : (b.take s).length = s := by rw [List.length_take]; omega
      have hd : (b.drop s).length = l.length * s := by rw [List.length_drop]; omega
      simp only [List.zipIdx_cons, List.map_cons, fillL]
      have hc2 : (Nat.beq (cellsL v).length s && Nat.ble (i * s + (cellsL v).length) (a ++ b).length) = true := by
        rw [Bool.and_eq_true, Nat.ble_eq]; refine ⟨hc, ?_⟩; rw [List.length_append]; omega
      rw [hc2, cond_true, ← ha, e1, ← List.append_assoc, setAt_mid a (b.take s) (b.drop s) (cellsL v) (by omega)]
      have := ih cs' (i + 1) (a ++ cellsL v) (b.drop s) h1 (by rw [List.length_append, Nat.succ_mul]; omega) hd
      rw [this, List.append_assoc]
theorem run_buildSlice {P : Program} {t e : TypeId} {s : Nat} {zs cs vs : List Value} {parts : List (Nat × Value)} (w : World) (ht : P.underlying t = some (.slice e)) (hs : szOf P e = some s) (hz : zeroOf P e = some zs) (hp : parts = vs.zipIdx.map fun p => (p.2, p.1))
    (hc : catL s vs = some cs) (hb : vs.length * s ≤ 16777216) : (Instr.buildSlice t vs.length parts.toArray).run P w = .ok (.slice (some ⟨w.heap.size, 0, none⟩) vs.length vs.length) (w.alloc (.cells cs.toArray e)) := by
  subst hp
  obtain ⟨z, h1, h2⟩ := zero_cells hz w
  have key : ∀ zc : Array Value, Instr.fill (fun i => some (i * s, s)) ((Array.range (vs.length * s)).map (fun x => zc[x % zc.size]!)) (vs.zipIdx.map fun p => (p.2, p.1)) = some cs.toArray := by
    intro zc
    have hl := fill_cat s vs cs 0 [] ((Array.range (vs.length * s)).map (fun x => zc[x % zc.size]!)).toList hc (by simp) (by simp)
    have := fill_list _ _ _ _ hl
    rwa [List.nil_append, Array.toArray_toList] at this
  have hb' : ¬ (16777216 < vs.length * s) := by omega
  by_cases h0 : vs.length * s = 0
  · have := key #[]
    simp only [h0] at this
    simp at this
    simp [Instr.buildSlice, run_underlying ht, run_sz w hs, h0, this, newRow]
  · have := key z.cells
    simp [Instr.buildSlice, run_underlying ht, run_sz w hs, hb', h0, h1, this, newRow]

def rowH (e : TypeId) (s : Nat) (v : Value) (m : Nat) (cs : List Value) : HP :=
  ⟨fun g F => cs.length = m * s ∧ cs.all (·.oneCell') = true ∧ ∃ a cap, v = .slice a m cap ∧ m ≤ cap ∧ cap ≤ 9223372036854775807 ∧ ((m = 0 ∧ cap = 0) ∨ ∃ b c0, a = some ⟨b, 0, none⟩ ∧ F b ∧ g.cur b = some (.cells (List.toArray c0) e (0, 0)) ∧ cap * s ≤ c0.length ∧ c0.take (m * s) = cs),
   fun ⟨h1, h0, a, cap, h2, h3, h4, h5⟩ hg _ => ⟨h1, h0, a, cap, h2, h3, h4, h5.elim .inl fun ⟨b, c0, h6, h7, h8, h9⟩ => .inr ⟨b, c0, h6, h7, by rw [hg _ h7]; exact h8, h9⟩⟩⟩
class FindR (v : Value) (K : List HP) (e s m : outParam Nat) (cs : outParam (List Value)) (put : outParam (HP → List HP)) (K' : outParam (List HP)) : Prop where
  get : ∀ {g : VH} {F : Nat → Prop}, SepIn g K F → SepIn g (rowH e s v m cs :: K') F
  set : ∀ {A : HP} {g : VH} {F : Nat → Prop}, SepIn g (A :: K') F → SepIn g (put A) F
instance FindR.tail {v : Value} {K : List HP} {e s m : Nat} {cs : List Value} {put : HP → List HP} {K' : List HP} {B : HP} [i : FindR v K e s m cs put K'] : FindR v (B :: K) e s m cs (fun A => B :: put A) (B :: K') where
  get h := SepIn.swap (SepIn.cons_sub (fun _ => i.get) h)
  set h := SepIn.cons_sub (fun _ => i.set) (SepIn.swap h)
instance FindR.head {v : Value} {K : List HP} {e s m : Nat} {cs : List Value} : FindR v (rowH e s v m cs :: K) e s m cs (fun A => A :: K) K where
  get h := h
  set h := h
section
variable {P : Program}
theorem run_append_roomL {w : World} {t tx ty e : TypeId} {s b m cap k : Nat} {c0 news : List Value} {x : Value} (ht : P.underlying t = some (.slice e)) (hs : szOf P e = some s) (hb : w.heap[b]? = some (.cells c0.toArray e (0, 0))) (hx : Src P s tx x k news w)
    (hroom : m + k ≤ cap) (hc : cap * s ≤ c0.length) :
    (Builtin.append_ #[t, tx] ty #[.slice (some ⟨b, 0, none⟩) m cap, x]).run P w = .ok (.slice (some ⟨b, 0, none⟩) (m + k) cap) { w with heap := w.heap.setIfInBounds b (.cells (setAt c0 (m * s) news).toArray e (0, 0)) } := by
  have hl : (m + k) * s ≤ cap * s := Nat.mul_le_mul_right s hroom
  rw [Nat.add_mul] at hl
  have hst := run_storeCellsL (P := P) (b := b) (T := e) (m * s) news 0 w c0 hb (by rw [hx.newsLen]; omega) (by rw [List.all_eq_true]; exact hx.one)
  have hsz := run_sz (P := P) w hs
  rcases hx.kind with ⟨e', hk⟩ | hk <;> simp [Builtin.append_, run_underlying ht, run_underlying hk, hsz, hx.len, hroom, hx.cells, add_off, hst]
theorem setAt_take : ∀ (l : List Value) (i : Nat) (vs : List Value), i + vs.length ≤ l.length → (setAt l i vs).take (i + vs.length) = l.take i ++ vs := by
  intro l
  induction l with
  | nil => intro i vs h; cases vs with
    | nil => simp [setAt]
    | cons v vs => simp at h
  | cons u l ih =>
    intro i vs h
    cases vs with
    | nil => simp [setAt]
    | cons v vs =>
      cases i with
      | zero => have := ih 0 vs (by simp at h ⊢; omega); simp [setAt] at this ⊢; exact this
      | succ i =>
        have := ih i (v :: vs) (by simp at h ⊢; omega)
        simp only [setAt, List.length_cons, List.take_succ_cons, List.cons_append] at this ⊢
        rw [show i + 1 + (vs.length + 1) = (i + (vs.length + 1)) + 1 by omega, List.take_succ_cons, this]
end
section
variable {w0 w : World} {M : Nat → Prop} {σ : PH} {K K' : List HP}
theorem Sat.getR (h : Sat w0 M σ K w) {v : Value} {e s m : Nat} {cs : List Value} {put : HP → List HP} [i : FindR v K e s m cs put K'] : ∃ F, (rowH e s v m cs).h ⟨σ, hp w⟩ F ∧ (∀ b, F b → b < w.heap.size ∧ σ b = none) := by
  obtain ⟨F1, h1, h2, _⟩ := i.get h.sep
  exact ⟨F1, h1, h2⟩
theorem Sat.putG {A : HP} (h : Sat w0 M σ (A :: K') w) {B : HP} {b : Nat} {o' : Obj} (hA : ∀ F, A.h ⟨σ, hp w⟩ F → (∀ x, F x → x < w.heap.size ∧ σ x = none) → F b ∧ B.h ⟨σ, fun x => if x = b then some o' else hp w x⟩ F) :
    Sat w0 M σ (B :: K') { w with heap := w.heap.setIfInBounds b o' } := by
  obtain ⟨F1, h1, h2, h3⟩ := h.sep
  obtain ⟨hF, hB⟩ := hA F1 h1 h2
  have hb : b < w.heap.size := (h2 b hF).1
  have hs : ({ w with heap := w.heap.setIfInBounds b o' } : World).heap.size = w.heap.size := by simp
  refine ⟨h.os, h.tape, h.output, by rw [hs]; exact h.size, h.keep, fun x y hx => ?_, F1, ?_, ?_, ?_⟩
  · rw [hp_set w b o' hb]
    have hne : x ≠ b := fun e => by subst e; have := (h2 x hF).2; rw [this] at hx; exact absurd hx (by simp)
    simp only [if_neg hne]; exact h.imm x y hx
  · rw [hp_set w b o' hb]; exact hB
  · rw [hs]; exact h2
  · rw [hs]
    refine h3.here fun x hx => ?_
    have hne : x ≠ b := fun e => hx.2 (e ▸ hF)
    rw [hp_set w b o' hb]; simp [hne]
theorem Sat.one {A : HP} (h : Sat w0 M σ (A :: K') w) {B : HP} (hA : ∀ F, A.h ⟨σ, hp w⟩ F → B.h ⟨σ, hp w⟩ F) : Sat w0 M σ (B :: K') w :=
  ⟨h.os, h.tape, h.output, h.size, h.keep, h.imm, let ⟨F1, h1, h2, h3⟩ := h.sep; ⟨F1, hA F1 h1, h2, h3⟩⟩
end
section
variable {P : Program} {q : Bool} {ops : Array Oper} {f : FuncId} {R : Ending → World → Prop} {k : List Item} {n : Nat} {fr : Nat → Value} {w0 : World} {M : Nat → Prop} {σ : PH} {K K' : List HP}
variable {rest : List Oper} {d : Nat} {ty : TypeId} {pos : String} {aft : Array Edge} {x y z : Operand} {t t' : TypeId}
theorem RS.nilRow (e s : Nat) (h : RS P f R k n fr w0 M σ (rowH e s (.slice none 0 0) 0 [] :: K)) : RS P f R k n fr w0 M σ K :=
  ⟨fun w hw => h.out w (hw.weak fun F hF => ⟨fun _ => False, ⟨by simp, rfl, none, 0, rfl, by omega, by omega, .inl ⟨rfl, rfl⟩⟩, fun _ h => h.elim, hF.mono fun b hb => ⟨hb, fun h => h⟩⟩)⟩
theorem appRun {w : World} {e s by_ m kk : Nat} {zs cs news : List Value} {v vy : Value} {put : HP → List HP} [ht : TSlice P t e] [hs : TSz P e s] [hby : TBytes P e by_] [hz : TZero P e zs] [hf : FindR v K e s m cs put K'] (hw : Sat w0 M σ K w) (hsrc : Src P s t' vy kk news w)
    (hzs : Nat.beq zs.length s = true) (hb : (m + kk) * by_ ≤ 140737488355328) (hm : m + kk ≤ 140737488355328) :
    ∃ v' w', (Builtin.append_ #[t, t'] ty #[v, vy]).run P w = .ok v' w' ∧ Sat w0 M σ (put (rowH e s v' (m + kk) (cs ++ news))) w' := by
  have hS := hw.weak fun _ => hf.get
  obtain ⟨F, ⟨h1, h1c, a, cap, rfl, h2, h3, h4⟩, hF⟩ := hw.getR (i := hf)
  have hone : (cs ++ news).all (·.oneCell') = true := by rw [List.all_append, h1c, Bool.true_and, List.all_eq_true]; exact hsrc.one
  have hlen : (cs ++ news).length = (m + kk) * s := by rw [List.length_append, h1, hsrc.newsLen, Nat.add_mul]
  by_cases h00 : m = 0 ∧ kk = 0 ∧ cap = 0
  · obtain ⟨rfl, rfl, rfl⟩ := h00
    have hnews : news = [] := List.eq_nil_of_length_eq_zero (by rw [hsrc.newsLen]; simp)
    have hcs : cs = [] := List.eq_nil_of_length_eq_zero (by rw [h1]; simp)
    subst hnews; subst hcs
    refine ⟨.slice a 0 0, w, ?_, ?_⟩
    · have hsz := run_sz (P := P) w hs.eq
      cases a <;> rcases hsrc.kind with ⟨e', hk⟩ | hk <;> simp [Builtin.append_, run_underlying ht.eq, run_underlying hk, hsz, hsrc.len, hsrc.cells, storeCells]
    · exact (hw.weak fun _ => hf.get).weak fun _ => hf.set
  by_cases hr : m + kk ≤ cap
  · rcases h4 with ⟨rfl, rfl⟩ | ⟨b, c0, rfl, h5, h6, h7, h8⟩
    · exact absurd ⟨rfl, by omega, rfl⟩ h00
    · have := run_append_roomL (P := P) (ty := ty) ht.eq hs.eq h6 hsrc hr h7
      refine ⟨_, _, this, ?_⟩
      refine Sat.weak (K := rowH e s (.slice (some ⟨b, 0, none⟩) (m + kk) cap) (m + kk) (cs ++ news) :: K') ?_ fun _ => hf.set
      refine hS.putG fun F' ⟨_, _, a', cap', g1, g2, g3, g4⟩ hF' => ?_
      injection g1 with g1a g1b g1c
      subst g1a; subst g1c
      have hle : (m + kk) * s ≤ cap * s := Nat.mul_le_mul_right s hr
      rw [Nat.add_mul] at hle
      rcases g4 with ⟨hm0, hc0⟩ | ⟨b', c0', g5, g6, g7, g8, g9⟩
      · exact absurd ⟨hm0, by omega, hc0⟩ h00
      · injection g5 with g5; injection g5 with g5
        subst g5
        have hcc : c0' = c0 := by
          have : some (Obj.cells c0'.toArray e (0, 0)) = some (Obj.cells c0.toArray e (0, 0)) := g7.symm.trans h6
          injection this with this; injection this with this; simpa using this
        subst hcc
        refine ⟨g6, hlen, hone, _, _, rfl, hr, h3, .inr ⟨b, setAt c0' (m * s) news, rfl, g6, by simp, by rw [setAt_length]; exact h7, ?_⟩⟩
        rw [show (m + kk) * s = m * s + news.length by rw [hsrc.newsLen, Nat.add_mul], setAt_take _ _ _ (by rw [hsrc.newsLen]; omega), h8]
  · have hg : cap < m + kk := by omega
    have hbe := hby.eq
    have hse := hs.eq
    have hze := hz.eq
    unfold zeroOf at hze
    unfold szOf at hse
    cases hi : P.info? e with
    | none => simp [hi] at hse
    | some i =>
      cases hzz : i.zero with
      | none => simp [hi, hzz] at hze
      | some z =>
        simp [hi] at hse hbe
        simp [hi, hzz] at hze
        subst hse; subst hbe
        have hzsz : z.cells.size = i.size := by rw [← Array.length_toList, hze]; exact Nat.eq_of_beq_eq_true hzs
        have hold : (Builtin.firstCells i.size m (.slice a m cap)).run P w.drew = .ok cs.toArray w.drew := by
          rcases h4 with ⟨rfl, rfl⟩ | ⟨b, c0, rfl, _, h6, h7, h8⟩
          · have : cs = [] := List.eq_nil_of_length_eq_zero (by rw [h1]; simp)
            subst this
            cases a with
            | none => exact run_firstCells_none _ _ _ _ _
            | some ad => exact run_firstCells_some w.drew i.size 0 ad 0 0 [] (by simp) (by simp)
          · refine run_firstCells_some w.drew i.size m _ m cap cs h1 fun j u hj => ?_
            rw [add_off]
            have : w.drew.cell? ⟨b, 0 + j, none⟩ = c0[0 + j]? := cell_blk (w := w.drew) h6 _
            rw [this, Nat.zero_add]
            rw [← h8, List.getElem?_take] at hj
            split at hj
            · exact hj
            · cases hj
        have hrun := run_append_grow_src (P := P) w t t' ty e i z ht.eq hi hzz a m cap cs hold vy kk news hsrc hg (by omega) (growslice_fits hg hb)
        have hge := grownCap_ge w (m + kk) cap e
        have hcm : grownCap w (m + kk) cap e ≤ maxLen := grownCap_le_maxLen w (m + kk) cap e (by simp [maxLen]; omega)
        refine ⟨_, _, hrun, Sat.weak (K := _ :: K') ?_ fun _ => hf.set⟩
        have hA := ((hS.weak fun F hF => hF.tail).drew).alloc (.cells ((cs ++ news).toArray ++ Builtin.zeroCells z.cells (grownCap w (m + kk) cap e - (m + kk))) e)
        refine hA.one fun F' ⟨g1, g2⟩ => ⟨hlen, hone, _, _, rfl, hge, by simp [maxLen] at hcm; omega, .inr ⟨_, ((cs ++ news).toArray ++ Builtin.zeroCells z.cells (grownCap w (m + kk) cap e - (m + kk))).toList, rfl, g1, by rw [Array.toArray_toList]; exact g2, ?_, ?_⟩⟩
        · rw [Array.toList_append, List.length_append, Array.length_toList, Array.length_toList, size_zeroCells, hzsz, List.size_toArray, hlen, ← Nat.add_mul]; exact Nat.mul_le_mul_right _ (by omega)
        · rw [Array.toList_append, ← hlen]; exact List.take_left
theorem appR {e s by_ m kk : Nat} {zs cs news : List Value} {v vy : Value} {put : HP → List HP} [ht : TSlice P t e] [hs : TSz P e s] [hby : TBytes P e by_] [hz : TZero P e zs]
    (hsrc : ∀ w, Sat w0 M σ K w → Src P s t' vy kk news w)
    (h : ∀ v', LS P false ops f R k rest n (upd fr d v') w0 M σ (put (rowH e s v' (m + kk) (cs ++ news)))) (hx : ev n fr x = v := by rfl) (hy : ev n fr y = vy := by rfl) (hf : FindR v K e s m cs put K' := by infer_instance)
    (hzs : Nat.beq zs.length s = true := by rfl) (hb : (m + kk) * by_ ≤ 140737488355328 := by omega) (hm : m + kk ≤ 140737488355328 := by omega) :
    LS P false ops f R k (⟨some d, .call ⟨.builtin .append, #[x, y], #[t, t']⟩, ty, pos, aft, none⟩ :: rest) n fr w0 M σ K :=
  LS.valW rfl rfl fun w hw => by
    obtain ⟨v', w', h1, h2⟩ := appRun (t := t) (ty := ty) (hf := hf) hw (hsrc w hw) hzs hb hm
    exact ⟨v', w', σ, _, by simp [execOp, resolve, invoke, builtin, hx, hy, h1], h2, h v'⟩
theorem srcB {w : World} {b s m c e' : Nat} {cs news : List Value} {T : TypeId} {put : HP → List HP} (hw : Sat w0 M σ K w) (hk : P.underlying t' = some (.slice e')) (hf : FindB b K (.cells cs.toArray T (0, 0)) put K' := by infer_instance)
    (hn : takeAt cs 0 (m * s) = some news := by rfl) (h1 : news.all (·.oneCell') = true := by rfl) : Src P s t' (.slice (some ⟨b, 0, none⟩) m c) m news w := by
  obtain ⟨g1, g2⟩ := takeAt_spec _ _ _ _ hn
  refine Src.ofSlice w hk _ _ _ _ g1 (fun j u hj => ?_) (by rw [List.all_eq_true] at h1; exact h1)
  have hj' : j < m * s := by rw [← g1]; exact (List.getElem?_eq_some_iff.1 hj).1
  rw [add_off, cell_blk hw.get, g2 j hj', hj]
theorem srcS {α : Type} [Rep α] {w : World} {e' c : Nat} {a : Option Addr} {news : List Value} {l : List α} (hw : Sat w0 M σ K w) (hk : P.underlying t' = some (.slice e')) (hl : news.length = l.length * Rep.sz α)
    (hr : l ≠ [] → ∃ b o, a = some ⟨b, o, none⟩ ∧ ∀ j, j < news.length → σ.cell b (o + j) = news[j]?) (h1 : news.all (·.oneCell') = true) : Src P (Rep.sz α) t' (.slice a l.length c) l.length news w := by
  rw [List.all_eq_true] at h1
  by_cases hn : l = []
  · subst hn
    have : news = [] := List.eq_nil_of_length_eq_zero (by rw [hl]; simp)
    subst this
    cases a with
    | none => exact Src.ofNil w hk c
    | some ad => exact Src.ofSlice w hk _ _ _ _ (by simp) (by simp) (by simp)
  · obtain ⟨b, o, rfl, hc⟩ := hr hn
    refine Src.ofSlice w hk _ _ _ _ hl (fun j u hj => ?_) h1
    have hj' := (List.getElem?_eq_some_iff.1 hj).1
    rw [add_off, hw.cell ((hc j hj').trans hj)]
theorem bld {pl : List (Nat × Nat)} {zs : List Value} {parts : Array (Nat × Operand)} {vals : List (Nat × Value)} (cs : List Value) [hp : TPl P t pl] [hz : TZero P t zs] (h : LS P q ops f R k rest n (upd fr d (.agg cs.toArray)) w0 M σ K)
    (hx : parts.toList.map (fun p => (p.1, ev n fr p.2)) = vals := by rfl) (hc : fillL (nthP pl) zs vals = some cs := by rfl) :
    LS P q ops f R k (⟨some d, .build t parts, ty, pos, aft, none⟩ :: rest) n fr w0 M σ K :=
  LS.val rfl rfl (fun w _ => by
    have e : (parts.map fun (i, x) => (i, ev n fr x)) = vals.toArray := by rw [← hx]; cases parts; simp
    simp [execOp, e, run_build w hp.eq hz.eq hc]) h
theorem bldS {e s : Nat} {zs : List Value} {parts : Array (Nat × Operand)} {len : Nat} (vs : List Value) (cs : List Value) [ht : TSlice P t e] [hs : TSz P e s] [hz : TZero P e zs]
    (h : ∀ b, LS P false ops f R k rest n (upd fr d (.slice (some ⟨b, 0, none⟩) len len)) w0 M σ (blk b (.cells cs.toArray e (0, 0)) :: K))
    (hx : parts.toList.map (fun p => (p.1, ev n fr p.2)) = vs.zipIdx.map (fun p => (p.2, p.1)) := by rfl) (hc : catL s vs = some cs := by rfl) (hl : Nat.beq vs.length len = true := by rfl) (hb : Nat.ble (vs.length * s) 16777216 = true := by rfl) :
    LS P false ops f R k (⟨some d, .buildSlice t len parts, ty, pos, aft, none⟩ :: rest) n fr w0 M σ K :=
  LS.valW rfl rfl fun w hw => by
    have el := Nat.eq_of_beq_eq_true hl
    subst el
    have e1 : (parts.map fun (i, x) => (i, ev n fr x)) = (vs.zipIdx.map fun p => (p.2, p.1)).toArray := by rw [← hx]; cases parts; simp
    have := run_buildSlice w ht.eq hs.eq hz.eq rfl hc (Nat.le_of_ble_eq_true hb)
    exact ⟨_, _, σ, _, by simp [execOp, e1, this], hw.alloc _, h _⟩
theorem slc (l hh m : Nat) {a : Option Addr} {len cap s : Nat} {e : TypeId} {lo hi mx : Option Operand} [ht : TSlice P t e] [hs : TSz P e s]
    (h : LS P q ops f R k rest n (upd fr d (.slice (if m = l then a else a.map (·.add (l * s))) (hh - l) (m - l))) w0 M σ K) (hx : ev n fr x = .slice a len cap := by rfl)
    (hb : ∀ w, (Instr.sliceBounds true len cap (lo.map (ev n fr)) (hi.map (ev n fr)) (mx.map (ev n fr))).run P w = .ok (l, hh, m) w) :
    LS P q ops f R k (⟨some d, .slice t x lo hi mx, ty, pos, aft, none⟩ :: rest) n fr w0 M σ K :=
  LS.val rfl rfl (fun w _ => by
    simp [execOp, hx, Instr.sliceAt, run_underlying ht.eq, Instr.slice, hb, run_sz w hs.eq]) h
theorem slcLo (l : Nat) {a : Option Addr} {len cap s : Nat} {e : TypeId} {lo : Operand} {kk : IntKind} {j : Int} (v : Value) [ht : TSlice P t e] [hs : TSz P e s]
    (h : LS P q ops f R k rest n (upd fr d v) w0 M σ K) (hx : ev n fr x = .slice a len cap := by rfl) (hlo : ev n fr lo = .int kk j := by rfl) (hj : j = (l : Int) := by omega) (hl : l ≤ len := by omega)
    (hv : .slice (if cap = l then a else a.map (·.add (l * s))) (len - l) (cap - l) = v := by rfl) :
    LS P q ops f R k (⟨some d, .slice t x (some lo) none none, ty, pos, aft, none⟩ :: rest) n fr w0 M σ K := by
  subst hv
  exact slc l len cap h hx (fun w => by subst hj; simp [Instr.sliceBounds, hlo, run_sliceBound, hl])
theorem slcHi (l : Nat) {a : Option Addr} {len cap s : Nat} {e : TypeId} {lo : Operand} {kk : IntKind} {j : Int} (v : Value) [ht : TSlice P t e] [hs : TSz P e s]
    (h : LS P q ops f R k rest n (upd fr d v) w0 M σ K) (hx : ev n fr x = .slice a len cap := by rfl) (hlo : ev n fr lo = .int kk j := by rfl) (hj : j = (l : Int) := by omega) (hl : l ≤ cap := by omega)
    (hv : .slice (if cap = 0 then a else a) l cap = v := by rfl) :
    LS P q ops f R k (⟨some d, .slice t x none (some lo) none, ty, pos, aft, none⟩ :: rest) n fr w0 M σ K := by
  subst hv
  refine slc 0 l cap ?_ hx (fun w => by subst hj; simp [Instr.sliceBounds, hlo, run_sliceBound, hl])
  have e : (a.map (·.add (0 * s))) = a := by cases a <;> simp [Addr.add]
  simp only [e, Nat.sub_zero]; exact h
theorem Sat.freezeRow {w : World} {v : Value} {e s m : Nat} {cs : List Value} {put : HP → List HP} (hw : Sat w0 M σ K w) (hf : FindR v K e s m cs put K' := by infer_instance) :
    ∃ a cap σ', v = .slice a m cap ∧ m ≤ cap ∧ PH.le σ σ' ∧ Sat w0 M σ' K' w ∧ cs.length = m * s ∧ cs.all (·.oneCell') = true ∧
      ((m = 0 ∧ cap = 0) ∨ ∃ b, a = some ⟨b, 0, none⟩ ∧ (b < w0.heap.size → M b) ∧ (hp w).cell b 0 = (hp w).cell b 0 ∧ σ' b = hp w b ∧ ∀ j, j < m * s → σ'.cell b j = cs[j]?) := by
  obtain ⟨F1, ⟨h1, h1c, a, cap, rfl, h2, h3, h4⟩, h5, h6⟩ := hf.get hw.sep
  rcases h4 with ⟨rfl, rfl⟩ | ⟨b, c0, rfl, g1, g2, g3, g4⟩
  · exact ⟨a, 0, σ, rfl, by omega, PH.le_refl _, hw.weak (fun F hF => (hf.get hF).tail), h1, h1c, .inl ⟨rfl, rfl⟩⟩
  · have hn := (h5 b g1).2
    refine ⟨_, cap, fun x => if x = b then hp w b else σ x, rfl, h2, fun x y hx => ?_, ⟨hw.os, hw.tape, hw.output, hw.size, fun x hx hM => ?_, fun x y hx => ?_, ?_⟩, h1, h1c, .inr ⟨b, rfl, fun hb => ?_, rfl, by simp, fun j hj => ?_⟩⟩
    · by_cases e : x = b
      · subst e; rw [hn] at hx; cases hx
      · simpa [e] using hx
    · by_cases e : x = b
      · subst e
        have := hw.keep x hx hM
        rw [hn] at this
        have h5 : w0.heap[x]? = some w0.heap[x] := Array.getElem?_eq_getElem hx
        rw [h5] at this; cases this
      · simpa [e] using hw.keep x hx hM
    · by_cases e : x = b
      · subst e; simpa using hx
      · simp [e] at hx; exact hw.imm x y hx
    · refine (h6.over (g' := hp w) (σ' := fun x => if x = b then hp w b else σ x) (fun _ _ => rfl) (fun x y hx => by
        by_cases e : x = b
        · subst e; rw [hn] at hx; cases hx
        · simpa [e] using hx)).mono fun x hx => ⟨hx.1.1, ?_⟩
      have : x ≠ b := fun e => hx.2 (e ▸ g1)
      simp [this]; exact hx.1.2
    · refine Classical.byContradiction fun hM => ?_
      have := hw.keep b hb hM
      rw [hn] at this
      have h5 : w0.heap[b]? = some w0.heap[b] := Array.getElem?_eq_getElem hb
      rw [h5] at this; cases this
    · have g2 : hp w b = _ := g2
      have : PH.cell (fun x => if x = b then hp w b else σ x) b j = c0[j]? := by simp [PH.cell, g2]
      rw [this, ← g4, List.getElem?_take, if_pos hj]
end
end Go.JW
namespace Go.JW

def Facts : HS → List Nat → Us → PH → Prop
  | [], _, _, _ => True
  | (s, T) :: H, rd, us, σ => (bif rd.elem s then T (us s) σ else True) ∧ Facts H rd us σ
theorem facts_of {rd : List Nat} {us : Us} {σ : PH} : ∀ {H : HS}, (∀ p ∈ H, p.1 ∈ rd → p.2 (us p.1) σ) → Facts H rd us σ := by
  intro H
  induction H with
  | nil => intro _; trivial
  | cons p H ih =>
    intro h
    refine ⟨?_, ih fun p hp => h p (by simp [hp])⟩
    by_cases e : rd.elem p.1 = true
    · rw [e]; exact h p (by simp) (by simpa using e)
    · rw [Bool.not_eq_true] at e; rw [e]; trivial
def AllFacts : HS → Us → PH → Prop
  | [], _, _ => True
  | (s, T) :: H, us, σ => T (us s) σ ∧ AllFacts H us σ
theorem allFacts_of {us : Us} {σ : PH} : ∀ {H : HS}, (∀ p ∈ H, p.2 (us p.1) σ) → AllFacts H us σ := by
  intro H
  induction H with
  | nil => intro _; trivial
  | cons p H ih => intro h; exact ⟨h p (by simp), ih fun p hp => h p (by simp [hp])⟩
def New (w0 : World) (τ : PH) : Prop := ∀ b, b < w0.heap.size → τ b = none
theorem New.since {w0 w w' : World} (h : w0.heap.size ≤ w.heap.size) : New w0 (since w w') := fun b hb => by simp only [JW.since]; rw [if_neg (by omega)]
theorem New.le_since {w0 w : World} {M : Nat → Prop} {σ τ : PH} {K : List HP} (hn : New w0 τ) (hs : PH.le τ σ) (hw : Sat w0 M σ K w) : PH.le τ (JW.since w0 w) := fun b o hb => by
  have h1 := hw.imm b o (hs b o hb)
  have h2 : ¬ b < w0.heap.size := fun h => by rw [hn b h] at hb; cases hb
  simp only [JW.since]; rw [if_pos (by omega)]; exact h1
def guardV : Option Bool → Value
  | some b => .bool b
  | none => undef
def GEnd (s : Stg) : List (Nat × Option Bool) → Prop
  | [] => True
  | p :: gl => (s.fr p.1 = guardV p.2 ∧ s.slots.elem p.1 = false) ∧ GEnd s gl
theorem GEnd.at_ {s : Stg} : ∀ {gl : List (Nat × Option Bool)}, GEnd s gl → ∀ p ∈ gl, s.fr p.1 = guardV p.2 ∧ p.1 ∉ s.slots := by
  intro gl
  induction gl with
  | nil => intro _ p hp; simp at hp
  | cons q gl ih =>
    rintro ⟨h1, h2⟩ p hp
    rcases List.mem_cons.1 hp with rfl | hp
    · exact ⟨h1.1, by simpa using h1.2⟩
    · exact ih h2 p hp
structure LD (P : Program) (f : FuncId) (R : Ending → World → Prop) (k : List Item) (n : Nat) (w0 : World) (M : Nat → Prop) (σ : PH) (Kb : List HP) (l : List Oper) (tags : List Tag) (s : Stg) : Prop where
  out : ∃ (infos : List Info) (gl : List (Nat × Option Bool)), infos.map Info.tag ++ gl.map (fun p => Tag.g p.1 p.2) = tags ∧ infos.length = l.length ∧ LDp P f R k n w0 M σ Kb (l.zip infos) s ∧ GEnd (stAt (l.zip infos) s l.length) gl
theorem zip_fst {l : List Oper} {infos : List Info} (h : infos.length = l.length) : (l.zip infos).map (·.1) = l := by
  have := List.map_fst_zip (l₁ := l) (l₂ := infos) (by omega)
  exact this
theorem zip_snd {l : List Oper} {infos : List Info} (h : infos.length = l.length) : (l.zip infos).map (fun p => p.2.tag) = infos.map Info.tag := by
  have h2 := List.map_snd_zip (l₁ := l) (l₂ := infos) (by omega)
  have : (l.zip infos).map (fun p => p.2.tag) = ((l.zip infos).map Prod.snd).map Info.tag := by rw [List.map_map]; rfl
  rw [this, h2]
section
variable {P : Program} {f : FuncId} {R : Ending → World → Prop} {k : List Item} {n : Nat} {fr : Nat → Value} {w0 : World} {M : Nat → Prop} {σ : PH} {K Kb : List HP}
variable {H : HS} {O : List (Nat × Obj)} {Kf : Us → List HP} {E : List Nat} {sg : Bool} {rest : List Oper} {tags : List Tag}
variable {d : Nat} {op : Op} {ty : TypeId} {pos : String} {aft : Array Edge} {x y z : Operand} {t t' : TypeId}
theorem RS.draw {id : Nat} {l : List Oper} (tags : List Tag) (Kb : List HP) (h : LD P f R k n w0 M σ Kb l tags ⟨fr, [], [], fun _ => K, [], false⟩) (hm : P.follows .mixedOrders = true) (hok : drawOkT l tags = true) (hL : Less K Kb) :
    RS P f R (.code (.region id l.toArray true) :: k) n fr w0 M σ K := by
  obtain ⟨infos, gl, h1, h2, h3, _⟩ := h.out
  have hlen : l.length = tags.length := by
    simp only [drawOkT, Bool.and_eq_true, decide_eq_true_eq] at hok; exact hok.2.2
  have hgl : gl = [] := by
    have := congrArg List.length h1
    simp only [List.length_append, List.length_map] at this
    exact List.eq_nil_of_length_eq_zero (by omega)
  subst hgl
  simp only [List.map_nil, List.append_nil] at h1
  have := RS.drawAll (l := l.zip infos) (id := id) hm (by unfold drawOk; rw [zip_fst h2, zip_snd h2, h1]; exact hok) hL h3
  rwa [zip_fst h2] at this
theorem D.cons {o : Oper} {s : Stg} (inf : Info) (ho : Ob P n w0 M σ Kb s o inf) (h : LD P f R k n w0 M σ Kb rest tags (s.next o inf)) : LD P f R k n w0 M σ Kb (o :: rest) (inf.tag :: tags) s := by
  obtain ⟨infos, gl, h1, h2, h3, h4⟩ := h.out
  exact ⟨inf :: infos, gl, by simp [← h1], by simp [h2], ⟨ho, h3⟩, h4⟩
theorem D.done (h : ∀ us σ', PH.le σ σ' → AllFacts H us σ' → RS P f R k n (fill fr H us) w0 M σ' (ownsL O us ++ Kf us)) : LD P f R k n w0 M σ Kb [] [] ⟨fr, H, O, Kf, E, sg⟩ :=
  ⟨[], [], rfl, rfl, fun us σ' hle hf => h us σ' hle (allFacts_of hf), trivial⟩
theorem D.doneG (gl : List (Nat × Option Bool)) (hg : GEnd ⟨fr, H, O, Kf, E, sg⟩ gl) (h : ∀ us σ', PH.le σ σ' → AllFacts H us σ' → RS P f R k n (fill fr H us) w0 M σ' (ownsL O us ++ Kf us)) (ht : tags = gl.map (fun p => Tag.g p.1 p.2) := by rfl) : LD P f R k n w0 M σ Kb [] tags ⟨fr, H, O, Kf, E, sg⟩ :=
  ⟨[], gl, ht.symm, rfl, fun us σ' hle hf => h us σ' hle (allFacts_of hf), hg⟩
theorem D.free {v : Value} (h : LD P f R k n w0 M σ Kb rest tags ⟨upd fr d v, H, O, Kf, E, sg⟩) (ho : ∀ us w, (execOp (ev n (fill fr H us)) ⟨some d, op, ty, pos, aft, none⟩).run P w = .ok (.value v) w) :
    LD P f R k n w0 M σ Kb (⟨some d, op, ty, pos, aft, none⟩ :: rest) (.free :: tags) ⟨fr, H, O, Kf, E, sg⟩ := D.cons (.free v) ⟨rfl, rfl, fun us _ w _ _ _ => ho us w⟩ h
theorem D.freeI {v : Value} (h : LD P f R k n w0 M σ Kb rest tags ⟨upd fr d v, H, O, Kf, E, sg⟩) (ho : ∀ us w, PH.le σ (hp w) → (execOp (ev n (fill fr H us)) ⟨some d, op, ty, pos, aft, none⟩).run P w = .ok (.value v) w) :
    LD P f R k n w0 M σ Kb (⟨some d, op, ty, pos, aft, none⟩ :: rest) (.free :: tags) ⟨fr, H, O, Kf, E, sg⟩ := D.cons (.free v) ⟨rfl, rfl, fun us _ w h1 h2 _ => ho us w (PH.le_trans h1 h2)⟩ h
theorem D.ex {v : Value} (h : LD P f R k n w0 M σ Kb rest tags ⟨upd fr d v, H, O, Kf, E, false⟩)
    (ho : ∀ us σ' w, PH.le σ σ' → Facts H (readsTmp ⟨some d, op, ty, pos, aft, none⟩) us σ' → Sat w0 M σ' Kb w → (execOp (ev n (fill fr H us)) ⟨some d, op, ty, pos, aft, none⟩).run P w = .ok (.value v) w) :
    LD P f R k n w0 M σ Kb (⟨some d, op, ty, pos, aft, none⟩ :: rest) (.ex :: tags) ⟨fr, H, O, Kf, E, false⟩ :=
  D.cons (.ex v) ⟨rfl, rfl, rfl, fun us σ' w hle hf hw => ho us σ' w hle (facts_of hf) hw⟩ h
theorem D.gr (T : Value → PH → Prop) (hT : MonoT T) (h : LD P f R k n w0 M σ Kb rest tags ⟨fr, (d, T) :: H, O, Kf, E, false⟩)
    (ho : ∀ us σ' w, PH.le σ σ' → Facts H (readsTmp ⟨some d, op, ty, pos, aft, none⟩) us σ' → Sat w0 M σ' Kb w → StepsTo P (ev n (fill fr H us)) ⟨some d, op, ty, pos, aft, none⟩ w fun u w' => RowKit.Below w.heap.size w w' ∧ T u (grow σ' w w')) :
    LD P f R k n w0 M σ Kb (⟨some d, op, ty, pos, aft, none⟩ :: rest) (.ex :: tags) ⟨fr, H, O, Kf, E, false⟩ :=
  D.cons (.gr T) ⟨rfl, rfl, rfl, hT, fun us σ' w hle hf hw => ho us σ' w hle (facts_of hf) hw⟩ h
theorem D.eff (T : Value → PH → Prop) (Kf1 Kf2 : Us → List HP) (hT : MonoT T) (hL : ∀ us, Less (Kf1 us) Kb)
    (h : LD P f R k n w0 M σ Kb rest tags ⟨fr, (d, T) :: H, O, Kf2, d :: ((Stg.mk fr H O Kf E false).seen ⟨some d, op, ty, pos, aft, none⟩ ++ E), false⟩)
    (ho : ∀ us σ' w X, PH.le σ σ' → Facts H (readsTmp ⟨some d, op, ty, pos, aft, none⟩) us σ' → Sat w0 M σ' (X :: Kf us) w → StepsTo P (ev n (fill fr H us)) ⟨some d, op, ty, pos, aft, none⟩ w fun u w' => ∃ σ'', PH.le σ' σ'' ∧ Sat w0 M σ'' (X :: Kf1 (upd us d u)) w' ∧ T u σ'')
    (hE : ∀ us, Kf1 (resE (d :: ((Stg.mk fr H O Kf E false).seen ⟨some d, op, ty, pos, aft, none⟩ ++ E)) us) = Kf2 us := by intro _; rfl) :
    LD P f R k n w0 M σ Kb (⟨some d, op, ty, pos, aft, none⟩ :: rest) (.eff :: tags) ⟨fr, H, O, Kf, E, false⟩ := by
  refine D.cons (.eff T Kf1) ⟨rfl, rfl, rfl, hT, hL, fun us σ' w X hle hf hw => ho us σ' w X hle (facts_of hf) hw⟩ ?_
  obtain rfl : (fun us => Kf1 (resE (d :: ((Stg.mk fr H O Kf E false).seen ⟨some d, op, ty, pos, aft, none⟩ ++ E)) us)) = Kf2 := funext hE
  exact h
theorem D.st (Kf1 Kf2 : Us → List HP) (h : LD P f R k n w0 M σ Kb rest tags ⟨fr, H, [], Kf2, O.map (·.1) ++ ((Stg.mk fr H O Kf E sg).seen ⟨none, op, ty, pos, aft, none⟩ ++ E), true⟩)
    (ho : ∀ us σ' w, PH.le σ σ' → Facts H (readsTmp ⟨none, op, ty, pos, aft, none⟩) us σ' → Sat w0 M σ' (ownsL O us ++ Kf us) w → ∃ w', (execOp (ev n (fill fr H us)) ⟨none, op, ty, pos, aft, none⟩).run P w = .ok .skip w' ∧ Sat w0 M σ' (Kf1 us) w')
    (hE : ∀ us, Kf1 (resE (O.map (·.1) ++ ((Stg.mk fr H O Kf E sg).seen ⟨none, op, ty, pos, aft, none⟩ ++ E)) us) = Kf2 us := by intro _; rfl) :
    LD P f R k n w0 M σ Kb (⟨none, op, ty, pos, aft, none⟩ :: rest) (.st :: tags) ⟨fr, H, O, Kf, E, sg⟩ := by
  refine D.cons (.st Kf1) ⟨rfl, rfl, fun us σ' w hle hf hw => (ho us σ' w hle (facts_of hf) hw).imp fun _ h => ⟨.inl h.1, h.2⟩⟩ ?_
  obtain rfl : (fun us => Kf1 (resE (O.map (·.1) ++ ((Stg.mk fr H O Kf E sg).seen ⟨none, op, ty, pos, aft, none⟩ ++ E)) us)) = Kf2 := funext hE
  exact h
theorem D.alloc_ {zs : List Value} [hz : TZero P t zs] (h : LD P f R k n w0 M σ Kb rest tags ⟨fr, (d, fun _ _ => True) :: H, (d, .cells zs.toArray t (0, 0)) :: O, Kf, E, false⟩) :
    LD P f R k n w0 M σ Kb (⟨some d, .alloc t, ty, pos, aft, none⟩ :: rest) (.own :: tags) ⟨fr, H, O, Kf, E, false⟩ :=
  D.cons (.own (.cells zs.toArray t (0, 0))) ⟨rfl, rfl, rfl, fun us w => by
    obtain ⟨z, h1, h2⟩ := zero_cells hz.eq w
    simp [execOp, Instr.alloc, h1, newVar, newRow, h2]⟩ h
theorem D.callP {g : FuncId} {xs : Array Operand} {ts : Array TypeId} {args : Us → List Value} {v : Value} [i : Fun P g]
    (h : LD P f R k n w0 M σ Kb rest tags ⟨upd fr d v, H, O, Kf, E, false⟩) (hx : ∀ us, xs.toList.map (ev n (fill fr H us)) = args us := by intro _; rfl)
    (hc : ∀ us σ' w, PH.le σ σ' → Facts H (readsTmp ⟨some d, .call ⟨.value (.func g), xs, ts⟩, ty, pos, aft, none⟩) us σ' → Sat w0 M σ' Kb w → Calls P g (args us).toArray w fun e w' => e = .returned v ∧ RowKit.Below w.heap.size w w') :
    LD P f R k n w0 M σ Kb (⟨some d, .call ⟨.value (.func g), xs, ts⟩, ty, pos, aft, none⟩ :: rest) (.ex :: tags) ⟨fr, H, O, Kf, E, false⟩ :=
  D.cons (.exc v) ⟨rfl, rfl, rfl, fun us σ' w hle hf hw => .inr ⟨g, _, exec_call i.eq (hx us) w, (hc us σ' w hle (facts_of hf) hw).mono fun _ _ ⟨he, hb⟩ => ⟨v, he, hb, rfl⟩⟩⟩ h
theorem D.callN {g : FuncId} {xs : Array Operand} {ts : Array TypeId} {args : Us → List Value} (Q : Value → PH → Prop) [i : Fun P g]
    (h : LD P f R k n w0 M σ Kb rest tags ⟨fr, (d, fun v σ => ∃ τ, Q v τ ∧ PH.le τ σ ∧ New w0 τ) :: H, O, Kf, E, false⟩) (hx : ∀ us, xs.toList.map (ev n (fill fr H us)) = args us := by intro _; rfl)
    (hc : ∀ us σ' w, PH.le σ σ' → Facts H (readsTmp ⟨some d, .call ⟨.value (.func g), xs, ts⟩, ty, pos, aft, none⟩) us σ' → Sat w0 M σ' Kb w → Calls P g (args us).toArray w fun e w' => ∃ v, e = .returned v ∧ RowKit.Below w.heap.size w w' ∧ Q v (since w w')) :
    LD P f R k n w0 M σ Kb (⟨some d, .call ⟨.value (.func g), xs, ts⟩, ty, pos, aft, none⟩ :: rest) (.ex :: tags) ⟨fr, H, O, Kf, E, false⟩ :=
  D.gr _ (fun _ _ _ ⟨τ, h1, h2, h3⟩ hs => ⟨τ, h1, PH.le_trans h2 hs, h3⟩) h fun us σ' w hle hf hw =>
    .inr ⟨g, _, exec_call i.eq (hx us) w, (hc us σ' w hle hf hw).mono fun _ w' ⟨v, he, hb, hq⟩ => ⟨v, he, hb, since w w', hq, since_le _ _ _, New.since hw.size⟩⟩
theorem D.bldS {e s : Nat} {zs : List Value} {parts : Array (Nat × Operand)} {len : Nat} {vs : Us → List Value} (T : Value → PH → Prop) (hT : MonoT T) [ht : TSlice P t e] [hs : TSz P e s] [hz : TZero P e zs]
    (h : LD P f R k n w0 M σ Kb rest tags ⟨fr, (d, T) :: H, O, Kf, E, false⟩)
    (ho : ∀ us σ', PH.le σ σ' → Facts H (readsTmp ⟨some d, .buildSlice t len parts, ty, pos, aft, none⟩) us σ' → ∃ cs, catL s (vs us) = some cs ∧ ∀ b σ'', PH.le σ' σ'' → (b < w0.heap.size → False) → σ'' b = some (.cells cs.toArray e (0, 0)) → T (.slice (some ⟨b, 0, none⟩) len len) σ'')
    (hx : ∀ us, parts.toList.map (fun p => (p.1, ev n (fill fr H us) p.2)) = (vs us).zipIdx.map (fun p => (p.2, p.1)) := by intro _; rfl)
    (hl : ∀ us, Nat.beq (vs us).length len = true := by intro _; rfl) (hb : Nat.ble (len * s) 16777216 = true := by rfl) :
    LD P f R k n w0 M σ Kb (⟨some d, .buildSlice t len parts, ty, pos, aft, none⟩ :: rest) (.ex :: tags) ⟨fr, H, O, Kf, E, false⟩ :=
  D.gr T hT h fun us σ' w hle hf hw => by
    have el := Nat.eq_of_beq_eq_true (hl us)
    obtain ⟨cs, hc, hT'⟩ := ho us σ' hle hf
    have e1 : (parts.map fun (i, x) => (i, ev n (fill fr H us) x)) = ((vs us).zipIdx.map fun p => (p.2, p.1)).toArray := by rw [← hx us]; cases parts; simp
    have := run_buildSlice w ht.eq hs.eq hz.eq rfl hc (by rw [el]; exact Nat.le_of_ble_eq_true hb)
    rw [el] at this
    refine .inl ⟨.slice (some ⟨w.heap.size, 0, none⟩) len len, w.alloc (.cells cs.toArray e), by simp [execOp, e1, this], (RowKit.Below.refl _ _).alloc (Nat.le_refl _) _, hT' _ _ (grow_le hw) (fun h => by have := hw.size; omega) ?_⟩
    simp only [JW.grow]; rw [if_pos (Nat.le_refl _)]; exact (heap_alloc_at w _ _).trans (if_pos rfl)
theorem RS.openOwn {v : Value} {obj : Obj} (h : ∀ b, v = .pointer (some ⟨b, 0, none⟩) → RS P f R k n fr w0 M σ (blk b obj :: K)) : RS P f R k n fr w0 M σ (ownHP v obj :: K) :=
  ⟨fun w hw => by
    obtain ⟨F1, ⟨b, h1, h2, h3⟩, h4, h5⟩ := hw.sep
    exact (h b h1).out w ⟨hw.os, hw.tape, hw.output, hw.size, hw.keep, hw.imm, F1, ⟨h2, h3⟩, h4, h5⟩⟩
theorem RS.drawK {id : Nat} {l : List Oper} (tags : List Tag) (h : LD P f R k n w0 M σ K l tags ⟨fr, [], [], fun _ => K, [], false⟩) (hm : P.follows .mixedOrders = true) (hok : drawOkT l tags = true) :
    RS P f R (.code (.region id l.toArray true) :: k) n fr w0 M σ K := RS.draw tags K h hm hok ⟨fun h => h⟩
theorem D.ldS {b off : Nat} {v : Value} [ht : TOne P t] (hc : σ.cell b off = some v) (h : LD P f R k n w0 M σ Kb rest tags ⟨upd fr d v, H, O, Kf, E, false⟩) (hx : ∀ us, ev n (fill fr H us) x = .pointer (some ⟨b, off, none⟩) := by intro _; rfl) :
    LD P f R k n w0 M σ Kb (⟨some d, .load t x, ty, pos, aft, none⟩ :: rest) (.ex :: tags) ⟨fr, H, O, Kf, E, false⟩ :=
  D.ex h fun us σ' w hle _ hw => by
    have := run_loadVar1 (P := P) (w := w) (b := b) ht.agg off (hw.cell (PH.cell_mono hle hc))
    simp [execOp, hx us, Instr.loadAt, Instr.sureAddr, this]
theorem D.ldSA {b off s : Nat} {vs : List Value} [ht : TAgg P t] [hs : TSz P t s] (hl : vs.length = s) (hc : ∀ j, j < s → σ.cell b (off + j) = vs[j]?) (h : LD P f R k n w0 M σ Kb rest tags ⟨upd fr d (.agg vs.toArray), H, O, Kf, E, false⟩) (hx : ∀ us, ev n (fill fr H us) x = .pointer (some ⟨b, off, none⟩) := by intro _; rfl) :
    LD P f R k n w0 M σ Kb (⟨some d, .load t x, ty, pos, aft, none⟩ :: rest) (.ex :: tags) ⟨fr, H, O, Kf, E, false⟩ :=
  D.ex h fun us σ' w hle _ hw => by
    have := run_loadVarA (P := P) (w := w) (b := b) ht.agg hs.eq off hl (fun j hj => by
      have h1 := PH.cells_mono hle hl hc j hj
      rw [List.getElem?_eq_getElem (by omega)] at h1 ⊢
      exact hw.cell h1)
    simp [execOp, hx us, Instr.loadAt, Instr.sureAddr, this]
theorem D.ld1 {b off : Nat} {cs : List Value} {T : TypeId} {v : Value} {put : HP → List HP} {K' : List HP} [ht : TOne P t] (h : LD P f R k n w0 M σ Kb rest tags ⟨upd fr d v, H, O, Kf, E, false⟩) (hx : ∀ us, ev n (fill fr H us) x = .pointer (some ⟨b, off, none⟩) := by intro _; rfl)
    (hf : FindB b Kb (.cells cs.toArray T (0, 0)) put K' := by infer_instance) (hv : nth cs off = some v := by rfl) :
    LD P f R k n w0 M σ Kb (⟨some d, .load t x, ty, pos, aft, none⟩ :: rest) (.ex :: tags) ⟨fr, H, O, Kf, E, false⟩ :=
  D.ex h fun us σ' w hle _ hw => by
    have hb := hw.get (i := hf)
    rw [nth_eq] at hv
    have := run_loadVar1 (P := P) (w := w) (b := b) ht.agg off ((cell_blk hb off).trans hv)
    simp [execOp, hx us, Instr.loadAt, Instr.sureAddr, this]
theorem D.ldA (vs : List Value) {b off s : Nat} {cs : List Value} {T : TypeId} {put : HP → List HP} {K' : List HP} [ht : TAgg P t] [hs : TSz P t s] (h : LD P f R k n w0 M σ Kb rest tags ⟨upd fr d (.agg vs.toArray), H, O, Kf, E, false⟩) (hx : ∀ us, ev n (fill fr H us) x = .pointer (some ⟨b, off, none⟩) := by intro _; rfl)
    (hf : FindB b Kb (.cells cs.toArray T (0, 0)) put K' := by infer_instance) (hv : takeAt cs off s = some vs := by rfl) :
    LD P f R k n w0 M σ Kb (⟨some d, .load t x, ty, pos, aft, none⟩ :: rest) (.ex :: tags) ⟨fr, H, O, Kf, E, false⟩ :=
  D.ex h fun us σ' w hle _ hw => by
    have hb := hw.get (i := hf)
    obtain ⟨hl, hc⟩ := takeAt_spec _ _ _ _ hv
    have := run_loadVarA (P := P) (w := w) (b := b) ht.agg hs.eq off hl (fun j hj => (cell_blk hb (off + j)).trans (hc j hj))
    simp [execOp, hx us, Instr.loadAt, Instr.sureAddr, this]
def TLit (e len : Nat) (cs : List Value) : Value → PH → Prop := fun v σ => ∃ b, v = .slice (some ⟨b, 0, none⟩) len len ∧ σ b = some (.cells cs.toArray e (0, 0))
theorem D.bldL {e s : Nat} {zs : List Value} {parts : Array (Nat × Operand)} {len : Nat} (vs cs : List Value) [ht : TSlice P t e] [hs : TSz P e s] [hz : TZero P e zs]
    (h : LD P f R k n w0 M σ Kb rest tags ⟨fr, (d, TLit e len cs) :: H, O, Kf, E, false⟩)
    (hx : ∀ us, parts.toList.map (fun p => (p.1, ev n (fill fr H us) p.2)) = vs.zipIdx.map (fun p => (p.2, p.1)) := by intro _; rfl)
    (hc : catL s vs = some cs := by rfl) (hl : Nat.beq vs.length len = true := by rfl) (hb : Nat.ble (len * s) 16777216 = true := by rfl) :
    LD P f R k n w0 M σ Kb (⟨some d, .buildSlice t len parts, ty, pos, aft, none⟩ :: rest) (.ex :: tags) ⟨fr, H, O, Kf, E, false⟩ :=
  D.bldS (vs := fun _ => vs) (TLit e len cs) (fun _ _ _ ⟨b, h1, h2⟩ hs => ⟨b, h1, hs _ _ h2⟩) h (fun _ _ _ _ => ⟨cs, hc, fun b _ _ _ h => ⟨b, rfl, h⟩⟩) hx (fun _ => hl) hb
theorem D.b2s {e : TypeId} {c0 : Nat} (bs : List Int) (s : Nat) [ht : TSlice P t e] [he : TInt P e .u8] [hd : TStr P t'] (h : LD P f R k n w0 M σ Kb rest tags ⟨upd fr d (.string (bs.foldl (fun r n => r.push (UInt8.ofNat n.toNat)) ByteArray.empty)), H, O, Kf, E, false⟩)
    (ho : ∀ us σ' , PH.le σ σ' → Facts H (readsTmp ⟨some d, .convert t t' (.tmp s), ty, pos, aft, none⟩) us σ' → ∃ b, us s = .slice (some ⟨b, 0, none⟩) bs.length c0 ∧ ∀ j, j < bs.length → σ'.cell b j = (bs.map (Value.int .u8))[j]?)
    (hx : ∀ us, ev n (fill fr H us) (.tmp s) = us s := by intro _; rfl) :
    LD P f R k n w0 M σ Kb (⟨some d, .convert t t' (.tmp s), ty, pos, aft, none⟩ :: rest) (.ex :: tags) ⟨fr, H, O, Kf, E, false⟩ :=
  D.ex h fun us σ' w hle hf hw => by
    obtain ⟨b, h1, h2⟩ := ho us σ' hle hf
    have h3 : (loadCells ⟨b, 0, none⟩ bs.length).run P w = .ok (bs.map (Value.int .u8)).toArray w := by
      have := run_loadFrom (P := P) (w := w) (b := b) (fun j => w.cell? ⟨b, j, none⟩) (fun j v h => h) bs.length 0 0 #[] (bs.map (Value.int .u8)) (by simp) (fun j hj => by
        have h4 := h2 j hj
        rw [List.getElem?_eq_getElem (by simpa using hj)] at h4 ⊢
        simpa using hw.cell h4)
      simpa [loadCells] using this
    have := run_bytesToString (P := P) w ⟨b, 0, none⟩ bs.length c0 bs h3
    simp only [execOp, hx us, h1]
    rw [Sem.run_bind, run_convert_bytes_string w t t' e _ _ _ ht.eq he.eq hd.eq, this]
    rfl
theorem D.mv {v : Value} (h : LD P f R k n w0 M σ Kb rest tags ⟨upd fr d v, H, O, Kf, E, sg⟩) (hx : ∀ us, ev n (fill fr H us) x = v := by intro _; rfl) :
    LD P f R k n w0 M σ Kb (⟨some d, .move x, ty, pos, aft, none⟩ :: rest) (.free :: tags) ⟨fr, H, O, Kf, E, sg⟩ :=
  D.free h fun us w => by simp [execOp, (hx us)]
theorem D.as_ {v : Value} (h : LD P f R k n w0 M σ Kb rest tags ⟨upd fr d v, H, O, Kf, E, sg⟩) (hx : ∀ us, ev n (fill fr H us) x = v := by intro _; rfl) :
    LD P f R k n w0 M σ Kb (⟨some d, .assign x, ty, pos, aft, none⟩ :: rest) (.free :: tags) ⟨fr, H, O, Kf, E, sg⟩ :=
  D.free h fun us w => by simp [execOp, (hx us)]
theorem D.mvI {kk : IntKind} {m : Int} (h : LD P f R k n w0 M σ Kb rest tags ⟨upd fr d (.int kk m), H, O, Kf, E, sg⟩) (hx : ∀ us, ev n (fill fr H us) x = .int kk m := by intro _; rfl) :
    LD P f R k n w0 M σ Kb (⟨some d, .move x, ty, pos, aft, none⟩ :: rest) (.free :: tags) ⟨fr, H, O, Kf, E, sg⟩ :=
  D.mv h hx
theorem D.asI {kk : IntKind} {m : Int} (h : LD P f R k n w0 M σ Kb rest tags ⟨upd fr d (.int kk m), H, O, Kf, E, sg⟩) (hx : ∀ us, ev n (fill fr H us) x = .int kk m := by intro _; rfl) :
    LD P f R k n w0 M σ Kb (⟨some d, .assign x, ty, pos, aft, none⟩ :: rest) (.free :: tags) ⟨fr, H, O, Kf, E, sg⟩ :=
  D.as_ h hx
theorem D.mvB {m : Bool} (h : LD P f R k n w0 M σ Kb rest tags ⟨upd fr d (.bool m), H, O, Kf, E, sg⟩) (hx : ∀ us, ev n (fill fr H us) x = .bool m := by intro _; rfl) :
    LD P f R k n w0 M σ Kb (⟨some d, .move x, ty, pos, aft, none⟩ :: rest) (.free :: tags) ⟨fr, H, O, Kf, E, sg⟩ :=
  D.mv h hx
theorem D.asB {m : Bool} (h : LD P f R k n w0 M σ Kb rest tags ⟨upd fr d (.bool m), H, O, Kf, E, sg⟩) (hx : ∀ us, ev n (fill fr H us) x = .bool m := by intro _; rfl) :
    LD P f R k n w0 M σ Kb (⟨some d, .assign x, ty, pos, aft, none⟩ :: rest) (.free :: tags) ⟨fr, H, O, Kf, E, sg⟩ :=
  D.as_ h hx
theorem D.mvS {m : ByteArray} (h : LD P f R k n w0 M σ Kb rest tags ⟨upd fr d (.string m), H, O, Kf, E, sg⟩) (hx : ∀ us, ev n (fill fr H us) x = .string m := by intro _; rfl) :
    LD P f R k n w0 M σ Kb (⟨some d, .move x, ty, pos, aft, none⟩ :: rest) (.free :: tags) ⟨fr, H, O, Kf, E, sg⟩ :=
  D.mv h hx
theorem D.asS {m : ByteArray} (h : LD P f R k n w0 M σ Kb rest tags ⟨upd fr d (.string m), H, O, Kf, E, sg⟩) (hx : ∀ us, ev n (fill fr H us) x = .string m := by intro _; rfl) :
    LD P f R k n w0 M σ Kb (⟨some d, .assign x, ty, pos, aft, none⟩ :: rest) (.free :: tags) ⟨fr, H, O, Kf, E, sg⟩ :=
  D.as_ h hx
theorem D.mvL {m : Option Addr} {l c : Nat} (h : LD P f R k n w0 M σ Kb rest tags ⟨upd fr d (.slice m l c), H, O, Kf, E, sg⟩) (hx : ∀ us, ev n (fill fr H us) x = .slice m l c := by intro _; rfl) :
    LD P f R k n w0 M σ Kb (⟨some d, .move x, ty, pos, aft, none⟩ :: rest) (.free :: tags) ⟨fr, H, O, Kf, E, sg⟩ :=
  D.mv h hx
theorem D.asL {m : Option Addr} {l c : Nat} (h : LD P f R k n w0 M σ Kb rest tags ⟨upd fr d (.slice m l c), H, O, Kf, E, sg⟩) (hx : ∀ us, ev n (fill fr H us) x = .slice m l c := by intro _; rfl) :
    LD P f R k n w0 M σ Kb (⟨some d, .assign x, ty, pos, aft, none⟩ :: rest) (.free :: tags) ⟨fr, H, O, Kf, E, sg⟩ :=
  D.as_ h hx
theorem D.mvP {m : Option Addr} (h : LD P f R k n w0 M σ Kb rest tags ⟨upd fr d (.pointer m), H, O, Kf, E, sg⟩) (hx : ∀ us, ev n (fill fr H us) x = .pointer m := by intro _; rfl) :
    LD P f R k n w0 M σ Kb (⟨some d, .move x, ty, pos, aft, none⟩ :: rest) (.free :: tags) ⟨fr, H, O, Kf, E, sg⟩ :=
  D.mv h hx
theorem D.asP {m : Option Addr} (h : LD P f R k n w0 M σ Kb rest tags ⟨upd fr d (.pointer m), H, O, Kf, E, sg⟩) (hx : ∀ us, ev n (fill fr H us) x = .pointer m := by intro _; rfl) :
    LD P f R k n w0 M σ Kb (⟨some d, .assign x, ty, pos, aft, none⟩ :: rest) (.free :: tags) ⟨fr, H, O, Kf, E, sg⟩ :=
  D.as_ h hx
theorem D.mvT {m : Array Value} (h : LD P f R k n w0 M σ Kb rest tags ⟨upd fr d (.tuple m), H, O, Kf, E, sg⟩) (hx : ∀ us, ev n (fill fr H us) x = .tuple m := by intro _; rfl) :
    LD P f R k n w0 M σ Kb (⟨some d, .move x, ty, pos, aft, none⟩ :: rest) (.free :: tags) ⟨fr, H, O, Kf, E, sg⟩ :=
  D.mv h hx
theorem D.mvF {m : Fn} {l c : Array Value} (h : LD P f R k n w0 M σ Kb rest tags ⟨upd fr d (.func m l c), H, O, Kf, E, sg⟩) (hx : ∀ us, ev n (fill fr H us) x = .func m l c := by intro _; rfl) :
    LD P f R k n w0 M σ Kb (⟨some d, .move x, ty, pos, aft, none⟩ :: rest) (.free :: tags) ⟨fr, H, O, Kf, E, sg⟩ :=
  D.mv h hx
theorem D.addI {kk : IntKind} {a b : Int} (h : LD P f R k n w0 M σ Kb rest tags ⟨upd fr d (.int kk (kk.wrap (a + b))), H, O, Kf, E, sg⟩) (hx : ∀ us, ev n (fill fr H us) x = .int kk a := by intro _; rfl) (hy : ∀ us, ev n (fill fr H us) y = .int kk b := by intro _; rfl) :
    LD P f R k n w0 M σ Kb (⟨some d, .binOp .add t x y t', ty, pos, aft, none⟩ :: rest) (.free :: tags) ⟨fr, H, O, Kf, E, sg⟩ :=
  D.free h fun us w => exec_bin (hx us) (hy us) (by simp [binOp, Op.intArith])
theorem D.subI {kk : IntKind} {a b : Int} (h : LD P f R k n w0 M σ Kb rest tags ⟨upd fr d (.int kk (kk.wrap (a - b))), H, O, Kf, E, sg⟩) (hx : ∀ us, ev n (fill fr H us) x = .int kk a := by intro _; rfl) (hy : ∀ us, ev n (fill fr H us) y = .int kk b := by intro _; rfl) :
    LD P f R k n w0 M σ Kb (⟨some d, .binOp .sub t x y t', ty, pos, aft, none⟩ :: rest) (.free :: tags) ⟨fr, H, O, Kf, E, sg⟩ :=
  D.free h fun us w => exec_bin (hx us) (hy us) (by simp [binOp, Op.intArith])
theorem D.remI {kk : IntKind} {a b : Int} (h : LD P f R k n w0 M σ Kb rest tags ⟨upd fr d (.int kk (a.tmod b)), H, O, Kf, E, sg⟩) (hx : ∀ us, ev n (fill fr H us) x = .int kk a := by intro _; rfl) (hy : ∀ us, ev n (fill fr H us) y = .int kk b := by intro _; rfl) (hb : b ≠ 0 := by omega) :
    LD P f R k n w0 M σ Kb (⟨some d, .binOp .rem t x y t', ty, pos, aft, none⟩ :: rest) (.free :: tags) ⟨fr, H, O, Kf, E, sg⟩ :=
  D.free h fun us w => exec_bin (hx us) (hy us) (by simp [binOp, Op.intDiv, hb])
theorem D.ltI {kk : IntKind} {a b : Int} (h : LD P f R k n w0 M σ Kb rest tags ⟨upd fr d (.bool (decide (a < b))), H, O, Kf, E, sg⟩) (hx : ∀ us, ev n (fill fr H us) x = .int kk a := by intro _; rfl) (hy : ∀ us, ev n (fill fr H us) y = .int kk b := by intro _; rfl) :
    LD P f R k n w0 M σ Kb (⟨some d, .binOp .lss t x y t', ty, pos, aft, none⟩ :: rest) (.free :: tags) ⟨fr, H, O, Kf, E, sg⟩ :=
  D.free h fun us w => exec_bin (hx us) (hy us) (by simp [binOp, Op.intCmp])
theorem D.leI {kk : IntKind} {a b : Int} (h : LD P f R k n w0 M σ Kb rest tags ⟨upd fr d (.bool (decide (a ≤ b))), H, O, Kf, E, sg⟩) (hx : ∀ us, ev n (fill fr H us) x = .int kk a := by intro _; rfl) (hy : ∀ us, ev n (fill fr H us) y = .int kk b := by intro _; rfl) :
    LD P f R k n w0 M σ Kb (⟨some d, .binOp .leq t x y t', ty, pos, aft, none⟩ :: rest) (.free :: tags) ⟨fr, H, O, Kf, E, sg⟩ :=
  D.free h fun us w => exec_bin (hx us) (hy us) (by simp [binOp, Op.intCmp])
theorem D.gtI {kk : IntKind} {a b : Int} (h : LD P f R k n w0 M σ Kb rest tags ⟨upd fr d (.bool (decide (b < a))), H, O, Kf, E, sg⟩) (hx : ∀ us, ev n (fill fr H us) x = .int kk a := by intro _; rfl) (hy : ∀ us, ev n (fill fr H us) y = .int kk b := by intro _; rfl) :
    LD P f R k n w0 M σ Kb (⟨some d, .binOp .gtr t x y t', ty, pos, aft, none⟩ :: rest) (.free :: tags) ⟨fr, H, O, Kf, E, sg⟩ :=
  D.free h fun us w => exec_bin (hx us) (hy us) (by simp [binOp, Op.intCmp])
theorem D.geI {kk : IntKind} {a b : Int} (h : LD P f R k n w0 M σ Kb rest tags ⟨upd fr d (.bool (decide (b ≤ a))), H, O, Kf, E, sg⟩) (hx : ∀ us, ev n (fill fr H us) x = .int kk a := by intro _; rfl) (hy : ∀ us, ev n (fill fr H us) y = .int kk b := by intro _; rfl) :
    LD P f R k n w0 M σ Kb (⟨some d, .binOp .geq t x y t', ty, pos, aft, none⟩ :: rest) (.free :: tags) ⟨fr, H, O, Kf, E, sg⟩ :=
  D.free h fun us w => exec_bin (hx us) (hy us) (by simp [binOp, Op.intCmp])
theorem D.eqI {kk : IntKind} {a b : Int} (h : LD P f R k n w0 M σ Kb rest tags ⟨upd fr d (.bool (decide (a = b))), H, O, Kf, E, sg⟩) (hx : ∀ us, ev n (fill fr H us) x = .int kk a := by intro _; rfl) (hy : ∀ us, ev n (fill fr H us) y = .int kk b := by intro _; rfl) :
    LD P f R k n w0 M σ Kb (⟨some d, .binOp .eql t x y t', ty, pos, aft, none⟩ :: rest) (.free :: tags) ⟨fr, H, O, Kf, E, sg⟩ :=
  D.free h fun us w => exec_bin (hx us) (hy us) (by simp [binOp, Op.intCmp]; rfl)
theorem D.neI {kk : IntKind} {a b : Int} (h : LD P f R k n w0 M σ Kb rest tags ⟨upd fr d (.bool (!decide (a = b))), H, O, Kf, E, sg⟩) (hx : ∀ us, ev n (fill fr H us) x = .int kk a := by intro _; rfl) (hy : ∀ us, ev n (fill fr H us) y = .int kk b := by intro _; rfl) :
    LD P f R k n w0 M σ Kb (⟨some d, .binOp .neq t x y t', ty, pos, aft, none⟩ :: rest) (.free :: tags) ⟨fr, H, O, Kf, E, sg⟩ :=
  D.free h fun us w => exec_bin (hx us) (hy us) (by simp [binOp, Op.intCmp]; rfl)
theorem D.addS {a b : ByteArray} (h : LD P f R k n w0 M σ Kb rest tags ⟨upd fr d (.string (a ++ b)), H, O, Kf, E, sg⟩) (hx : ∀ us, ev n (fill fr H us) x = .string a := by intro _; rfl) (hy : ∀ us, ev n (fill fr H us) y = .string b := by intro _; rfl) (hs : a.size + b.size ≤ 9223372036854775807 := by omega) :
    LD P f R k n w0 M σ Kb (⟨some d, .binOp .add t x y t', ty, pos, aft, none⟩ :: rest) (.free :: tags) ⟨fr, H, O, Kf, E, sg⟩ :=
  D.free h fun us w => exec_binS (hx us) (hy us) (by
    simp only [binOp, Op.stringOp]
    have e : IntKind.i64.max = 9223372036854775807 := rfl
    rw [if_neg (by rw [e]; omega)]; rfl)
theorem D.neS {a b : ByteArray} (h : LD P f R k n w0 M σ Kb rest tags ⟨upd fr d (.bool (!decide (a = b))), H, O, Kf, E, sg⟩) (hx : ∀ us, ev n (fill fr H us) x = .string a := by intro _; rfl) (hy : ∀ us, ev n (fill fr H us) y = .string b := by intro _; rfl) :
    LD P f R k n w0 M σ Kb (⟨some d, .binOp .neq t x y t', ty, pos, aft, none⟩ :: rest) (.free :: tags) ⟨fr, H, O, Kf, E, sg⟩ :=
  D.free h fun us w => exec_binS (hx us) (hy us) (by simp only [binOp, Op.stringOp, str_beq]; rfl)
theorem D.geS {a b : ByteArray} (h : LD P f R k n w0 M σ Kb rest tags ⟨upd fr d (.bool (!sLt a b)), H, O, Kf, E, sg⟩) (hx : ∀ us, ev n (fill fr H us) x = .string a := by intro _; rfl) (hy : ∀ us, ev n (fill fr H us) y = .string b := by intro _; rfl) :
    LD P f R k n w0 M σ Kb (⟨some d, .binOp .geq t x y t', ty, pos, aft, none⟩ :: rest) (.free :: tags) ⟨fr, H, O, Kf, E, sg⟩ :=
  D.free h fun us w => exec_binS (hx us) (hy us) (by simp only [binOp, Op.stringOp]; rfl)
theorem D.not_ {b : Bool} (h : LD P f R k n w0 M σ Kb rest tags ⟨upd fr d (.bool (!b)), H, O, Kf, E, sg⟩) (hx : ∀ us, ev n (fill fr H us) x = .bool b := by intro _; rfl) :
    LD P f R k n w0 M σ Kb (⟨some d, .unOp .not t x, ty, pos, aft, none⟩ :: rest) (.free :: tags) ⟨fr, H, O, Kf, E, sg⟩ :=
  D.free h fun us w => by simp [execOp, (hx us), Op.unary]
theorem D.pk {c : Bool} {v : Value} (h : LD P f R k n w0 M σ Kb rest tags ⟨upd fr d v, H, O, Kf, E, sg⟩) (hx : ∀ us, ev n (fill fr H us) x = .bool c := by intro _; rfl) (hv : ∀ us, (bif c then ev n (fill fr H us) y else ev n (fill fr H us) z) = v := by intro _; rfl) :
    LD P f R k n w0 M σ Kb (⟨some d, .pick x y z, ty, pos, aft, none⟩ :: rest) (.free :: tags) ⟨fr, H, O, Kf, E, sg⟩ :=
  D.free h fun us w => by have hv := hv us; subst hv; cases c <;> simp [execOp, (hx us), asBool]
theorem D.cvI {kk kd : IntKind} {a : Int} [hs : TInt P t kk] [hd : TInt P t' kd] (h : LD P f R k n w0 M σ Kb rest tags ⟨upd fr d (.int kd (kd.wrap a)), H, O, Kf, E, sg⟩) (hx : ∀ us, ev n (fill fr H us) x = .int kk a := by intro _; rfl) :
    LD P f R k n w0 M σ Kb (⟨some d, .convert t t' x, ty, pos, aft, none⟩ :: rest) (.free :: tags) ⟨fr, H, O, Kf, E, sg⟩ :=
  D.free h fun us w => by simp [execOp, (hx us), convert, run_underlying hs.eq, run_underlying hd.eq, Conv.intToInt]
theorem D.extr {l : List Value} {i : Nat} {v : Value} (h : LD P f R k n w0 M σ Kb rest tags ⟨upd fr d v, H, O, Kf, E, sg⟩) (hx : ∀ us, ev n (fill fr H us) x = .tuple l.toArray := by intro _; rfl) (hv : nth l i = some v := by rfl) :
    LD P f R k n w0 M σ Kb (⟨some d, .extract x i, ty, pos, aft, none⟩ :: rest) (.free :: tags) ⟨fr, H, O, Kf, E, sg⟩ :=
  D.free h fun us w => by rw [nth_eq] at hv; simp [execOp, (hx us), Instr.extract, hv]
theorem D.nilck {a : Addr} (h : LD P f R k n w0 M σ Kb rest tags ⟨upd fr d (.pointer (some a)), H, O, Kf, E, sg⟩) (hx : ∀ us, ev n (fill fr H us) x = .pointer (some a) := by intro _; rfl) :
    LD P f R k n w0 M σ Kb (⟨some d, .nilCheck x, ty, pos, aft, none⟩ :: rest) (.free :: tags) ⟨fr, H, O, Kf, E, sg⟩ :=
  D.free h fun us w => by simp [execOp, (hx us)]
theorem D.fld {b off i o s : Nat} [hf : TFld P t i o s] (h : LD P f R k n w0 M σ Kb rest tags ⟨upd fr d (.pointer (some ⟨b, off + o, none⟩)), H, O, Kf, E, sg⟩) (hx : ∀ us, ev n (fill fr H us) x = .pointer (some ⟨b, off, none⟩) := by intro _; rfl) :
    LD P f R k n w0 M σ Kb (⟨some d, .fieldAddr t x i, ty, pos, aft, none⟩ :: rest) (.free :: tags) ⟨fr, H, O, Kf, E, sg⟩ :=
  D.free h fun us w => by
    have h1 := hf.eq
    unfold fldOf at h1
    cases hu : P.underlying t with
    | none => simp [hu] at h1
    | some dd =>
      cases dd <;> simp [hu] at h1
      rename_i fs
      cases hi : fs[i]? with
      | none => simp [hi] at h1
      | some fd =>
        simp [hi] at h1
        obtain ⟨hs, ho⟩ := h1
        have hsz := run_sz (P := P) (t := fd.type) w hs
        simp [execOp, (hx us), Instr.fieldAt, run_underlying hu, hi, Instr.sureAddr, fieldPlace, hsz, ho, add_off]
theorem D.idx {b off len cap i s : Nat} {e : TypeId} [ht : TSlice P t e] [hs : TSz P e s] {kk : IntKind} {j : Int} (h : LD P f R k n w0 M σ Kb rest tags ⟨upd fr d (.pointer (some ⟨b, off + i * s, none⟩)), H, O, Kf, E, sg⟩)     (hx : ∀ us, ev n (fill fr H us) x = .slice (some ⟨b, off, none⟩) len cap := by intro _; rfl) (hy : ∀ us, ev n (fill fr H us) y = .int kk j := by intro _; rfl) (hj : j = (i : Int) := by rfl) (hi : i < len := by omega) :
    LD P f R k n w0 M σ Kb (⟨some d, .indexAddr t x y, ty, pos, aft, none⟩ :: rest) (.free :: tags) ⟨fr, H, O, Kf, E, sg⟩ :=
  D.free h fun us w => by
    subst hj
    simp [execOp, (hx us), (hy us), Instr.indexAt, asIntOf, run_underlying ht.eq, hi, run_sz w hs.eq, add_off]
theorem D.lenL {a : Option Addr} {len cap : Nat} {e : TypeId} [ht : TSlice P t e] (h : LD P f R k n w0 M σ Kb rest tags ⟨upd fr d (.int .i64 len), H, O, Kf, E, sg⟩) (hx : ∀ us, ev n (fill fr H us) x = .slice a len cap := by intro _; rfl) :
    LD P f R k n w0 M σ Kb (⟨some d, .call ⟨.builtin .len, #[x], #[t]⟩, ty, pos, aft, none⟩ :: rest) (.free :: tags) ⟨fr, H, O, Kf, E, sg⟩ :=
  D.free h fun us w => by simp [execOp, resolve, invoke, builtin, (hx us), Builtin.len_, run_underlying ht.eq, goInt]
theorem D.addN {a b : Int} (h : LD P f R k n w0 M σ Kb rest tags ⟨upd fr d (.int .i64 (a + b)), H, O, Kf, E, sg⟩) (hx : ∀ us, ev n (fill fr H us) x = .int .i64 a := by intro _; rfl) (hy : ∀ us, ev n (fill fr H us) y = .int .i64 b := by intro _; rfl) (h1 : -9223372036854775808 ≤ a + b := by omega) (h2 : a + b ≤ 9223372036854775807 := by omega) :
    LD P f R k n w0 M σ Kb (⟨some d, .binOp .add t x y t', ty, pos, aft, none⟩ :: rest) (.free :: tags) ⟨fr, H, O, Kf, E, sg⟩ :=
  D.addI (by rw [wrapEq h1 h2]; exact h) hx hy
theorem D.subN {a b : Int} (h : LD P f R k n w0 M σ Kb rest tags ⟨upd fr d (.int .i64 (a - b)), H, O, Kf, E, sg⟩) (hx : ∀ us, ev n (fill fr H us) x = .int .i64 a := by intro _; rfl) (hy : ∀ us, ev n (fill fr H us) y = .int .i64 b := by intro _; rfl) (h1 : -9223372036854775808 ≤ a - b := by omega) (h2 : a - b ≤ 9223372036854775807 := by omega) :
    LD P f R k n w0 M σ Kb (⟨some d, .binOp .sub t x y t', ty, pos, aft, none⟩ :: rest) (.free :: tags) ⟨fr, H, O, Kf, E, sg⟩ :=
  D.subI (by rw [wrapEq h1 h2]; exact h) hx hy
theorem D.bld {pl : List (Nat × Nat)} {zs : List Value} {parts : Array (Nat × Operand)} {vals : List (Nat × Value)} (cs : List Value) [hp : TPl P t pl] [hz : TZero P t zs] (h : LD P f R k n w0 M σ Kb rest tags ⟨upd fr d (.agg cs.toArray), H, O, Kf, E, sg⟩)     (hx : ∀ us, parts.toList.map (fun p => (p.1, ev n (fill fr H us) p.2)) = vals := by intro _; rfl) (hc : fillL (nthP pl) zs vals = some cs := by rfl) :
    LD P f R k n w0 M σ Kb (⟨some d, .build t parts, ty, pos, aft, none⟩ :: rest) (.free :: tags) ⟨fr, H, O, Kf, E, sg⟩ :=
  D.free h fun us w => by
    have e : (parts.map fun (i, x) => (i, ev n (fill fr H us) x)) = vals.toArray := by rw [← hx us]; cases parts; simp
    simp [execOp, e, run_build w hp.eq hz.eq hc]
theorem D.slc (l hh m : Nat) {a : Option Addr} {len cap s : Nat} {e : TypeId} {lo hi mx : Option Operand} [ht : TSlice P t e] [hs : TSz P e s]
    (h : LD P f R k n w0 M σ Kb rest tags ⟨upd fr d (.slice (if m = l then a else a.map (·.add (l * s))) (hh - l) (m - l)), H, O, Kf, E, sg⟩) (hx : ∀ us, ev n (fill fr H us) x = .slice a len cap := by intro _; rfl)
    (hb : ∀ us w, (Instr.sliceBounds true len cap (lo.map (ev n (fill fr H us))) (hi.map (ev n (fill fr H us))) (mx.map (ev n (fill fr H us)))).run P w = .ok (l, hh, m) w) :
    LD P f R k n w0 M σ Kb (⟨some d, .slice t x lo hi mx, ty, pos, aft, none⟩ :: rest) (.free :: tags) ⟨fr, H, O, Kf, E, sg⟩ :=
  D.free h fun us w => by
    simp [execOp, (hx us), Instr.sliceAt, run_underlying ht.eq, Instr.slice, hb us, run_sz w hs.eq]

end
end Go.JW
namespace Go.JW

def CellsL {α : Type} [Rep α] (σ : PH) : List Value → List α → Prop
  | cs, [] => cs = []
  | cs, x :: l => ∃ c1 c2, cs = c1 ++ c2 ∧ Rep.rep σ c1 x ∧ CellsL σ c2 l
section
variable {α : Type} [Rep α] {σ σ' : PH}
theorem CellsL.len : ∀ {l : List α} {cs : List Value}, CellsL σ cs l → cs.length = l.length * Rep.sz α := by
  intro l
  induction l with
  | nil => intro cs h; simp only [CellsL] at h; subst h; simp
  | cons x l ih => rintro cs ⟨c1, c2, rfl, h1, h2⟩; rw [List.length_append, Rep.len h1, ih h2, List.length_cons, Nat.succ_mul]; omega
theorem CellsL.mono (hs : PH.le σ σ') : ∀ {l : List α} {cs : List Value}, CellsL σ cs l → CellsL σ' cs l := by
  intro l
  induction l with
  | nil => intro cs h; exact h
  | cons x l ih => rintro cs ⟨c1, c2, rfl, h1, h2⟩; exact ⟨c1, c2, rfl, Rep.mono h1 hs, ih h2⟩
theorem CellsL.one : ∀ {l : List α} {cs : List Value}, CellsL σ cs l → cs.all (·.oneCell') = true := by
  intro l
  induction l with
  | nil => intro cs h; simp only [CellsL] at h; subst h; rfl
  | cons x l ih => rintro cs ⟨c1, c2, rfl, h1, h2⟩; rw [List.all_append, Rep.one h1, ih h2]; rfl
theorem CellsL.append : ∀ {l : List α} {cs : List Value} {l' : List α} {cs' : List Value}, CellsL σ cs l → CellsL σ cs' l' → CellsL σ (cs ++ cs') (l ++ l') := by
  intro l
  induction l with
  | nil => intro cs l' cs' h h'; simp only [CellsL] at h; subst h; exact h'
  | cons x l ih => rintro cs l' cs' ⟨c1, c2, rfl, h1, h2⟩ h'; exact ⟨c1, c2 ++ cs', by simp, h1, ih h2 h'⟩
theorem CellsL.one_ {x : α} {cs : List Value} (h : Rep.rep σ cs x) : CellsL σ cs [x] := ⟨cs, [], by simp, h, rfl⟩
theorem CellsL.rowAt {b : Nat} : ∀ {l : List α} {cs : List Value} {o : Nat}, CellsL σ cs l → (∀ j, j < cs.length → σ.cell b (o + j) = cs[j]?) → RowAt σ b o l := by
  intro l
  induction l with
  | nil => intro cs o _ _ i hi; simp at hi
  | cons x l ih =>
    rintro cs o ⟨c1, c2, rfl, h1, h2⟩ hc i hi
    have hl := Rep.len h1
    cases i with
    | zero =>
      refine ⟨c1, fun j hj => ?_, h1⟩
      have := hc j (by rw [List.length_append]; omega)
      rw [List.getElem?_append_left (by omega)] at this
      simpa using this
    | succ i =>
      obtain ⟨vs, g1, g2⟩ := ih (o := o + c1.length) h2 (fun j hj => by
        have := hc (c1.length + j) (by rw [List.length_append]; omega)
        rw [List.getElem?_append_right (by omega), show c1.length + j - c1.length = j by omega] at this
        rw [← this]; congr 1; omega) i (by simpa using hi)
      refine ⟨vs, fun j hj => ?_, by simpa using g2⟩
      rw [← g1 j hj]; congr 1; rw [hl, Nat.succ_mul]; omega
theorem RowAt.cells {b : Nat} : ∀ {l : List α} {o : Nat}, RowAt σ b o l → ∃ cs, CellsL σ cs l ∧ ∀ j, j < cs.length → σ.cell b (o + j) = cs[j]? := by
  intro l
  induction l with
  | nil => intro o _; exact ⟨[], rfl, fun j hj => by simp at hj⟩
  | cons x l ih =>
    intro o h
    obtain ⟨vs, g1, g2⟩ := h 0 (by simp)
    obtain ⟨cs, g3, g4⟩ := ih (o := o + Rep.sz α) (fun i hi => by
      obtain ⟨vs, k1, k2⟩ := h (i + 1) (by simpa using hi)
      refine ⟨vs, fun j hj => ?_, by simpa using k2⟩
      rw [← k1 j hj]; congr 1; rw [Nat.succ_mul]; omega)
    have hl := Rep.len g2
    refine ⟨vs ++ cs, ⟨vs, cs, rfl, by simpa using g2, g3⟩, fun j hj => ?_⟩
    by_cases hj' : j < vs.length
    · rw [List.getElem?_append_left hj']
      have := g1 j (by omega)
      simpa using this
    · rw [List.getElem?_append_right (by omega)]
      rw [List.length_append] at hj
      have := g4 (j - vs.length) (by omega)
      rw [← this]; congr 1; omega
theorem RepL.cells {a : Option Addr} {m cap : Nat} {l : List α} (h : RepL σ (.slice a m cap) l) : ∃ cs, CellsL σ cs l ∧ (l ≠ [] → ∃ b o, a = some ⟨b, o, none⟩ ∧ ∀ j, j < cs.length → σ.cell b (o + j) = cs[j]?) := by
  by_cases hn : l = []
  · subst hn; exact ⟨[], rfl, fun h => absurd rfl h⟩
  · obtain ⟨b, o, e, r⟩ := h.addr hn
    obtain ⟨cs, h1, h2⟩ := r.cells
    exact ⟨cs, h1, fun _ => ⟨b, o, e, h2⟩⟩
end
section
variable {α : Type} [Rep α] {w0 w : World} {M : Nat → Prop} {σ τ : PH} {K K' : List HP}
theorem Sat.rowNew {v : Value} {e s m : Nat} {cs : List Value} {put : HP → List HP} {l : List α} (hw : Sat w0 (fun _ => False) σ K w) (hc : CellsL τ cs l) (ht : PH.le τ (since w0 w)) (hl : l.length ≤ 140737488355328) (hf : FindR v K e s m cs put K' := by infer_instance) (hs : s = Rep.sz α := by rfl) (hm : m = l.length := by first | rfl | simp | omega) :
    RepL (since w0 w) v l := by
  obtain ⟨a, cap, σ', rfl, h2, h3, h4, h5, h6, h7⟩ := hw.freezeRow hf
  subst hs; subst hm
  refine ⟨hl, a, cap, rfl, h2, fun hn => ?_⟩
  rcases h7 with ⟨h8, _⟩ | ⟨b, rfl, g1, _, g2, g3⟩
  · exact absurd (List.eq_nil_of_length_eq_zero h8) hn
  · refine ⟨b, 0, rfl, (hc.mono ht).rowAt fun j hj => ?_⟩
    rw [hc.len] at hj
    have := g3 j hj
    rw [Nat.zero_add, ← this]
    have hb : ¬ b < w0.heap.size := fun h => g1 h
    show (match (if w0.heap.size ≤ b then w.heap[b]? else none) with | some (.cells c _ _) => c[j]? | _ => none) = match σ' b with | some (.cells c _ _) => c[j]? | _ => none
    rw [if_pos (by omega), g2]; rfl
end
section
variable {P : Program} {q : Bool} {ops : Array Oper} {f : FuncId} {R : Ending → World → Prop} {k : List Item} {n : Nat} {fr : Nat → Value} {w0 : World} {M : Nat → Prop} {σ : PH} {K K' : List HP}
variable {rest : List Oper} {d : Nat} {ty : TypeId} {pos : String} {aft : Array Edge} {x y z : Operand} {t t' : TypeId}
theorem callT {g : FuncId} {xs : Array Operand} {ts : Array TypeId} {args : List Value} (Q : Value → PH → Prop) [i : Fun P g]
    (h : ∀ v τ σ', Q v τ → New w0 τ → PH.le σ σ' → PH.le τ σ' → LS P false ops f R k rest n (upd fr d v) w0 M σ' K)
    (hc : ∀ w, Sat w0 M σ K w → Calls P g args.toArray w fun e w' => ∃ v, e = .returned v ∧ RowKit.Below w.heap.size w w' ∧ Q v (since w w')) (hx : xs.toList.map (ev n fr) = args := by rfl) :
    LS P false ops f R k (⟨some d, .call ⟨.value (.func g), xs, ts⟩, ty, pos, aft, none⟩ :: rest) n fr w0 M σ K :=
  callN (Q := fun v τ _ => Q v τ ∧ New w0 τ) (fun v τ σ' ⟨h1, h2⟩ h3 h4 => h v τ σ' h1 h2 h3 h4) hx (fun w hw => (hc w hw).mono fun _ _ ⟨v, h1, h2, h3⟩ => ⟨v, h1, h2, h3, New.since hw.size⟩)
theorem run_results1 {fn : Func} {r : ResultVar} {v : Value} {tmps : Array Value} {w : World} (h : fn.results = #[r]) (hv : (match r with | .tmp t => pure (tmps.getD t undef) | .cell a t => do loadVar t (← asAddr (tmps.getD a undef)) : Sem Value).run P w = .ok v w) : (results fn tmps).run P w = .ok v w := by
  cases r <;> simp only [results, h] <;> simp at hv ⊢ <;> simp [hv]
theorem tmps_at {t : Nat} {v : Value} (hv : ev n fr (.tmp t) = v) : (act n fr).tmps.getD t undef = v := by
  have := congrFun (act_eval n fr) (.tmp t); simp only [Act.eval] at this; rw [this, hv]
theorem RS.retC {fn : Func} {t b s : Nat} {cs : List Value} {ty T : TypeId} {put : HP → List HP} (hf : P.funcs[f]? = some fn) (vs : List Value) [ha : TAgg P ty] [hs : TSz P ty s] (h : ∀ w, Sat w0 M σ K w → R (.returned (.agg vs.toArray)) w)
    (hr : fn.results = #[.cell t ty] := by rfl) (hv : ev n fr (.tmp t) = .pointer (some ⟨b, 0, none⟩) := by rfl) (hb : FindB b K (.cells cs.toArray T (0, 0)) put K' := by infer_instance) (hc : takeAt cs 0 s = some vs := by rfl) :
    RS P f R (.code .ret :: k) n fr w0 M σ K := by
  refine ⟨fun w hw => ?_⟩
  refine Run.ret hf (run_results1 hr ?_) rfl (h w hw)
  have hbb := hw.get (i := hb)
  obtain ⟨hl, hcc⟩ := takeAt_spec _ _ _ _ hc
  have := run_loadVarA (P := P) (w := w) (b := b) ha.agg hs.eq 0 hl (fun j hj => (cell_blk hbb (0 + j)).trans (hcc j hj))
  simp only [tmps_at hv]
  simp [asAddr, this]
theorem LS.asRow {l : List Oper} {e b m s : Nat} {cs : List Value} {put : HP → List HP} (hf : FindB b K (.cells cs.toArray e (0, 0)) put K') (hset : ∀ {A : HP} {g : VH} {F : Nat → Prop}, SepIn g (A :: K') F → SepIn g (put A) F) (hl : cs.length = m * s) (h1 : cs.all (·.oneCell') = true) (hm : m ≤ 9223372036854775807)
    (h : LS P false ops f R k l n fr w0 M σ (put (rowH e s (.slice (some ⟨b, 0, none⟩) m m) m cs))) : LS P false ops f R k l n fr w0 M σ K :=
  ⟨fun w hw => h.out w (hw.weak fun F hF => by
    obtain ⟨F1, ⟨g1, g2⟩, g3, g4⟩ := hf.get hF
    exact hset ⟨F1, ⟨hl, h1, _, _, rfl, Nat.le_refl _, hm, .inr ⟨b, cs, rfl, g1, g2, Nat.le_of_eq hl.symm, by rw [← hl]; simp⟩⟩, g3, g4⟩)⟩
theorem Sat.rowRep {α : Type} [Rep α] {τ : PH} {w : World} {v : Value} {e s m : Nat} {cs : List Value} {put : HP → List HP} {l : List α} (hw : Sat w0 M σ K w) (hc : CellsL τ cs l) (ht : PH.le τ (hp w)) (hl : l.length ≤ 140737488355328) (hf : FindR v K e s m cs put K' := by infer_instance) (hs : s = Rep.sz α := by rfl) (hm : m = l.length := by first | rfl | simp | omega) : RepL (hp w) v l := by
  obtain ⟨F, ⟨h1, h1c, a, cap, rfl, h2, h3, h4⟩, _⟩ := hw.getR (i := hf)
  subst hs; subst hm
  refine ⟨hl, a, cap, rfl, h2, fun hn => ?_⟩
  rcases h4 with ⟨h8, _⟩ | ⟨b, c0, rfl, _, g1, _, g3⟩
  · exact absurd (List.eq_nil_of_length_eq_zero h8) hn
  · refine ⟨b, 0, rfl, (hc.mono ht).rowAt fun j hj => ?_⟩
    rw [hc.len] at hj
    have g1 : hp w b = _ := g1
    have : PH.cell (hp w) b (0 + j) = c0[j]? := by simp [PH.cell, g1]
    rw [this, ← g3, List.getElem?_take, if_pos hj]
end
end Go.JW
namespace Go.JW

theorem SepIn.cat {g : VH} : ∀ {A K : List HP} {F1 F2 : Nat → Prop}, SepIn g A F1 → SepIn g K F2 → (∀ b, F1 b → ¬ F2 b) → SepIn g (A ++ K) (fun b => F1 b ∨ F2 b) := by
  intro A
  induction A with
  | nil => intro K F1 F2 _ h _; exact h.mono fun b hb => .inr hb
  | cons B A ih =>
    rintro K F1 F2 ⟨G, g1, g2, g3⟩ h hd
    refine ⟨G, g1, fun b hb => .inl (g2 b hb), (ih g3 h fun b hb => hd b hb.1).mono fun b hb => ?_⟩
    rcases hb with hb | hb
    · exact ⟨.inl hb.1, hb.2⟩
    · exact ⟨.inr hb, fun hG => hd b (g2 b hG) hb⟩
structure Post (τ : PH) (Ko : List HP) (w w' : World) : Prop where
  below : RowKit.Below w.heap.size w w'
  new : New w τ
  imm : PH.le τ (hp w')
  sep : SepIn ⟨τ, hp w'⟩ Ko (fun b => w.heap.size ≤ b ∧ b < w'.heap.size ∧ τ b = none)
theorem Sat.post {w w' : World} {σ τ : PH} {K Ko : List HP} (h : Sat w (fun _ => False) σ K w') (hn : New w τ) (hle : PH.le τ σ) (hk : ∀ F, SepIn ⟨σ, hp w'⟩ K F → SepIn ⟨τ, hp w'⟩ Ko F) : Post τ Ko w w' where
  below := h.below
  new := hn
  imm b o hb := h.imm b o (hle b o hb)
  sep := (hk _ h.sep).mono fun b ⟨h1, h2⟩ => by
    have hb : w.heap.size ≤ b := by
      refine Nat.le_of_not_lt fun hlt => ?_
      have := h.keep b hlt (fun h => h)
      rw [h2] at this
      have h5 : w.heap[b]? = some w.heap[b] := Array.getElem?_eq_getElem hlt
      rw [h5] at this; cases this
    refine ⟨hb, h1, ?_⟩
    cases e : τ b with
    | none => rfl
    | some o => have := hle b o e; rw [h2] at this; cases this
def joinPH (w : World) (σ τ : PH) : PH := fun b => if w.heap.size ≤ b then τ b else σ b
theorem Sat.join {w0 w w' : World} {M : Nat → Prop} {σ τ : PH} {K Ko : List HP} (h : Sat w0 M σ K w) (p : Post τ Ko w w') : PH.le σ (joinPH w σ τ) ∧ PH.le τ (joinPH w σ τ) ∧ Sat w0 M (joinPH w σ τ) (Ko ++ K) w' := by
  have e := h.ext p.below
  have hs := h.size
  refine ⟨fun b o hb => ?_, fun b o hb => ?_, ⟨e.os, e.tape, e.output, e.size, fun b hb hM => ?_, fun b o hb => ?_, ?_⟩⟩
  · have := hp_lt (h.imm b o hb)
    simp only [joinPH]; rw [if_neg (by omega)]; exact hb
  · have : ¬ b < w.heap.size := fun hlt => by rw [p.new b hlt] at hb; cases hb
    simp only [joinPH]; rw [if_pos (by omega)]; exact hb
  · simp only [joinPH]; rw [if_neg (by omega)]; exact h.keep b hb hM
  · simp only [joinPH] at hb
    split at hb
    · exact p.imm b o hb
    · exact e.imm b o hb
  · have h2 : SepIn ⟨joinPH w σ τ, hp w'⟩ K (fun b => b < w.heap.size ∧ σ b = none) := h.sep.over (fun b hb => p.below.block b hb.1) (fun b o hb => by
      have := hp_lt (h.imm b o hb)
      simp only [joinPH]; rw [if_neg (by omega)]; exact hb)
    have h1 : SepIn ⟨joinPH w σ τ, hp w'⟩ Ko (fun b => w.heap.size ≤ b ∧ b < w'.heap.size ∧ τ b = none) := p.sep.over (fun _ _ => rfl) (fun b o hb => by
      have : ¬ b < w.heap.size := fun hlt => by rw [p.new b hlt] at hb; cases hb
      simp only [joinPH]; rw [if_pos (by omega)]; exact hb)
    refine (SepIn.cat h1 h2 fun b hb hb' => by omega).mono fun b hb => ?_
    rcases hb with hb | hb
    · exact ⟨hb.2.1, by simp only [joinPH]; rw [if_pos hb.1]; exact hb.2.2⟩
    · exact ⟨Nat.lt_of_lt_of_le hb.1 p.below.size, by simp only [joinPH]; rw [if_neg (by omega)]; exact hb.2⟩
section
variable {P : Program} {q : Bool} {ops : Array Oper} {f : FuncId} {R : Ending → World → Prop} {k : List Item} {n : Nat} {fr : Nat → Value} {w0 : World} {M : Nat → Prop} {σ : PH} {K K' : List HP}
variable {rest : List Oper} {d : Nat} {ty : TypeId} {pos : String} {aft : Array Edge} {x y z : Operand} {t t' : TypeId}
theorem callO {g : FuncId} {xs : Array Operand} {ts : Array TypeId} {args : List Value} {X : Type} (val : X → Value) (own : X → List HP) (Q : X → PH → Prop) [i : Fun P g]
    (h : ∀ x τ σ', Q x τ → New w0 τ → PH.le σ σ' → PH.le τ σ' → LS P false ops f R k rest n (upd fr d (val x)) w0 M σ' (own x ++ K))
    (hc : ∀ w, Sat w0 M σ K w → Calls P g args.toArray w fun e w' => ∃ x τ, e = .returned (val x) ∧ Post τ (own x) w w' ∧ Q x τ) (hx : xs.toList.map (ev n fr) = args := by rfl) :
    LS P false ops f R k (⟨some d, .call ⟨.value (.func g), xs, ts⟩, ty, pos, aft, none⟩ :: rest) n fr w0 M σ K :=
  LS.enterW rfl rfl (fun w _ => exec_call i.eq hx w) fun w hw => (hc w hw).mono fun _ w' ⟨x, τ, he, hp', hq⟩ => by
    obtain ⟨h1, h2, h3⟩ := hw.join hp'
    exact ⟨val x, joinPH w σ τ, own x ++ K, he, h3, h x τ _ hq (fun b hb => hp'.new b (Nat.lt_of_lt_of_le hb hw.size)) h1 h2⟩
variable {H : HS} {Kb : List HP} {E : List Nat} {sg : Bool} {tags : List Tag}
theorem D.stB (v : Value) (cs' : List Value) {b off s : Nat} {cs : List Value} {T : TypeId} {put : HP → List HP} [hs : TSz P t s]
    (h : LD P f R k n w0 M σ Kb rest tags ⟨fr, H, [], fun _ => put (blk b (.cells cs'.toArray T (0, 0))), (Stg.mk fr H [] (fun _ => K) E sg).seen ⟨none, .store t x y, ty, pos, aft, none⟩ ++ E, true⟩)
    (hx : ∀ us, ev n (fill fr H us) x = .pointer (some ⟨b, off, none⟩) := by intro _; rfl) (hf : FindB b K (.cells cs.toArray T (0, 0)) put K' := by infer_instance) (hy : ∀ us, ev n (fill fr H us) y = v := by intro _; rfl)
    (hl : (cellsL v).length = s := by rfl) (hr : off + s ≤ cs.length := by first | decide | omega) (h1 : (cellsL v).all (·.oneCell') = true := by rfl) (hc : setAt cs off (cellsL v) = cs' := by rfl) :
    LD P f R k n w0 M σ Kb (⟨none, .store t x y, ty, pos, aft, none⟩ :: rest) (.st :: tags) ⟨fr, H, [], fun _ => K, E, sg⟩ :=
  D.st (fun _ => put (blk b (.cells cs'.toArray T (0, 0)))) (fun _ => put (blk b (.cells cs'.toArray T (0, 0)))) h (fun us σ' w hle hfs hw => by
    have hw : Sat w0 M σ' K w := hw
    have hb := hw.get (i := hf)
    have := run_storeVarL (P := P) (t := t) hb hs.eq off hl hr h1
    rw [hc] at this
    exact ⟨_, by simp [execOp, hx us, hy us, Instr.storeAt, Instr.sureAddr, this], hw.put (i := hf) _⟩) (fun _ => rfl)
end
end Go.JW
namespace Go.JW

def fromN (N : Nat) (σ : PH) : PH := fun b => if N ≤ b then σ b else none
theorem fromN_le (N : Nat) (σ : PH) : PH.le (fromN N σ) σ := fun b o h => by
  simp only [fromN] at h; split at h
  · exact h
  · cases h
theorem fromN_mono {N N' : Nat} {σ σ' : PH} (hN : N' ≤ N) (h : PH.le σ σ') : PH.le (fromN N σ) (fromN N' σ') := fun b o hb => by
  simp only [fromN] at hb ⊢; split at hb
  · rw [if_pos (by omega)]; exact h b o hb
  · cases hb
theorem fromN_up {N : Nat} {σ σ' : PH} (h : PH.le σ σ') : PH.le (fromN N σ) (fromN N σ') := fromN_mono (Nat.le_refl _) h
theorem fromN_zero (σ : PH) : fromN 0 σ = σ := by funext b; simp [fromN]
def rowD (N : Nat) {α : Type} [Rep α] (e : TypeId) (v : Value) (l : List α) : HP :=
  ⟨fun g F => ∃ cs, CellsL (fromN N g.imm) cs l ∧ (rowH e (Rep.sz α) v l.length cs).h g F,
   fun ⟨cs, h1, h2⟩ hg hi => ⟨cs, h1.mono (fromN_up hi), (rowH e (Rep.sz α) v _ cs).loc h2 hg hi⟩⟩
class FindD (v : Value) (K : List HP) (α : outParam Type) (ri : outParam (Rep α)) (N e : outParam Nat) (l : outParam (List α)) (put : outParam (HP → List HP)) (K' : outParam (List HP)) : Prop where
  get : ∀ {g : VH} {F : Nat → Prop}, SepIn g K F → SepIn g (rowD N e v l :: K') F
  set : ∀ {A : HP} {g : VH} {F : Nat → Prop}, SepIn g (A :: K') F → SepIn g (put A) F
instance FindD.tail {v : Value} {K : List HP} {α : Type} {ri : Rep α} {N e : Nat} {l : List α} {put : HP → List HP} {K' : List HP} {B : HP} [i : FindD v K α ri N e l put K'] : FindD v (B :: K) α ri N e l (fun A => B :: put A) (B :: K') where
  get h := SepIn.swap (SepIn.cons_sub (fun _ => i.get) h)
  set h := SepIn.cons_sub (fun _ => i.set) (SepIn.swap h)
instance FindD.head {v : Value} {K : List HP} {α : Type} {ri : Rep α} {N e : Nat} {l : List α} : FindD v (rowD N e v l :: K) α ri N e l (fun A => A :: K) K where
  get h := h
  set h := h
section
variable {w0 w : World} {M : Nat → Prop} {σ τ : PH} {K K' : List HP} {v : Value} {α : Type} {ri : Rep α} {N e : Nat} {l : List α} {put : HP → List HP}
theorem Sat.openD (hw : Sat w0 M σ K w) (hf : FindD v K α ri N e l put K' := by infer_instance) : ∃ cs, CellsL (fromN N σ) cs l ∧ Sat w0 M σ (rowH e (Rep.sz α) v l.length cs :: K') w := by
  obtain ⟨F1, ⟨cs, h1, h2⟩, h3, h4⟩ := hf.get hw.sep
  exact ⟨cs, h1, hw.os, hw.tape, hw.output, hw.size, hw.keep, hw.imm, F1, h2, h3, h4⟩
theorem Sat.closeD {cs : List Value} {s m : Nat} (hw : Sat w0 M σ (rowH e s v m cs :: K) w) (hc : CellsL (fromN N σ) cs l) (hm : m = l.length := by first | rfl | simp | omega) (hs : s = Rep.sz α := by rfl) : Sat w0 M σ (rowD N e v l :: K) w := by
  subst hm; subst hs
  exact hw.one fun F h => ⟨cs, hc, h⟩
theorem Sat.formD (hw : Sat w0 M σ K w) (hf : FindD v K α ri N e l put K' := by infer_instance) : ∃ a cap, v = .slice a l.length cap ∧ l.length ≤ cap ∧ cap ≤ 9223372036854775807 := by
  obtain ⟨cs, _, h⟩ := hw.openD hf
  obtain ⟨F, ⟨_, _, a, cap, e, h1, h2, _⟩, _⟩ := h.getR (i := FindR.head)
  exact ⟨a, cap, e, h1, h2⟩
theorem Sat.formE (hw : Sat w0 M σ K w) (hf : FindD v K α ri N e l put K' := by infer_instance) : ∃ a m c, v = .slice a m c := let ⟨a, c, e, _⟩ := hw.formD hf; ⟨a, _, c, e⟩
theorem Sat.rowRepD (hw : Sat w0 M σ K w) (hl : l.length ≤ 140737488355328) (hf : FindD v K α ri N e l put K' := by infer_instance) : RepL (hp w) v l := by
  obtain ⟨cs, hc, h⟩ := hw.openD hf
  exact h.rowRep hc (PH.le_trans (fromN_le N σ) hw.imm) hl (hf := FindR.head) rfl rfl
theorem Sat.rowNewD {w0 w : World} {σ : PH} {K K' : List HP} {v : Value} {α : Type} {ri : Rep α} {N e : Nat} {l : List α} {put : HP → List HP} (hw : Sat w0 (fun _ => False) σ K w) (hN : w0.heap.size ≤ N) (hl : l.length ≤ 140737488355328) (hf : FindD v K α ri N e l put K' := by infer_instance) : RepL (since w0 w) v l := by
  obtain ⟨cs, hc, h⟩ := hw.openD hf
  refine h.rowNew hc (fun b o hb => ?_) hl (hf := FindR.head) rfl rfl
  have h1 := hw.imm b o (fromN_le N σ b o hb)
  simp only [fromN] at hb
  split at hb
  · simp only [since]; rw [if_pos (by omega)]; exact h1
  · cases hb
end
section
variable {P : Program} {q : Bool} {ops : Array Oper} {f : FuncId} {R : Ending → World → Prop} {k : List Item} {n : Nat} {fr : Nat → Value} {w0 : World} {M : Nat → Prop} {σ : PH} {K K' : List HP}
variable {rest : List Oper} {d : Nat} {ty : TypeId} {pos : String} {aft : Array Edge} {x y z : Operand} {t t' : TypeId}
variable {v : Value} {α : Type} {ri : Rep α} {N e : Nat} {l l' : List α} {put : HP → List HP}
theorem RS.openD (hf : FindD v K α ri N e l put K') (h : ∀ cs, CellsL (fromN N σ) cs l → RS P f R k n fr w0 M σ (rowH e (Rep.sz α) v l.length cs :: K')) : RS P f R k n fr w0 M σ K :=
  ⟨fun w hw => by obtain ⟨cs, h1, h2⟩ := hw.openD hf; exact (h cs h1).out w h2⟩
theorem RS.closeD [Rep α] (N : Nat) (l : List α) {v : Value} {cs : List Value} {s m : Nat} (hf : FindR v K e s m cs put K') (hc : CellsL (fromN N σ) cs l) (h : RS P f R k n fr w0 M σ (rowD N e v l :: K')) (hm : m = l.length := by first | rfl | simp | omega) (hs : s = Rep.sz α := by rfl) : RS P f R k n fr w0 M σ K :=
  ⟨fun w hw => h.out w ((hw.weak fun _ => hf.get).closeD hc hm hs)⟩
theorem RS.nilD (N : Nat) (α : Type) [ri : Rep α] (e : Nat) (h : RS P f R k n fr w0 M σ (rowD N e (.slice none 0 0) ([] : List α) :: K)) : RS P f R k n fr w0 M σ K :=
  RS.nilRow e (Rep.sz α) (RS.closeD N ([] : List α) (FindR.head) rfl h rfl rfl)
theorem RS.formD (v : Value) (h : ∀ a cap, v = .slice a l.length cap → l.length ≤ cap → RS P f R k n fr w0 M σ K) (hf : FindD v K α ri N e l put K' := by infer_instance) : RS P f R k n fr w0 M σ K :=
  ⟨fun w hw => by obtain ⟨a, cap, e, h1, _⟩ := hw.formD hf; exact (h a cap e h1).out w hw⟩
theorem LS.formD {L : List Oper} (v : Value) (h : ∀ a cap, v = .slice a l.length cap → l.length ≤ cap → LS P false ops f R k L n fr w0 M σ K) (hf : FindD v K α ri N e l put K' := by infer_instance) : LS P false ops f R k L n fr w0 M σ K :=
  ⟨fun w hw => by obtain ⟨a, cap, e, h1, _⟩ := hw.formD hf; exact (h a cap e h1).out w hw⟩
theorem appRunD {w : World} {s by_ : Nat} {zs : List Value} {vy : Value} [ht : TSlice P t e] [hs : TSz P e s] [hby : TBytes P e by_] [hz : TZero P e zs] (hf : FindD v K α ri N e l put K') (hw : Sat w0 M σ K w)
    (hsrc : ∃ news, Src P s t' vy l'.length news w ∧ CellsL (fromN N σ) news l') (hss : s = Rep.sz α) (hzs : Nat.beq zs.length s = true) (hb : (l.length + l'.length) * by_ ≤ 140737488355328) (hm : l.length + l'.length ≤ 140737488355328) :
    ∃ v' w', (Builtin.append_ #[t, t'] ty #[v, vy]).run P w = .ok v' w' ∧ Sat w0 M σ (put (rowD N e v' (l ++ l'))) w' := by
  subst hss
  obtain ⟨news, h1, h2⟩ := hsrc
  obtain ⟨cs, hc, h⟩ := hw.openD hf
  obtain ⟨v', w', g1, g2⟩ := appRun (t := t) (ty := ty) (hf := FindR.head) h h1 hzs hb hm
  exact ⟨v', w', g1, (g2.closeD (hc.append h2) (by simp) rfl).weak fun _ => hf.set⟩
theorem appD {s by_ : Nat} {zs : List Value} {vy : Value} (v : Value) (l' : List α) [ht : TSlice P t e] [hs : TSz P e s] [hby : TBytes P e by_] [hz : TZero P e zs]
    (hsrc : ∀ w, Sat w0 M σ K w → ∃ news, Src P s t' vy l'.length news w ∧ CellsL (fromN N σ) news l')
    (h : ∀ v', LS P false ops f R k rest n (upd fr d v') w0 M σ (put (rowD N e v' (l ++ l')))) (hx : ev n fr x = v := by rfl) (hy : ev n fr y = vy := by rfl) (hf : FindD v K α ri N e l put K' := by infer_instance)
    (hss : s = Rep.sz α := by rfl) (hzs : Nat.beq zs.length s = true := by rfl) (hb : (l.length + l'.length) * by_ ≤ 140737488355328 := by first | omega | (simp only [List.length_cons, List.length_nil]; omega)) (hm : l.length + l'.length ≤ 140737488355328 := by first | omega | (simp only [List.length_cons, List.length_nil]; omega)) :
    LS P false ops f R k (⟨some d, .call ⟨.builtin .append, #[x, y], #[t, t']⟩, ty, pos, aft, none⟩ :: rest) n fr w0 M σ K :=
  LS.valW rfl rfl fun w hw => by
    obtain ⟨v', w', h1, h2⟩ := appRunD (t := t) (ty := ty) hf hw (hsrc w hw) hss hzs hb hm
    exact ⟨v', w', σ, _, by simp [execOp, resolve, invoke, builtin, hx, hy, h1], h2, h v'⟩
theorem srcD {w : World} {e' : Nat} {vy : Value} {τ : PH} (hw : Sat w0 M σ K w) (hk : P.underlying t' = some (.slice e')) (hr : RepL τ vy l') (ht : PH.le τ σ) : ∃ news, Src P (Rep.sz α) t' vy l'.length news w ∧ CellsL τ news l' := by
  obtain ⟨a, cap, rfl⟩ := hr.form
  obtain ⟨cs, h1, h2⟩ := hr.cells
  exact ⟨cs, srcS hw hk h1.len (fun hn => by obtain ⟨b, o, e, g⟩ := h2 hn; exact ⟨b, o, e, fun j hj => PH.cells_mono ht rfl g j hj⟩) h1.one, h1⟩
variable {H : HS} {O : List (Nat × Obj)} {Kf : Us → List HP} {Kb : List HP} {E : List Nat} {sg : Bool} {tags : List Tag}
theorem D.appD {s by_ : Nat} {zs : List Value} {vy : Us → Value} (v : Value) (l' : List α) [ht : TSlice P t e] [hs : TSz P e s] [hby : TBytes P e by_] [hz : TZero P e zs]
    (h : LD P f R k n w0 M σ Kb rest tags ⟨fr, (d, fun _ _ => True) :: H, O, fun us => put (rowD N e (us d) (l ++ l')), d :: ((Stg.mk fr H O (fun _ => K) E false).seen ⟨some d, .call ⟨.builtin .append, #[x, y], #[t, t']⟩, ty, pos, aft, none⟩ ++ E), false⟩)
    (hsrc : ∀ us σ', PH.le σ σ' → Facts H (readsTmp ⟨some d, .call ⟨.builtin .append, #[x, y], #[t, t']⟩, ty, pos, aft, none⟩) us σ' → ∃ τ, RepL τ (vy us) l' ∧ PH.le τ (fromN N σ'))
    (hx : ∀ us, ev n (fill fr H us) x = v := by intro _; rfl) (hy : ∀ us, ev n (fill fr H us) y = vy us := by intro _; rfl) (hf : FindD v K α ri N e l put K' := by infer_instance)
    (hL : ∀ u, Less (put (rowD N e u (l ++ l'))) Kb := by intro _; infer_instance) (hk : ∃ e', P.underlying t' = some (.slice e') := by exact ⟨_, TSlice.eq⟩)
    (hss : s = Rep.sz α := by rfl) (hzs : Nat.beq zs.length s = true := by rfl) (hb : (l.length + l'.length) * by_ ≤ 140737488355328 := by first | omega | (simp only [List.length_cons, List.length_nil]; omega)) (hm : l.length + l'.length ≤ 140737488355328 := by first | omega | (simp only [List.length_cons, List.length_nil]; omega)) :
    LD P f R k n w0 M σ Kb (⟨some d, .call ⟨.builtin .append, #[x, y], #[t, t']⟩, ty, pos, aft, none⟩ :: rest) (.eff :: tags) ⟨fr, H, O, fun _ => K, E, false⟩ := by
  refine D.eff (fun _ _ => True) (fun us => put (rowD N e (us d) (l ++ l'))) _ (fun _ _ _ _ _ => trivial) (fun us => hL _) h (fun us σ' w X hle hfs hw => ?_) (fun us => ?_)
  · obtain ⟨τ, h1, h2⟩ := hsrc us σ' hle hfs
    obtain ⟨e', hk⟩ := hk
    obtain ⟨news, g1, g2⟩ := srcD (t' := t') hw hk h1 (PH.le_trans h2 (fromN_le _ _))
    obtain ⟨v', w', h3, h4⟩ := appRunD (t := t) (t' := t') (ty := ty) (v := v) (FindD.tail (i := hf)) hw ⟨news, by subst hss; exact g1, g2.mono h2⟩ hss hzs hb hm
    refine .inl ⟨v', w', by simp [execOp, resolve, invoke, builtin, hx us, hy us, h3], σ', PH.le_refl _, ?_, trivial⟩
    simpa [upd_eq] using h4
  · show put (rowD N e (resE _ us d) (l ++ l')) = _
    rw [resE_mem (by simp)]
theorem D.stU (s : Nat) (cs' : Us → List Value) {b off sz : Nat} {cs : List Value} {T : TypeId} {put : Us → HP → List HP} {K' : Us → List HP} [hs : TSz P t sz]
    (h : LD P f R k n w0 M σ Kb rest tags ⟨fr, H, [], fun us => put us (blk b (.cells (cs' us).toArray T (0, 0))), (Stg.mk fr H [] Kf E sg).seen ⟨none, .store t x y, ty, pos, aft, none⟩ ++ E, true⟩)
    (hx : ∀ us, ev n (fill fr H us) x = .pointer (some ⟨b, off, none⟩) := by intro _; rfl) (hy : ∀ us, ev n (fill fr H us) y = us s := by intro _; rfl) (hf : ∀ us, FindB b (Kf us) (.cells cs.toArray T (0, 0)) (put us) (K' us) := by intro _; infer_instance)
    (hform : ∀ us σ' w, Sat w0 M σ' (Kf us) w → ∃ a m c, us s = .slice a m c := by intro us σ' w hw; exact hw.formE)
    (hsz : sz = 1 := by rfl) (hr : off + 1 ≤ cs.length := by first | decide | omega | exact Nat.le_of_ble_eq_true rfl) (hc : ∀ us, setAt cs off [us s] = cs' us := by intro _; rfl)
    (hE : ∀ us, (fun us => put us (blk b (.cells (cs' us).toArray T (0, 0)))) (resE (([] : List (Nat × Obj)).map (·.1) ++ ((Stg.mk fr H [] Kf E sg).seen ⟨none, .store t x y, ty, pos, aft, none⟩ ++ E)) us) = put us (blk b (.cells (cs' us).toArray T (0, 0))) := by intro _; rfl) :
    LD P f R k n w0 M σ Kb (⟨none, .store t x y, ty, pos, aft, none⟩ :: rest) (.st :: tags) ⟨fr, H, [], Kf, E, sg⟩ :=
  D.st (fun us => put us (blk b (.cells (cs' us).toArray T (0, 0)))) (fun us => put us (blk b (.cells (cs' us).toArray T (0, 0)))) h (fun us σ' w hle hfs hw => by
    have hw : Sat w0 M σ' (Kf us) w := hw
    obtain ⟨a, m, c, e⟩ := hform us σ' w hw
    have hb := hw.get (i := hf us)
    subst hsz
    have hcl : cellsL (us s) = [us s] := by rw [e]; rfl
    have := run_storeVarL (P := P) (t := t) (v := us s) hb hs.eq off (by rw [hcl]; rfl) hr (by rw [e]; rfl)
    rw [hcl, hc us] at this
    exact ⟨_, by simp [execOp, hx us, hy us, Instr.storeAt, Instr.sureAddr, this], hw.put (i := hf us) _⟩) hE
def CellsV {α : Type} [Rep α] (σ : PH) : List Value → List α → Prop
  | [], [] => True
  | v :: vs, x :: l => Rep.rep σ (cellsL v) x ∧ CellsV σ vs l
  | _, _ => False
theorem CellsV.cat {α : Type} [Rep α] {σ : PH} : ∀ {vs : List Value} {l : List α}, CellsV σ vs l → ∃ cs, catL (Rep.sz α) vs = some cs ∧ CellsL σ cs l ∧ vs.length = l.length := by
  intro vs
  induction vs with
  | nil => intro l h; cases l with
    | nil => exact ⟨[], rfl, rfl, rfl⟩
    | cons _ _ => exact h.elim
  | cons v vs ih =>
    intro l h
    cases l with
    | nil => exact h.elim
    | cons x l =>
      obtain ⟨h1, h2⟩ := h
      obtain ⟨cs, g1, g2, g3⟩ := ih h2
      refine ⟨cellsL v ++ cs, ?_, ⟨_, _, rfl, h1, g2⟩, by simp [g3]⟩
      have : Nat.beq (cellsL v).length (Rep.sz α) = true := by rw [Rep.len h1]; exact Nat.beq_refl _
      simp [catL, this, g1]
def RepA {α : Type} [Rep α] (σ : PH) (v : Value) (x : α) : Prop := ∃ cs, v = .agg (List.toArray cs) ∧ Rep.rep σ cs x
theorem RepA.mono {α : Type} [Rep α] {σ σ' : PH} {v : Value} {x : α} (h : RepA σ v x) (hs : PH.le σ σ') : RepA σ' v x := let ⟨cs, e, r⟩ := h; ⟨cs, e, Rep.mono r hs⟩
theorem RepA.cv {α : Type} [Rep α] {σ : PH} {v : Value} {x : α} (h : RepA σ v x) : Rep.rep σ (cellsL v) x := by obtain ⟨cs, rfl, r⟩ := h; exact r
theorem RepL.cv {α : Type} [Rep α] {σ : PH} {v : Value} {l : List α} (h : RepL σ v l) : Rep.rep σ (cellsL v) l := by obtain ⟨a, c, e⟩ := h.form; exact ⟨v, by rw [e]; rfl, h⟩
theorem D.litT {α : Type} [Rep α] {e s : Nat} {zs : List Value} {parts : Array (Nat × Operand)} {len : Nat} {vs : Us → List Value} (N : Nat) (l : List α) [ht : TSlice P t e] [hs : TSz P e s] [hz : TZero P e zs]
    (h : LD P f R k n w0 M σ Kb rest tags ⟨fr, (d, fun v σ => RepL (fromN N σ) v l) :: H, O, Kf, E, false⟩)
    (ho : ∀ us σ', PH.le σ σ' → Facts H (readsTmp ⟨some d, .buildSlice t len parts, ty, pos, aft, none⟩) us σ' → CellsV (fromN N σ') (vs us) l)
    (hN : N ≤ w0.heap.size := by first | exact Nat.le_refl _ | exact Nat.zero_le _ | assumption)
    (hx : ∀ us, parts.toList.map (fun p => (p.1, ev n (fill fr H us) p.2)) = (vs us).zipIdx.map (fun p => (p.2, p.1)) := by intro _; rfl) (hl : ∀ us, Nat.beq (vs us).length len = true := by intro _; rfl) (hll : Nat.beq l.length len = true := by rfl)
    (hb : Nat.ble (len * s) 16777216 = true := by rfl) (hss : s = Rep.sz α := by rfl) (h47 : Nat.ble len 140737488355328 = true := by rfl) :
    LD P f R k n w0 M σ Kb (⟨some d, .buildSlice t len parts, ty, pos, aft, none⟩ :: rest) (.ex :: tags) ⟨fr, H, O, Kf, E, false⟩ := by
  subst hss
  refine D.bldS (vs := vs) (fun v σ => RepL (fromN N σ) v l) (fun v σ1 σ2 h hs => h.mono (fromN_up hs)) h (fun us σ' hle hfs => ?_) hx hl hb
  obtain ⟨cs, h1, h2, h3⟩ := (ho us σ' hle hfs).cat
  refine ⟨cs, h1, fun b σ'' hle2 hnb hcell => ?_⟩
  have hle3 := fromN_up (N := N) hle2
  have el := Nat.eq_of_beq_eq_true hll
  subst el
  refine ⟨Nat.le_of_ble_eq_true h47, _, _, rfl, Nat.le_refl _, fun _ => ⟨b, 0, rfl, (h2.mono hle3).rowAt fun j hj => ?_⟩⟩
  have : fromN N σ'' b = some (.cells cs.toArray e (0, 0)) := by
    simp only [fromN]; rw [if_pos (Nat.le_of_not_lt fun hlt => hnb (by omega))]; exact hcell
  simp [PH.cell, this]
theorem D.bldU {pl : List (Nat × Nat)} {zs : List Value} {parts : Array (Nat × Operand)} (T : Value → PH → Prop) (hT : MonoT T) [hp : TPl P t pl] [hz : TZero P t zs]
    (h : LD P f R k n w0 M σ Kb rest tags ⟨fr, (d, T) :: H, O, Kf, E, false⟩)
    (ho : ∀ us σ', PH.le σ σ' → Facts H (readsTmp ⟨some d, .build t parts, ty, pos, aft, none⟩) us σ' → ∃ cs, fillL (nthP pl) zs (parts.toList.map fun p => (p.1, ev n (fill fr H us) p.2)) = some cs ∧ T (.agg (List.toArray cs)) σ') :
    LD P f R k n w0 M σ Kb (⟨some d, .build t parts, ty, pos, aft, none⟩ :: rest) (.ex :: tags) ⟨fr, H, O, Kf, E, false⟩ :=
  D.gr T hT h fun us σ' w hle hf hw => by
    obtain ⟨cs, h1, h2⟩ := ho us σ' hle hf
    have e : (parts.map fun (i, x) => (i, ev n (fill fr H us) x)) = (parts.toList.map fun p => (p.1, ev n (fill fr H us) p.2)).toArray := by cases parts; simp
    exact .inl ⟨.agg cs.toArray, w, by simp [execOp, e, run_build w hp.eq hz.eq h1], RowKit.Below.refl _ _, hT _ _ _ h2 (grow_le hw)⟩
end
end Go.JW
namespace Go.JW

section
variable {α : Type} [Rep α] {σ : PH}
theorem CellsL.at_ : ∀ {l : List α} {cs : List Value}, CellsL σ cs l → ∀ i (hi : i < l.length), ∃ c, Rep.rep σ c l[i] ∧ ∀ j, j < Rep.sz α → cs[i * Rep.sz α + j]? = c[j]? := by
  intro l
  induction l with
  | nil => intro cs _ i hi; simp at hi
  | cons x l ih =>
    rintro cs ⟨c1, c2, rfl, h1, h2⟩ i hi
    have hl := Rep.len h1
    cases i with
    | zero => exact ⟨c1, h1, fun j hj => by rw [Nat.zero_mul, Nat.zero_add, List.getElem?_append_left (by omega)]⟩
    | succ i =>
      obtain ⟨c, g1, g2⟩ := ih h2 i (by simpa using hi)
      refine ⟨c, by simpa using g1, fun j hj => ?_⟩
      rw [← g2 j hj, List.getElem?_append_right (by rw [Nat.succ_mul]; omega), hl, Nat.succ_mul]; congr 1; omega
theorem CellsL.take : ∀ {l : List α} {cs : List Value}, CellsL σ cs l → ∀ k, CellsL σ (cs.take (k * Rep.sz α)) (l.take k) := by
  intro l
  induction l with
  | nil => intro cs h k; simp only [CellsL] at h; subst h; simp [CellsL]
  | cons x l ih =>
    rintro cs ⟨c1, c2, rfl, h1, h2⟩ k
    have hl := Rep.len h1
    cases k with
    | zero => simp [CellsL]
    | succ k =>
      refine ⟨c1, c2.take (k * Rep.sz α), ?_, h1, ih h2 k⟩
      rw [List.take_append, List.take_of_length_le (by rw [Nat.succ_mul]; omega)]; congr 2; rw [Nat.succ_mul]; omega
end
section
variable {P : Program} {q : Bool} {ops : Array Oper} {f : FuncId} {R : Ending → World → Prop} {k : List Item} {n : Nat} {fr : Nat → Value} {w0 : World} {M : Nat → Prop} {σ : PH} {K K' : List HP}
variable {v : Value} {α : Type} {ri : Rep α} {N e : Nat} {l l' : List α} {put : HP → List HP}
variable {H : HS} {O : List (Nat × Obj)} {Kf : Us → List HP} {Kb : List HP} {E : List Nat} {sg : Bool} {tags : List Tag} {rest : List Oper} {d : Nat} {ty : TypeId} {pos : String} {aft : Array Edge} {x y z : Operand} {t t' : TypeId}
theorem D.slcHi (l : Nat) {a : Option Addr} {len cap s : Nat} {e : TypeId} {lo : Operand} {kk : IntKind} {j : Int} [ht : TSlice P t e] [hs : TSz P e s]
    (h : LD P f R k n w0 M σ Kb rest tags ⟨upd fr d (.slice a l cap), H, O, Kf, E, sg⟩) (hx : ∀ us, ev n (fill fr H us) x = .slice a len cap := by intro _; rfl) (hlo : ∀ us, ev n (fill fr H us) lo = .int kk j := by intro _; rfl) (hj : j = (l : Int) := by omega) (hl : l ≤ cap := by omega) :
    LD P f R k n w0 M σ Kb (⟨some d, .slice t x none (some lo) none, ty, pos, aft, none⟩ :: rest) (.free :: tags) ⟨fr, H, O, Kf, E, sg⟩ := by
  refine D.slc 0 l cap ?_ hx (fun us w => by subst hj; simp [Instr.sliceBounds, hlo us, run_sliceBound, hl])
  have e : (a.map (·.add (0 * s))) = a := by cases a <;> simp [Addr.add]
  simp only [e, Nat.sub_zero, ite_self]; exact h
end
end Go.JW
namespace Go.Proofs
open Go.Shelf
def Tryz.lays156_ren : Go.Shelf.Ren := ⟨fun | 156 => 156 | 165 => 186 | 166 => 187 | 169 => 188 | 240 => 217 | 241 => 218 | 276 => 239 | 277 => 240 | n => n, fun | 31 => 33 | 9 => 9 | 3 => 3 | 4 => 4 | 0 => 0 | 20 => 20 | 72 => 234 | 76 => 237 | 70 => 232 | 37 => 29 | 75 => 236 | 127 => 269 | 164 => 291 | 5 => 5 | 80 => 239 | n => n, fun | n => n⟩
theorem Tryz.lays156 : Go.Proofs.Lays.n156 Tryz.prog Tryz.lays156_ren := {
  mixed := by kernel_rfl
  f156 := Tryz.func156.trans (congrArg some (by kernel_rfl))
  f165 := Tryz.func186.trans (congrArg some (by kernel_rfl))
  f166 := Tryz.func187.trans (congrArg some (by kernel_rfl))
  f169 := Tryz.func188.trans (congrArg some (by kernel_rfl))
  f240 := Tryz.func217.trans (congrArg some (by kernel_rfl))
  f241 := Tryz.func218.trans (congrArg some (by kernel_rfl))
  f276 := Tryz.func239.trans (congrArg some (by kernel_rfl))
  f277 := Tryz.func240.trans (congrArg some (by kernel_rfl))
  t0 := Tryz.underlying0
  a0 := Tryz.isAgg0
  z0 := Tryz.sizeOf0
  v0 := Tryz.zeroValue0
  t3 := Tryz.underlying3
  a3 := Tryz.isAgg3
  z3 := Tryz.sizeOf3
  v3 := Tryz.zeroValue3
  t4 := Tryz.underlying4
  a4 := Tryz.isAgg4
  z4 := Tryz.sizeOf4
  v4 := Tryz.zeroValue4
  t9 := Tryz.underlying9
  a9 := Tryz.isAgg9
  z9 := Tryz.sizeOf9
  v9 := Tryz.zeroValue9
  t20 := Tryz.underlying20
  a20 := Tryz.isAgg20
  z20 := Tryz.sizeOf20
  v20 := Tryz.zeroValue20
  t31 := Tryz.underlying33
  a31 := Tryz.isAgg33
  z31 := Tryz.sizeOf33
  v31 := Tryz.zeroValue33
  t37 := Tryz.underlying29
  a37 := Tryz.isAgg29
  z37 := Tryz.sizeOf29
  v37 := Tryz.zeroValue29
  t70 := Tryz.underlying232
  a70 := Tryz.isAgg232
  z70 := Tryz.sizeOf232
  v70 := Tryz.zeroValue232
  t72 := Tryz.underlying234
  a72 := Tryz.isAgg234
  z72 := Tryz.sizeOf234
  v72 := Tryz.zeroValue234
  t75 := Tryz.underlying236
  a75 := Tryz.isAgg236
  z75 := Tryz.sizeOf236
  v75 := Tryz.zeroValue236
  t76 := Tryz.underlying237
  a76 := Tryz.isAgg237
  z76 := Tryz.sizeOf237
  v76 := Tryz.zeroValue237
  t127 := Tryz.underlying269
  a127 := Tryz.isAgg269
  z127 := Tryz.sizeOf269
  v127 := Tryz.zeroValue269
  t164 := Tryz.underlying291
  a164 := Tryz.isAgg291
  z164 := Tryz.sizeOf291
  v164 := Tryz.zeroValue291 }
theorem Tryz.Builder_Extra_156 : Builder.Extra Tryz.prog Tryz.lays156_ren := {
  sizeBuilder := by kernel_rfl
  liesBuilder := by kernel_rfl
  t5 := Tryz.underlying5
  a5 := Tryz.isAgg5
  z5 := Tryz.sizeOf5
  v5 := Tryz.zeroValue5
  infoByte := by kernel_rfl
  cellsByte := by kernel_rfl
  sizeByte := by kernel_rfl
  neB5 := by decide }
open Go.RowKit in
theorem Tryz.strings_Join_none (a : Option Addr) (c : Nat) (sep : ByteArray) (w : World) :
    Calls Tryz.prog 156 #[.slice a 0 c, .string sep] w fun e w' => e = .returned (.string ⟨#[]⟩) ∧ w' = w := Any.strings_Join_none Tryz.lays156 Tryz.Builder_Extra_156 a c sep w
open Go.RowKit in
theorem Tryz.strings_Join (bk o c : Nat) (xs : List ByteArray) (sep : ByteArray) (w : World) (hcells : ∀ (j : Nat) x, xs[j]? = some x → w.cell? ⟨bk, o + j, none⟩ = some (.string x)) (hbk : bk < w.heap.size) (hN : xs.length ≤ 140737488355328) (hcap : xs.length ≤ c) (hlen : (Lib.join (xs.map (·.data.toList)) sep.data.toList).length ≤ 140737488355328) :
    Calls Tryz.prog 156 #[.slice (some ⟨bk, o, none⟩) xs.length c, .string sep] w fun e w' => e = .returned (.string ⟨(Lib.join (xs.map (·.data.toList)) sep.data.toList).toArray⟩) ∧ Below w.heap.size w w' := Any.strings_Join Tryz.lays156 Tryz.Builder_Extra_156 bk o c xs sep w hcells hbk hN hcap hlen
def Tryz.laysM171_ren : Go.Shelf.Ren := ⟨fun | 171 => 154 | 243 => 185 | 246 => 216 | 283 => 235 | 284 => 236 | 285 => 237 | 286 => 238 | 129 => 149 | 317 => 246 | 318 => 247 | 319 => 248 | 320 => 249 | 337 => 264 | 338 => 265 | n => n, fun | 3 => 3 | 9 => 9 | 2 => 2 | 4 => 4 | 171 => 287 | 0 => 0 | 53 => 200 | 37 => 29 | 5 => 5 | 173 => 289 | 212 => 301 | 51 => 198 | 20 => 20 | 213 => 302 | 46 => 175 | 232 => 314 | 233 => 315 | n => n, fun | 17 => 2 | 18 => 4 | 19 => 5 | n => n⟩
theorem Tryz.laysM171 : Go.Proofs.LaysM.n171 Tryz.prog Tryz.laysM171_ren := {
  mixed := by kernel_rfl
  f129 := Tryz.func149.trans (congrArg some (by kernel_rfl))
  f171 := Tryz.func154.trans (congrArg some (by kernel_rfl))
  f243 := Tryz.func185.trans (congrArg some (by kernel_rfl))
  f246 := Tryz.func216.trans (congrArg some (by kernel_rfl))
  f283 := Tryz.func235.trans (congrArg some (by kernel_rfl))
  f284 := Tryz.func236.trans (congrArg some (by kernel_rfl))
  f285 := Tryz.func237.trans (congrArg some (by kernel_rfl))
  f286 := Tryz.func238.trans (congrArg some (by kernel_rfl))
  f317 := Tryz.func246.trans (congrArg some (by kernel_rfl))
  f318 := Tryz.func247.trans (congrArg some (by kernel_rfl))
  f319 := Tryz.func248.trans (congrArg some (by kernel_rfl))
  f320 := Tryz.func249.trans (congrArg some (by kernel_rfl))
  f337 := Tryz.func264.trans (congrArg some (by kernel_rfl))
  f338 := Tryz.func265.trans (congrArg some (by kernel_rfl))
  t0 := Tryz.underlying0
  a0 := Tryz.isAgg0
  z0 := Tryz.sizeOf0
  v0 := Tryz.zeroValue0
  t2 := Tryz.underlying2
  a2 := Tryz.isAgg2
  z2 := Tryz.sizeOf2
  v2 := Tryz.zeroValue2
  t3 := Tryz.underlying3
  a3 := Tryz.isAgg3
  z3 := Tryz.sizeOf3
  v3 := Tryz.zeroValue3
  t4 := Tryz.underlying4
  a4 := Tryz.isAgg4
  z4 := Tryz.sizeOf4
  v4 := Tryz.zeroValue4
  t5 := Tryz.underlying5
  a5 := Tryz.isAgg5
  z5 := Tryz.sizeOf5
  v5 := Tryz.zeroValue5
  t9 := Tryz.underlying9
  a9 := Tryz.isAgg9
  z9 := Tryz.sizeOf9
  v9 := Tryz.zeroValue9
  t20 := Tryz.underlying20
  a20 := Tryz.isAgg20
  z20 := Tryz.sizeOf20
  v20 := Tryz.zeroValue20
  t37 := Tryz.underlying29
  a37 := Tryz.isAgg29
  z37 := Tryz.sizeOf29
  v37 := Tryz.zeroValue29
  t46 := Tryz.underlying175
  a46 := Tryz.isAgg175
  z46 := Tryz.sizeOf175
  v46 := Tryz.zeroValue175
  t51 := Tryz.underlying198
  a51 := Tryz.isAgg198
  z51 := Tryz.sizeOf198
  v51 := Tryz.zeroValue198
  t53 := Tryz.underlying200
  a53 := Tryz.isAgg200
  z53 := Tryz.sizeOf200
  v53 := Tryz.zeroValue200
  t171 := Tryz.underlying287
  a171 := Tryz.isAgg287
  z171 := Tryz.sizeOf287
  v171 := Tryz.zeroValue287
  t173 := Tryz.underlying289
  a173 := Tryz.isAgg289
  z173 := Tryz.sizeOf289
  v173 := Tryz.zeroValue289
  t212 := Tryz.underlying301
  a212 := Tryz.isAgg301
  z212 := Tryz.sizeOf301
  v212 := Tryz.zeroValue301
  t213 := Tryz.underlying302
  a213 := Tryz.isAgg302
  z213 := Tryz.sizeOf302
  t232 := Tryz.underlying314
  a232 := Tryz.isAgg314
  z232 := Tryz.sizeOf314
  v232 := Tryz.zeroValue314
  t233 := Tryz.underlying315
  a233 := Tryz.isAgg315
  z233 := Tryz.sizeOf315
  v233 := Tryz.zeroValue315
  g17 := by kernel_rfl
  g18 := by kernel_rfl
  g19 := by kernel_rfl
  i0 := by kernel_rfl
  i2 := by kernel_rfl
  i3 := by kernel_rfl
  i4 := by kernel_rfl
  i5 := by kernel_rfl
  i9 := by kernel_rfl
  i20 := by kernel_rfl
  i37 := by kernel_rfl
  i46 := by kernel_rfl
  i51 := by kernel_rfl
  i53 := by kernel_rfl
  i171 := by kernel_rfl
  i173 := by kernel_rfl
  i212 := by kernel_rfl
  i232 := by kernel_rfl
  i233 := by kernel_rfl
  m17 := by kernel_rfl
  m18 := by kernel_rfl
  m19 := by kernel_rfl }
open Go.RowKit Go.Sort Go.Lib in
theorem Tryz.strconv_Itoa (n : Int) (h0 : -9223372036854775808 ≤ n) (h1 : n ≤ 9223372036854775807) (w : World) (htab : Lib.TabIs Tryz.prog w "internal/strconv.uint64pow10" .u64 Lib.pow10Tab) :
    Calls Tryz.prog 154 #[.int .i64 n] w fun e w' => e = .returned (.string ⟨(Lib.itoa n).toArray⟩) ∧ ∃ k os, w' = grow (w.drewN k) os := Any.strconv_Itoa Tryz.laysM171 n h0 h1 w htab
def Tryz.lays189_ren : Go.Shelf.Ren := ⟨fun | 189 => 85 | 125 => 121 | 257 => 120 | 128 => 148 | 129 => 149 | 294 => 139 | 295 => 140 | 296 => 141 | 297 => 142 | 298 => 143 | 299 => 144 | 216 => 145 | 300 => 146 | 301 => 147 | 328 => 177 | 329 => 178 | 330 => 179 | 331 => 180 | 332 => 181 | 215 => 182 | 343 => 214 | n => n, fun | 28 => 22 | 3 => 3 | 46 => 175 | 0 => 0 | 51 => 198 | 53 => 200 | 4 => 4 | 183 => 192 | 182 => 191 | 131 => 108 | 5 => 5 | 9 => 9 | 218 => 224 | 222 => 228 | 228 => 260 | 229 => 261 | n => n, fun | n => n⟩
theorem Tryz.lays189 : Go.Proofs.Lays.n189 Tryz.prog Tryz.lays189_ren := {
  mixed := by kernel_rfl
  f125 := Tryz.func121.trans (congrArg some (by kernel_rfl))
  f128 := Tryz.func148.trans (congrArg some (by kernel_rfl))
  f129 := Tryz.func149.trans (congrArg some (by kernel_rfl))
  f189 := Tryz.func85.trans (congrArg some (by kernel_rfl))
  f215 := Tryz.func182.trans (congrArg some (by kernel_rfl))
  f216 := Tryz.func145.trans (congrArg some (by kernel_rfl))
  f257 := Tryz.func120.trans (congrArg some (by kernel_rfl))
  f294 := Tryz.func139.trans (congrArg some (by kernel_rfl))
  f295 := Tryz.func140.trans (congrArg some (by kernel_rfl))
  f296 := Tryz.func141.trans (congrArg some (by kernel_rfl))
  f297 := Tryz.func142.trans (congrArg some (by kernel_rfl))
  f298 := Tryz.func143.trans (congrArg some (by kernel_rfl))
  f299 := Tryz.func144.trans (congrArg some (by kernel_rfl))
  f300 := Tryz.func146.trans (congrArg some (by kernel_rfl))
  f301 := Tryz.func147.trans (congrArg some (by kernel_rfl))
  f328 := Tryz.func177.trans (congrArg some (by kernel_rfl))
  f329 := Tryz.func178.trans (congrArg some (by kernel_rfl))
  f330 := Tryz.func179.trans (congrArg some (by kernel_rfl))
  f331 := Tryz.func180.trans (congrArg some (by kernel_rfl))
  f332 := Tryz.func181.trans (congrArg some (by kernel_rfl))
  f343 := Tryz.func214.trans (congrArg some (by kernel_rfl))
  t0 := Tryz.underlying0
  a0 := Tryz.isAgg0
  z0 := Tryz.sizeOf0
  v0 := Tryz.zeroValue0
  t3 := Tryz.underlying3
  a3 := Tryz.isAgg3
  z3 := Tryz.sizeOf3
  v3 := Tryz.zeroValue3
  t4 := Tryz.underlying4
  a4 := Tryz.isAgg4
  z4 := Tryz.sizeOf4
  v4 := Tryz.zeroValue4
  t5 := Tryz.underlying5
  a5 := Tryz.isAgg5
  z5 := Tryz.sizeOf5
  v5 := Tryz.zeroValue5
  t9 := Tryz.underlying9
  a9 := Tryz.isAgg9
  z9 := Tryz.sizeOf9
  v9 := Tryz.zeroValue9
  t28 := Tryz.underlying22
  a28 := Tryz.isAgg22
  z28 := Tryz.sizeOf22
  v28 := Tryz.zeroValue22
  t46 := Tryz.underlying175
  a46 := Tryz.isAgg175
  z46 := Tryz.sizeOf175
  v46 := Tryz.zeroValue175
  t51 := Tryz.underlying198
  a51 := Tryz.isAgg198
  z51 := Tryz.sizeOf198
  v51 := Tryz.zeroValue198
  t53 := Tryz.underlying200
  a53 := Tryz.isAgg200
  z53 := Tryz.sizeOf200
  v53 := Tryz.zeroValue200
  t131 := Tryz.underlying108
  a131 := Tryz.isAgg108
  z131 := Tryz.sizeOf108
  v131 := Tryz.zeroValue108
  t182 := Tryz.underlying191
  a182 := Tryz.isAgg191
  z182 := Tryz.sizeOf191
  v182 := Tryz.zeroValue191
  t183 := Tryz.underlying192
  a183 := Tryz.isAgg192
  z183 := Tryz.sizeOf192
  v183 := Tryz.zeroValue192
  t218 := Tryz.underlying224
  a218 := Tryz.isAgg224
  z218 := Tryz.sizeOf224
  v218 := Tryz.zeroValue224
  t222 := Tryz.underlying228
  a222 := Tryz.isAgg228
  z222 := Tryz.sizeOf228
  v222 := Tryz.zeroValue228
  t228 := Tryz.underlying260
  a228 := Tryz.isAgg260
  z228 := Tryz.sizeOf260
  v228 := Tryz.zeroValue260
  t229 := Tryz.underlying261
  a229 := Tryz.isAgg261
  z229 := Tryz.sizeOf261
  v229 := Tryz.zeroValue261 }
open Go.Sort Go.RowKit in
theorem Tryz.slices_Sort_int (blk off cap : Nat) (zs : List Int) (w : World) (hH : Holds (Value.int .i64) w blk off zs.toArray) (hblk : blk < w.heap.size) (hsz : zs.length < 4611686018427387904) :
    Calls Tryz.prog 85 #[.slice (some ⟨blk, off, none⟩) zs.length cap] w fun e w' =>
      e = .returned (.tuple #[]) ∧ ∃ n os, w' = grow (putRow (Value.int .i64) (Sort.ahead w n) blk off (zs.mergeSort fun x y => decide (x ≤ y)).toArray) os := Any.slices_Sort_int Tryz.lays189 blk off cap zs w hH hblk hsz
def Tryz.laysM157_ren : Go.Shelf.Ren := ⟨fun | 157 => 150 | 229 => 183 | 199 => 184 | 261 => 215 | 311 => 233 | 312 => 234 | n => n, fun | 9 => 9 | 31 => 33 | 3 => 3 | 5 => 5 | 4 => 4 | 119 => 230 | 0 => 0 | 40 => 188 | 152 => 263 | 21 => 21 | 154 => 265 | 51 => 198 | 141 => 267 | 196 => 279 | 193 => 276 | 198 => 282 | 49 => 280 | 194 => 277 | 201 => 285 | 226 => 298 | 46 => 175 | 227 => 299 | n => n, fun | 0 => 0 | 6 => 1 | n => n⟩
theorem Tryz.laysM157 : Go.Proofs.LaysM.n157 Tryz.prog Tryz.laysM157_ren := {
  mixed := by kernel_rfl
  f157 := Tryz.func150.trans (congrArg some (by kernel_rfl))
  f199 := Tryz.func184.trans (congrArg some (by kernel_rfl))
  f229 := Tryz.func183.trans (congrArg some (by kernel_rfl))
  f261 := Tryz.func215.trans (congrArg some (by kernel_rfl))
  f311 := Tryz.func233.trans (congrArg some (by kernel_rfl))
  f312 := Tryz.func234.trans (congrArg some (by kernel_rfl))
  t0 := Tryz.underlying0
  a0 := Tryz.isAgg0
  z0 := Tryz.sizeOf0
  v0 := Tryz.zeroValue0
  t3 := Tryz.underlying3
  a3 := Tryz.isAgg3
  z3 := Tryz.sizeOf3
  v3 := Tryz.zeroValue3
  t4 := Tryz.underlying4
  a4 := Tryz.isAgg4
  z4 := Tryz.sizeOf4
  v4 := Tryz.zeroValue4
  t5 := Tryz.underlying5
  a5 := Tryz.isAgg5
  z5 := Tryz.sizeOf5
  v5 := Tryz.zeroValue5
  t9 := Tryz.underlying9
  a9 := Tryz.isAgg9
  z9 := Tryz.sizeOf9
  v9 := Tryz.zeroValue9
  t21 := Tryz.underlying21
  a21 := Tryz.isAgg21
  z21 := Tryz.sizeOf21
  v21 := Tryz.zeroValue21
  t31 := Tryz.underlying33
  a31 := Tryz.isAgg33
  z31 := Tryz.sizeOf33
  v31 := Tryz.zeroValue33
  t40 := Tryz.underlying188
  a40 := Tryz.isAgg188
  z40 := Tryz.sizeOf188
  v40 := Tryz.zeroValue188
  t46 := Tryz.underlying175
  a46 := Tryz.isAgg175
  z46 := Tryz.sizeOf175
  v46 := Tryz.zeroValue175
  t49 := Tryz.underlying280
  a49 := Tryz.isAgg280
  z49 := Tryz.sizeOf280
  v49 := Tryz.zeroValue280
  t51 := Tryz.underlying198
  a51 := Tryz.isAgg198
  z51 := Tryz.sizeOf198
  v51 := Tryz.zeroValue198
  t119 := Tryz.underlying230
  a119 := Tryz.isAgg230
  z119 := Tryz.sizeOf230
  t141 := Tryz.underlying267
  a141 := Tryz.isAgg267
  z141 := Tryz.sizeOf267
  v141 := Tryz.zeroValue267
  t152 := Tryz.underlying263
  a152 := Tryz.isAgg263
  z152 := Tryz.sizeOf263
  v152 := Tryz.zeroValue263
  t154 := Tryz.underlying265
  a154 := Tryz.isAgg265
  z154 := Tryz.sizeOf265
  v154 := Tryz.zeroValue265
  t193 := Tryz.underlying276
  a193 := Tryz.isAgg276
  z193 := Tryz.sizeOf276
  v193 := Tryz.zeroValue276
  t194 := Tryz.underlying277
  a194 := Tryz.isAgg277
  z194 := Tryz.sizeOf277
  v194 := Tryz.zeroValue277
  t196 := Tryz.underlying279
  a196 := Tryz.isAgg279
  z196 := Tryz.sizeOf279
  v196 := Tryz.zeroValue279
  t198 := Tryz.underlying282
  a198 := Tryz.isAgg282
  z198 := Tryz.sizeOf282
  v198 := Tryz.zeroValue282
  t201 := Tryz.underlying285
  a201 := Tryz.isAgg285
  z201 := Tryz.sizeOf285
  v201 := Tryz.zeroValue285
  t226 := Tryz.underlying298
  a226 := Tryz.isAgg298
  z226 := Tryz.sizeOf298
  v226 := Tryz.zeroValue298
  t227 := Tryz.underlying299
  a227 := Tryz.isAgg299
  z227 := Tryz.sizeOf299
  v227 := Tryz.zeroValue299
  g0 := by kernel_rfl
  g6 := by kernel_rfl
  i0 := by kernel_rfl
  i3 := by kernel_rfl
  i4 := by kernel_rfl
  i5 := by kernel_rfl
  i9 := by kernel_rfl
  i21 := by kernel_rfl
  i31 := by kernel_rfl
  i40 := by kernel_rfl
  i46 := by kernel_rfl
  i49 := by kernel_rfl
  i51 := by kernel_rfl
  i141 := by kernel_rfl
  i152 := by kernel_rfl
  i154 := by kernel_rfl
  i193 := by kernel_rfl
  i194 := by kernel_rfl
  i196 := by kernel_rfl
  i198 := by kernel_rfl
  i201 := by kernel_rfl
  i226 := by kernel_rfl
  i227 := by kernel_rfl
  m0 := by kernel_rfl
  m6 := by kernel_rfl }
open Go.RowKit Go.Lib in
theorem Tryz.strings_Fields_laid (s : ByteArray) (w : World) (hs : s.size < 4294967281) (hascii : ∀ (j : Nat) b, s.data.toList[j]? = some b → b.toNat < 128) (htab : Lib.TabIs Tryz.prog w "strings.asciiSpace" .u8 Lib.asciiSpaceTab) :
    Calls Tryz.prog 150 #[.string s] w fun e w' =>
      e = .returned (.slice (some ⟨w.heap.size, 0, none⟩) (Lib.fields s.data.toList).length (Lib.fields s.data.toList).length) ∧ w' = w.alloc (.cells ((Lib.fields s.data.toList).map fun l => Value.string ⟨l.toArray⟩).toArray 9) := Any.strings_Fields_laid Tryz.laysM157 s w hs hascii htab
def Tryz.laysNm215_ren : Go.Shelf.Ren := ⟨fun | 15 => 44 | n => n, fun | 22 => 22 | 3 => 3 | 4 => 4 | n => n, fun | n => n⟩
theorem Tryz.laysNm215 : Go.Proofs.Lays2.n15 Tryz.prog Tryz.laysNm215_ren := {
  mixed := by kernel_rfl
  f15 := Tryz.func44.trans (congrArg some (by kernel_rfl))
  t3 := Tryz.underlying3
  a3 := Tryz.isAgg3
  z3 := Tryz.sizeOf3
  v3 := Tryz.zeroValue3
  t4 := Tryz.underlying4
  a4 := Tryz.isAgg4
  z4 := Tryz.sizeOf4
  v4 := Tryz.zeroValue4
  t22 := Tryz.underlying22
  a22 := Tryz.isAgg22
  z22 := Tryz.sizeOf22
  v22 := Tryz.zeroValue22
  i3 := by kernel_rfl }
open Go.RowKit Go.Lib in
theorem Tryz.slices_Clone_int (b off n c : Nat) (zs : List Int) (w : World) (hz : n ≤ zs.length) (hbig : n * 8 ≤ 140737488355328) (hc : ∀ j, j < zs.length → w.cell? ⟨b, off + j, none⟩ = some (.int .i64 (zs.getD j 0))) :
    Calls Tryz.prog 44 #[.slice (some ⟨b, off, none⟩) n c] w fun e w' => ∃ v', e = .returned v' ∧ w'.ownsRow w.heap.size 3 1 v' n ((zs.take n).map (Value.int .i64)) ∧ v' ≠ .slice none 0 0 ∧ Below w.heap.size w w' := Any.slices_Clone_int Tryz.laysNm215 b off n c zs w hz hbig hc
open Go.RowKit Go.Lib in
theorem Tryz.slices_Clone_int_nil (n c : Nat) (w : World) :
    Calls Tryz.prog 44 #[.slice none n c] w fun e w' => e = .returned (.slice none 0 0) ∧ w' = w := Any.slices_Clone_int_nil Tryz.laysNm215 n c w
def Tryz.laysNm216_ren : Go.Shelf.Ren := ⟨fun | 16 => 122 | n => n, fun | 24 => 33 | 9 => 9 | 4 => 4 | n => n, fun | n => n⟩
theorem Tryz.laysNm216 : Go.Proofs.Lays2.n16 Tryz.prog Tryz.laysNm216_ren := {
  mixed := by kernel_rfl
  f16 := Tryz.func122.trans (congrArg some (by kernel_rfl))
  t4 := Tryz.underlying4
  a4 := Tryz.isAgg4
  z4 := Tryz.sizeOf4
  v4 := Tryz.zeroValue4
  t9 := Tryz.underlying9
  a9 := Tryz.isAgg9
  z9 := Tryz.sizeOf9
  v9 := Tryz.zeroValue9
  t24 := Tryz.underlying33
  a24 := Tryz.isAgg33
  z24 := Tryz.sizeOf33
  v24 := Tryz.zeroValue33
  i9 := by kernel_rfl }
open Go.RowKit Go.Lib in
theorem Tryz.slices_Clone_string (b off n c : Nat) (zs : List ByteArray) (w : World) (hz : n ≤ zs.length) (hbig : n * 16 ≤ 140737488355328) (hc : ∀ j, j < zs.length → w.cell? ⟨b, off + j, none⟩ = some (.string (zs.getD j ByteArray.empty))) :
    Calls Tryz.prog 122 #[.slice (some ⟨b, off, none⟩) n c] w fun e w' => ∃ v', e = .returned v' ∧ w'.ownsRow w.heap.size 9 1 v' n ((zs.take n).map (Value.string)) ∧ v' ≠ .slice none 0 0 ∧ Below w.heap.size w w' := Any.slices_Clone_string Tryz.laysNm216 b off n c zs w hz hbig hc
open Go.RowKit Go.Lib in
theorem Tryz.slices_Clone_string_nil (n c : Nat) (w : World) :
    Calls Tryz.prog 122 #[.slice none n c] w fun e w' => e = .returned (.slice none 0 0) ∧ w' = w := Any.slices_Clone_string_nil Tryz.laysNm216 n c w
open Go.RowKit Go.Lib in
theorem Tryz.slices_Clone_int_zero (a : Addr) (c : Nat) (w : World) :
    Calls Tryz.prog 44 #[.slice (some a) 0 c] w fun e w' => ∃ v', e = .returned v' ∧ w'.ownsRow w.heap.size 3 1 v' 0 [] ∧ v' ≠ .slice none 0 0 ∧ Below w.heap.size w w' := Any.slices_Clone_int_zero Tryz.laysNm215 a c w
open Go.RowKit Go.Lib in
theorem Tryz.slices_Clone_string_zero (a : Addr) (c : Nat) (w : World) :
    Calls Tryz.prog 122 #[.slice (some a) 0 c] w fun e w' => ∃ v', e = .returned v' ∧ w'.ownsRow w.heap.size 9 1 v' 0 [] ∧ v' ≠ .slice none 0 0 ∧ Below w.heap.size w w' := Any.slices_Clone_string_zero Tryz.laysNm216 a c w
def Tryz.laysNm220_ren : Go.Shelf.Ren := ⟨fun | 20 => 86 | n => n, fun | 22 => 22 | 3 => 3 | 4 => 4 | 0 => 0 | n => n, fun | n => n⟩
theorem Tryz.laysNm220 : Go.Proofs.Lays2.n20 Tryz.prog Tryz.laysNm220_ren := {
  mixed := by kernel_rfl
  f20 := Tryz.func86.trans (congrArg some (by kernel_rfl))
  t0 := Tryz.underlying0
  a0 := Tryz.isAgg0
  z0 := Tryz.sizeOf0
  v0 := Tryz.zeroValue0
  t3 := Tryz.underlying3
  a3 := Tryz.isAgg3
  z3 := Tryz.sizeOf3
  v3 := Tryz.zeroValue3
  t4 := Tryz.underlying4
  a4 := Tryz.isAgg4
  z4 := Tryz.sizeOf4
  v4 := Tryz.zeroValue4
  t22 := Tryz.underlying22
  a22 := Tryz.isAgg22
  z22 := Tryz.sizeOf22
  v22 := Tryz.zeroValue22
  i3 := by kernel_rfl }
open Go.RowKit Go.Lib Go.Sort in
theorem Tryz.slices_Compact_int (blk off cap : Nat) (zs : List Int) (w : World) (hH : Holds (Value.int .i64) w blk off zs.toArray) (hsz : zs.length ≤ 9223372036854775807) (hcap : zs.length ≤ cap) :
    Calls Tryz.prog 86 #[.slice (some ⟨blk, off, none⟩) zs.length cap] w fun e w' => e = .returned (.slice (some ⟨blk, off, none⟩) (Lib.compact zs).length cap) ∧ ∃ q, w' = putRow (Value.int .i64) (Sort.ahead w q) blk off (Lib.compact zs ++ List.replicate (zs.length - (Lib.compact zs).length) 0).toArray := Any.slices_Compact_int Tryz.laysNm220 blk off cap zs w hH hsz hcap
open Go.RowKit Go.Lib Go.Sort in
theorem Tryz.slices_Compact_int_empty (a : Option Addr) (cap : Nat) (w : World) :
    Calls Tryz.prog 86 #[.slice a 0 cap] w fun e w' => e = .returned (.slice a 0 cap) ∧ w' = w := Any.slices_Compact_int_empty Tryz.laysNm220 a cap w
open Go.RowKit Go.Sort in
theorem Tryz.slices_Sort_int_none (p : Option Addr) (cap : Nat) (w : World) :
    Calls Tryz.prog 85 #[.slice p 0 cap] w fun e w' => e = .returned (.tuple #[]) ∧ w' = w := Any.slices_Sort_int_none Tryz.lays189 p cap w
end Go.Proofs
