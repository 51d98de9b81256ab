/- The walk's own calculus: continuations as lists of items, frames as functions, the heap as a list of assertions. -/
import Derived.WalkKit
namespace Go.JW

/-! ### frames -/
def act (n : Nat) (fr : Nat → Value) : Act := ⟨Array.ofFn (n := n) fun i => fr i.val, []⟩
def upd (fr : Nat → Value) (d : Nat) (v : Value) : Nat → Value := fun k => bif Nat.beq k d then v else fr k
def ev (n : Nat) (fr : Nat → Value) : Operand → Value
  | .tmp t => bif Nat.blt t n then fr t else undef
  | .const v => v
  | .global g => .pointer (some ⟨g, 0, none⟩)
  | .func f => .func (.func f) #[] #[]
theorem act_eval (n : Nat) (fr : Nat → Value) : (act n fr).eval = ev n fr := by
  funext x
  cases x with
  | tmp t =>
    simp only [Act.eval, act, ev, Array.getD_eq_getD_getElem?, Array.getElem?_ofFn]
    by_cases h : t < n
    · have : Nat.blt t n = true := by simpa [Nat.blt_eq] using h
      simp [h, this]
    · have : Nat.blt t n = false := by rw [Bool.eq_false_iff]; simpa [Nat.blt_eq] using h
      simp [h, this]
  | _ => rfl
theorem act_put (n : Nat) (fr : Nat → Value) (d : Nat) (v : Value) : (act n fr).put (some d) v = act n (upd fr d v) := by
  simp only [Act.put, act]
  congr 1
  apply Array.ext
  · simp
  · intro i h1 h2
    simp only [Array.getElem_ofFn, upd]
    by_cases h : d = i
    · subst h; simp
    · have : Nat.beq i d = false := by
        rw [Bool.eq_false_iff]; intro hb; exact h (Nat.eq_of_beq_eq_true hb).symm
      rw [Array.getElem_setIfInBounds_ne (by simpa using h1) h]
      simp [this]
theorem act_put_none (n : Nat) (fr : Nat → Value) (v : Value) : (act n fr).put none v = act n fr := rfl
def frameOf (l : List Value) : Nat → Value := fun k => l.getD k undef
theorem act_enter (args : Array Value) (n : Nat) (h : args.size ≤ n) :
    ({ tmps := args ++ Array.replicate (n - args.size) undef, defers := [] } : Act) = act n (frameOf args.toList) := by
  simp only [act, frameOf]
  congr 1
  apply Array.ext
  · simp; omega
  · intro i h1 h2
    simp only [Array.getElem_ofFn, List.getD_eq_getElem?_getD]
    by_cases hi : i < args.size
    · simp [hi]
    · rw [Array.getElem_append_right (by omega)]; simp [hi]

/-! ### the rest of a call -/
def base (f : FuncId) : Frame := { (default : Frame) with fn := f, kind := .normal }
def Run (P : Program) (f : FuncId) (R : Ending → World → Prop) (k : List Item) (a : Act) (w : World) : Prop :=
  ∀ cs, ∃ e w' fr, R e w' ∧ Comes P (lone ((base f).at a k) cs w) (lone fr cs w') e ∧ fr.fn = f ∧ fr.leaving P w' e
section
variable {P : Program} {f : FuncId} {R : Ending → World → Prop} {k : List Item} {a : Act} {w : World}
theorem Run.calls {fn : Func} {c : Code} {args : Array Value} (hf : P.funcs[f]? = some fn) (hb : fn.body = some c)
    (h : Run P f R [.code c] { tmps := args ++ Array.replicate (fn.ntmps - args.size) undef, defers := [] } w) : Calls P f args w R := by
  intro cs
  have henter : Frame.enter P f args .normal =
      (base f).at { tmps := args ++ Array.replicate (fn.ntmps - args.size) undef, defers := [] } [.code c] := by
    simp [Frame.enter, Frame.at, hf, hb, base]
  rw [henter]
  exact h cs
theorem Run.step {k' : List Item} {a' : Act} {w' : World} (hs : ∀ cs, step P (lone ((base f).at a k) cs w) = .next (lone ((base f).at a' k') cs w'))
    (h : Run P f R k' a' w') : Run P f R k a w := by
  intro cs
  obtain ⟨e, w2, fr, hR, hc, hn, hl⟩ := h cs
  exact ⟨e, w2, fr, hR, hc.of_steps (.one (hs cs)), hn, hl⟩
theorem Run.seq {x y : Code} (h : Run P f R (.code x :: .code y :: k) a w) : Run P f R (.code (.seq x y) :: k) a w := Run.step (fun _ => step_seq) h
theorem Run.skip (h : Run P f R k a w) : Run P f R (.code .skip :: k) a w := Run.step (fun _ => step_skip) h
theorem Run.label {l : Nat} (h : Run P f R k a w) : Run P f R (.code (.label l) :: k) a w := Run.step (fun _ => step_label) h
theorem Run.block {id : Nat} {c : Code} (h : Run P f R (.code c :: .inBlock id :: k) a w) : Run P f R (.code (.block id c) :: k) a w := Run.step (fun _ => step_block) h
theorem Run.inBlock {id : Nat} (h : Run P f R k a w) : Run P f R (.inBlock id :: k) a w := Run.step (fun _ => step_inBlock) h
theorem Run.exit {id : Nat} {k' : List Item} (he : exitTo id k = some k') (h : Run P f R k' a w) : Run P f R (.code (.exit id) :: k) a w := Run.step (fun _ => step_exit he) h
theorem Run.goto {l : Nat} {k' : List Item} (he : gotoIn l k = some k') (h : Run P f R k' a w) : Run P f R (.code (.goto l) :: k) a w := Run.step (fun _ => step_goto he) h
theorem Run.cond {c : Operand} {x y : Code} {t : Bool} (hc : a.eval c = .bool t) (ht : t = true → Run P f R (.code x :: k) a w) (hf : t = false → Run P f R (.code y :: k) a w) :
    Run P f R (.code (.cond c x y) :: k) a w := by
  cases t
  · exact Run.step (fun _ => step_cond hc) (hf rfl)
  · exact Run.step (fun _ => step_cond hc) (ht rfl)
theorem Run.loop {c : Code} (I : Act → World → Prop) (μ : Act → World → Nat) (h0 : I a w)
    (round : ∀ a w, I a w → (∀ a' w', I a' w' → μ a' w' < μ a w → Run P f R (.inLoop c :: k) a' w') → Run P f R (.code c :: .inLoop c :: k) a w) :
    Run P f R (.code (.loop c) :: k) a w := by
  have key : ∀ n a w, μ a w = n → I a w → Run P f R (.code c :: .inLoop c :: k) a w := by
    intro n
    induction n using Nat.strongRecOn with
    | _ n ih =>
      intro a w hn hI
      refine round a w hI fun a' w' hI' hlt => ?_
      exact Run.step (fun _ => step_inLoop) (ih _ (hn ▸ hlt) a' w' rfl hI')
  exact Run.step (fun _ => step_loop) (key _ a w rfl h0)
theorem Run.ret {fn : Func} {v : Value} (hf : P.funcs[f]? = some fn) (hr : (results fn a.tmps).run P w = .ok v w) (hd : a.defers = []) (hR : R (.returned v) w) :
    Run P f R (.code .ret :: k) a w := by
  intro cs
  exact ⟨.returned v, w, _, hR, Steps.one step_ret, rfl, rfl, hd, rfl, fn, hf, hr⟩
theorem Run.fin {fn : Func} {v : Value} (hf : P.funcs[f]? = some fn) (hr : (results fn a.tmps).run P w = .ok v w) (hd : a.defers = []) (hR : R (.returned v) w) :
    Run P f R [] a w := by
  intro cs
  exact ⟨.returned v, w, _, hR, Steps.one step_end, rfl, rfl, hd, rfl, fn, hf, hr⟩
def QN (K : Act → World → Prop) : Exit → Act → World → Prop
  | .normal, a, w => K a w
  | _, _, _ => False
theorem Run.wp {c : Code} (h : c.wp P (QN (Run P f R k)) a w) : Run P f R (.code c :: k) a w := by
  intro cs
  obtain ⟨e, a', w', hq, harr⟩ := h (base f) k cs
  cases e with
  | normal =>
    obtain ⟨e, w2, fr, hR, hc, hn, hl⟩ := hq cs
    exact ⟨e, w2, fr, hR, hc.of_steps harr, hn, hl⟩
  | _ => exact hq.elim
end
end Go.JW
