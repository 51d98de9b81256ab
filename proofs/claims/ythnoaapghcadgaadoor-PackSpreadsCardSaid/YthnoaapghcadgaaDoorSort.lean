/- Rows of numbers, sorted and thinned by the library; strings cloned by it. -/
import Derived.Test.YthnoaapghcadgaaDoorRowW
import Derived.Test.YthnoaapghcadgaaDoorShelf
namespace Go.JW
open Go.Sort Go.Proofs

section
variable {w0 w w' : World} {M : Nat → Prop} {σ : PH} {K : List HP}
/-- A block turned, in whatever world that is else as it was, but for more. -/
theorem Sat.turned {b : Nat} {o o' : Obj} (h : Sat w0 M σ (blk b o :: K) w) (h1 : w'.os = w.os) (h2 : w'.tape = w.tape) (h3 : w'.output = w.output) (hsz : w.heap.size ≤ w'.heap.size) (hb : w'.heap[b]? = some o') (hx : ∀ x, x < w.heap.size → x ≠ b → w'.heap[x]? = w.heap[x]?) : Sat w0 M σ (blk b o' :: K) w' := by
  obtain ⟨F1, ⟨g1, g2⟩, g3, g4⟩ := h.sep
  have hs : σ b = none := (g3 b g1).2
  refine ⟨h1.trans h.os, h2.trans h.tape, h3.trans h.output, Nat.le_trans h.size hsz, h.keep, fun x y hy => ?_, F1, ⟨g1, hb⟩, fun x hF => ⟨Nat.lt_of_lt_of_le (g3 x hF).1 hsz, (g3 x hF).2⟩, ?_⟩
  · have hne : x ≠ b := fun e => by subst e; rw [hs] at hy; cases hy
    have h0 := h.imm x y hy
    show w'.heap[x]? = _
    rw [hx x (hp_lt h0) hne]; exact h0
  · refine (g4.here fun x hF => ?_).mono fun x hF => ⟨⟨Nat.lt_of_lt_of_le hF.1.1 hsz, hF.1.2⟩, hF.2⟩
    exact hx x hF.1.1 fun e => hF.2 (e ▸ g1)
theorem heap_put_row {b n : Nat} {os : Array Obj} {c : Array Value} {e : TypeId} (d : Array Int) (hb : w.heap[b]? = some (.cells c e (0, 0))) :
    (Sort.grow (putRow (Value.int .i64) (Sort.ahead w n) b 0 d) os).heap[b]? = some (.cells (putCells (Value.int .i64) 0 d c) e (0, 0)) := by
  have hg : b < w.heap.size := (Array.getElem?_eq_some_iff.1 hb).1
  have hs : (putRow (Value.int .i64) (Sort.ahead w n) b 0 d).heap.size = w.heap.size := by simp [putRow, mapBlock, Sort.ahead]
  simp only [Sort.grow]
  rw [Array.getElem?_append_left (by rw [hs]; exact hg)]
  simp [putRow, mapBlock, Sort.ahead, Array.getElem?_modify, hb, onCells]
theorem heap_put_row_ne {b n x : Nat} {os : Array Obj} (d : Array Int) (hx : x < w.heap.size) (hne : x ≠ b) :
    (Sort.grow (putRow (Value.int .i64) (Sort.ahead w n) b 0 d) os).heap[x]? = w.heap[x]? := by
  have hs : (putRow (Value.int .i64) (Sort.ahead w n) b 0 d).heap.size = w.heap.size := by simp [putRow, mapBlock, Sort.ahead]
  simp only [Sort.grow]
  rw [Array.getElem?_append_left (by rw [hs]; exact hx)]
  simp [putRow, mapBlock, Sort.ahead, Array.getElem?_modify, Ne.symm hne]
theorem take_put (c : Array Value) (ts rest : List Int) (h : ts.length ≤ c.size) : (putCells (Value.int .i64) 0 (ts ++ rest).toArray c).toList.take ts.length = ts.map (Value.int .i64) := by
  apply List.ext_getElem?
  intro j
  by_cases hj : j < ts.length
  · rw [List.getElem?_take_of_lt hj, Array.getElem?_toList]
    simp [putCells, hj, show j < c.size by omega, show j < ts.length + rest.length by omega]
  · rw [List.getElem?_take_eq_none (by omega), List.getElem?_eq_none (by simp; omega)]
theorem Sat.holds {b : Nat} {c0 : List Value} {e : TypeId} {zs : List Int} (h : w.heap[b]? = some (.cells c0.toArray e (0, 0))) (ht : c0.take zs.length = zs.map (Value.int .i64)) : Holds (Value.int .i64) w b 0 zs.toArray := by
  intro j hj
  have hj' : j < zs.length := by simpa using hj
  refine ⟨?_, by simp [World.frozen?, h]⟩
  have h1 : (c0.take zs.length)[j]? = (zs.map (Value.int .i64))[j]? := by rw [ht]
  rw [List.getElem?_take_of_lt hj'] at h1
  simp only [World.cell?, h, Nat.zero_add]
  simp only [Option.isSome_none, Bool.false_eq_true, if_false]
  rw [← Array.getElem?_toList]
  simp only [h1]
  simp [hj']
end
section
variable {P : Program} {q : Bool} {ops : Array Oper} {f : FuncId} {R : Ending → World → Prop} {k : List Item} {n : Nat} {fr : Nat → Value} {w0 : World} {M : Nat → Prop} {σ : PH} {K K' : List HP}
variable {rest : List Oper} {d : Nat} {ty : TypeId} {pos : String} {aft : Array Edge} {x y z : Operand} {t t' : TypeId}
theorem neqA {b : Bool} {us1 us2 : List Value} (heq : ∀ w, (Op.equalIn 10000 t (.agg us1.toArray) (.agg us2.toArray)).run P w = .ok b w) (hg : P.eqGuardType P.depth t = false) (h : LS P q ops f R k rest n (upd fr d (.bool (!b))) w0 M σ K)
    (hx : ev n fr x = .agg us1.toArray := by rfl) (hy : ev n fr y = .agg us2.toArray := by rfl) : LS P q ops f R k (⟨some d, .binOp .neq t x y t', ty, pos, aft, none⟩ :: rest) n fr w0 M σ K :=
  LS.val rfl rfl (fun w _ => by
    simp only [execOp, hx, hy, Sem.run_bind, run_eqGuard_agg w .neq t x y _ _ hg, Result.andThen_ok, run_neq_struct, heq]
    rfl) h
theorem bin_neq_B {a b : Bool} [ht : TBool P t] (h : LS P q ops f R k rest n (upd fr d (.bool (!(a == b)))) w0 M σ K) (hx : ev n fr x = .bool a := by rfl) (hy : ev n fr y = .bool b := by rfl) :
    LS P q ops f R k (⟨some d, .binOp .neq t x y t', ty, pos, aft, none⟩ :: rest) n fr w0 M σ K :=
  LS.val rfl rfl (fun w _ => by
    have e : (Op.equal t (.bool a) (.bool b)).run P w = .ok (a == b) w := run_equalIn_bool' w 9999 t a b ht.eq
    simp only [execOp, hx, hy, eqGuard, Sem.run_bind]
    simp [binOp, e]) h
/-- A call that turns the state: by x. -/
theorem callX {g : FuncId} {xs : Array Operand} {ts : Array TypeId} {args : List Value} {X : Type} (val : X → Value) (σx : X → PH) (Kx : X → List HP) (Q : X → Prop) [i : Fun P g]
    (h : ∀ x, Q x → LS P false ops f R k rest n (upd fr d (val x)) w0 M (σx x) (Kx x))
    (hc : ∀ w, Sat w0 M σ K w → Calls P g args.toArray w fun e w' => ∃ x, e = .returned (val x) ∧ Sat w0 M (σx x) (Kx x) w' ∧ Q x) (hx : xs.toList.map (ev n fr) = args := by rfl) :
    LS P false ops f R k (⟨some d, .call ⟨.value (.func g), xs, ts⟩, ty, pos, aft, none⟩ :: rest) n fr w0 M σ K :=
  LS.enterW rfl rfl (fun w _ => exec_call i.eq hx w) fun w hw => (hc w hw).mono fun _ _ ⟨x, he, hs, hq⟩ => ⟨val x, σx x, Kx x, he, hs, h x hq⟩
/-- A slice of which the capacity is cut to its length. -/
theorem slcCut (l : Nat) {a : Option Addr} {len cap s : Nat} {e : TypeId} {hi mx : Operand} {kk kk' : IntKind} {j j' : Int} [ht : TSlice P t e] [hs : TSz P e s]
    (h : LS P q ops f R k rest n (upd fr d (.slice a l l)) w0 M σ K) (hx : ev n fr x = .slice a len cap := by rfl) (hhi : ev n fr hi = .int kk j := by rfl) (hmx : ev n fr mx = .int kk' j' := by rfl) (hj : j = (l : Int) := by rfl) (hj' : j' = (l : Int) := by rfl) (hl : l ≤ cap := by omega) :
    LS P q ops f R k (⟨some d, .slice t x none (some hi) (some mx), ty, pos, aft, none⟩ :: rest) n fr w0 M σ K := by
  refine slc 0 l l ?_ hx (fun w => by subst hj; subst hj'; simp [Instr.sliceBounds, hhi, hmx, run_sliceBound, hl])
  have e : (a.map (·.add (0 * s))) = a := by cases a <;> simp [Addr.add]
  simp only [e, Nat.sub_zero, ite_self]; exact h
/-- A row is not written any more. -/
theorem RS.freezeD {α : Type} {ri : Rep α} {N e : Nat} {l : List α} {put : HP → List HP} (v : Value) (h : ∀ σ', PH.le σ σ' → RepL (fromN N σ') v l → RS P f R k n fr w0 (fun _ => False) σ' K') (hN : N ≤ w0.heap.size := by first | exact Nat.le_refl _ | exact Nat.zero_le _ | assumption) (hl : l.length ≤ 140737488355328 := by omega) (hf : FindD v K α ri N e l put K' := by infer_instance) :
    RS P f R k n fr w0 (fun _ => False) σ K :=
  ⟨fun w hw => by
    obtain ⟨cs, hc, hw'⟩ := hw.openD hf
    obtain ⟨a, cap, σ', rfl, h2, h3, h4, h5, h6, h7⟩ := hw'.freezeRow (hf := FindR.head)
    refine (h σ' h3 ⟨hl, a, cap, rfl, h2, fun hn => ?_⟩).out w h4
    rcases h7 with ⟨h8, _⟩ | ⟨b, rfl, g1, _, g2, g3⟩
    · exact absurd (List.eq_nil_of_length_eq_zero h8) hn
    · refine ⟨b, 0, rfl, (hc.mono (fromN_up h3)).rowAt fun j hj => ?_⟩
      rw [hc.len] at hj
      have hb : ¬ b < w0.heap.size := fun h => g1 h
      rw [Nat.zero_add, ← g3 j hj]
      have : fromN N σ' b = σ' b := by simp only [fromN]; rw [if_pos (by omega)]
      simp only [PH.cell, this]⟩
end
section
variable {P : Program} {f : FuncId} {R : Ending → World → Prop} {k : List Item} {n : Nat} {fr : Nat → Value} {w0 : World} {M : Nat → Prop} {σ : PH} {K0 : List HP}
variable {H : HS} {O : List (Nat × Obj)} {Kb : List HP} {E : List Nat} {tags : List Tag} {rest : List Oper} {d : Nat} {ty : TypeId} {pos : String} {aft : Array Edge} {x y z : Operand} {t t' : TypeId}
variable {α : Type} {ri : Rep α} {N e : Nat} {l l' : List α}
/-- Loads of what is not written any more, whenever they come. -/
theorem D.ldSf {b off : Nat} {v : Value} {Kf : Us → List HP} {sg : Bool} [ht : TOne P t] (hc : σ.cell b off = some v) (h : LD P f R k n w0 M σ Kb rest tags ⟨upd fr d v, H, O, Kf, E, sg⟩) (hx : ∀ us, ev n (fill fr H us) x = .pointer (some ⟨b, off, none⟩) := by intro _; rfl) :
    LD P f R k n w0 M σ Kb (⟨some d, .load t x, ty, pos, aft, none⟩ :: rest) (.free :: tags) ⟨fr, H, O, Kf, E, sg⟩ :=
  D.freeI h fun us w hle => by
    have hc' : w.cell? ⟨b, off, none⟩ = some v := by rw [← PH.cell_world]; exact PH.cell_mono hle hc
    have := run_loadVar1 (P := P) (w := w) (b := b) ht.agg off hc'
    simp [execOp, hx us, Instr.loadAt, Instr.sureAddr, this]
theorem D.ldSAf {vs : List Value} {b off s : Nat} {Kf : Us → List HP} {sg : Bool} [ht : TAgg P t] [hs : TSz P t s] (hl : vs.length = s) (hc : ∀ j, j < s → σ.cell b (off + j) = vs[j]?) (h : LD P f R k n w0 M σ Kb rest tags ⟨upd fr d (.agg vs.toArray), H, O, Kf, E, sg⟩) (hx : ∀ us, ev n (fill fr H us) x = .pointer (some ⟨b, off, none⟩) := by intro _; rfl) :
    LD P f R k n w0 M σ Kb (⟨some d, .load t x, ty, pos, aft, none⟩ :: rest) (.free :: tags) ⟨fr, H, O, Kf, E, sg⟩ :=
  D.freeI h fun us w hle => by
    have := run_loadVarA (P := P) (w := w) (b := b) ht.agg hs.eq off hl (fun j hj => by
      have h1 := hc j hj
      rw [List.getElem?_eq_getElem (by omega)] at h1 ⊢
      rw [← PH.cell_world]; exact PH.cell_mono hle h1)
    simp [execOp, hx us, Instr.loadAt, Instr.sureAddr, this]
/-- An empty literal. -/
theorem D.lit0 {e s : Nat} {zs : List Value} [ht : TSlice P t e] [hs : TSz P e s] [hz : TZero P e zs] {Kf : Us → List HP}
    (h : LD P f R k n w0 M σ Kb rest tags ⟨fr, (d, fun v _ => ∃ a, v = .slice a 0 0) :: H, O, Kf, E, false⟩) :
    LD P f R k n w0 M σ Kb (⟨some d, .buildSlice t 0 #[], ty, pos, aft, none⟩ :: rest) (.ex :: tags) ⟨fr, H, O, Kf, E, false⟩ :=
  D.bldS (s := s) (zs := zs) (vs := fun _ => []) (fun v _ => ∃ a, v = .slice a 0 0) (fun _ _ _ h _ => h) h (fun _ _ _ _ => ⟨[], rfl, fun b _ _ _ _ => ⟨_, rfl⟩⟩) (fun _ => rfl) (fun _ => rfl) (by simp)
/-- 'append' onto such a one. -/
theorem D.app0 {s by_ : Nat} {zs : List Value} {vy : Us → Value} (sl : Nat) (N : Nat) (l' : List α) [ht : TSlice P t e] [hs : TSz P e s] [hby : TBytes P e by_] [hz : TZero P e zs]
    (h : LD P f R k n w0 M σ Kb rest tags ⟨fr, (d, fun _ _ => True) :: H, O, fun us => rowD N e (us d) l' :: K0, d :: ((Stg.mk fr H O (fun _ => K0) E false).seen ⟨some d, .call ⟨.builtin .append, #[x, y], #[t, t']⟩, ty, pos, aft, none⟩ ++ E), false⟩)
    (hsrc : ∀ us σ', PH.le σ σ' → Facts H (readsTmp ⟨some d, .call ⟨.builtin .append, #[x, y], #[t, t']⟩, ty, pos, aft, none⟩) us σ' → (∃ a, us sl = .slice a 0 0) ∧ ∃ τ, RepL τ (vy us) l' ∧ PH.le τ (fromN N σ'))
    (hx : ∀ us, ev n (fill fr H us) x = us sl := by intro _; rfl) (hy : ∀ us, ev n (fill fr H us) y = vy us := by intro _; rfl)
    (hL : Less K0 Kb := by infer_instance) (hk : ∃ e', P.underlying t' = some (.slice e') := by exact ⟨_, TSlice.eq⟩)
    (hss : s = Rep.sz α := by rfl) (hzs : Nat.beq zs.length s = true := by rfl) (hb : l'.length * by_ ≤ 140737488355328 := by first | omega | (simp only [List.length_cons, List.length_nil]; omega)) (hm : l'.length ≤ 140737488355328 := by first | omega | (simp only [List.length_cons, List.length_nil]; omega)) :
    LD P f R k n w0 M σ Kb (⟨some d, .call ⟨.builtin .append, #[x, y], #[t, t']⟩, ty, pos, aft, none⟩ :: rest) (.eff :: tags) ⟨fr, H, O, fun _ => K0, E, false⟩ := by
  refine D.eff (fun _ _ => True) (fun us => rowD N e (us d) l' :: K0) _ (fun _ _ _ _ _ => trivial) (fun us => ⟨fun h => hL.get h.tail⟩) h (fun us σ' w X hle hfs hw => ?_) (fun us => ?_)
  · obtain ⟨⟨a, ea⟩, τ, h1, h2⟩ := hsrc us σ' hle hfs
    obtain ⟨e', hk⟩ := hk
    obtain ⟨news, g1, g2⟩ := srcD (t' := t') hw hk h1 (PH.le_trans h2 (fromN_le _ _))
    have hw0 : Sat w0 M σ' (rowD N e (.slice a 0 0) ([] : List α) :: X :: K0) w := hw.weak fun F hF => ⟨fun _ => False, ⟨[], rfl, by simp, rfl, a, 0, rfl, by simp, by simp, .inl ⟨rfl, rfl⟩⟩, fun _ h => h.elim, hF.mono fun b hb => ⟨hb, fun h => h⟩⟩
    obtain ⟨v', w', h3, h4⟩ := appRunD (t := t) (t' := t') (ty := ty) (v := .slice a 0 0) (FindD.head) hw0 ⟨news, by subst hss; exact g1, g2.mono h2⟩ hss hzs (by simpa using hb) (by simpa using hm)
    refine .inl ⟨v', w', by simp [execOp, resolve, invoke, builtin, hx us, hy us, ea, h3], σ', PH.le_refl _, ?_, trivial⟩
    have h5 := h4.weak fun _ => SepIn.swap
    simpa [upd_eq] using h5
  · show rowD N e (resE _ us d) l' :: K0 = _
    rw [resE_mem (by simp)]
/-- 'append' onto what the region has made. -/
theorem D.appU {s by_ : Nat} {zs : List Value} {vy : Us → Value} (sl : Nat) (l' : List α) [ht : TSlice P t e] [hs : TSz P e s] [hby : TBytes P e by_] [hz : TZero P e zs]
    (h : LD P f R k n w0 M σ Kb rest tags ⟨fr, (d, fun _ _ => True) :: H, O, fun us => rowD N e (us d) (l ++ l') :: K0, d :: ((Stg.mk fr H O (fun us => rowD N e (us sl) l :: K0) E false).seen ⟨some d, .call ⟨.builtin .append, #[x, y], #[t, t']⟩, ty, pos, aft, none⟩ ++ E), false⟩)
    (hsrc : ∀ us σ', PH.le σ σ' → Facts H (readsTmp ⟨some d, .call ⟨.builtin .append, #[x, y], #[t, t']⟩, ty, pos, aft, none⟩) us σ' → ∃ τ, RepL τ (vy us) l' ∧ PH.le τ (fromN N σ'))
    (hx : ∀ us, ev n (fill fr H us) x = us sl := by intro _; rfl) (hy : ∀ us, ev n (fill fr H us) y = vy us := by intro _; rfl)
    (hL : Less K0 Kb := by infer_instance) (hk : ∃ e', P.underlying t' = some (.slice e') := by exact ⟨_, TSlice.eq⟩)
    (hss : s = Rep.sz α := by rfl) (hzs : Nat.beq zs.length s = true := by rfl) (hb : (l.length + l'.length) * by_ ≤ 140737488355328 := by first | omega | (simp only [List.length_cons, List.length_nil]; omega)) (hm : l.length + l'.length ≤ 140737488355328 := by first | omega | (simp only [List.length_cons, List.length_nil]; omega)) :
    LD P f R k n w0 M σ Kb (⟨some d, .call ⟨.builtin .append, #[x, y], #[t, t']⟩, ty, pos, aft, none⟩ :: rest) (.eff :: tags) ⟨fr, H, O, fun us => rowD N e (us sl) l :: K0, E, false⟩ := by
  refine D.eff (fun _ _ => True) (fun us => rowD N e (us d) (l ++ l') :: K0) _ (fun _ _ _ _ _ => trivial) (fun us => ⟨fun h => hL.get h.tail⟩) h (fun us σ' w X hle hfs hw => ?_) (fun us => ?_)
  · obtain ⟨τ, h1, h2⟩ := hsrc us σ' hle hfs
    obtain ⟨e', hk⟩ := hk
    obtain ⟨news, g1, g2⟩ := srcD (t' := t') hw hk h1 (PH.le_trans h2 (fromN_le _ _))
    obtain ⟨v', w', h3, h4⟩ := appRunD (t := t) (t' := t') (ty := ty) (v := us sl) (FindD.tail (i := FindD.head)) hw ⟨news, by subst hss; exact g1, g2.mono h2⟩ hss hzs hb hm
    refine .inl ⟨v', w', by simp [execOp, resolve, invoke, builtin, hx us, hy us, h3], σ', PH.le_refl _, ?_, trivial⟩
    simpa [upd_eq] using h4
  · show rowD N e (resE _ us d) (l ++ l') :: K0 = _
    rw [resE_mem (by simp)]
theorem D.slcLo (l : Nat) {a : Option Addr} {len cap s : Nat} {e : TypeId} {lo : Operand} {kk : IntKind} {j : Int} {Kf : Us → List HP} {sg : Bool} [ht : TSlice P t e] [hs : TSz P e s]
    (h : LD P f R k n w0 M σ Kb rest tags ⟨upd fr d (.slice (if cap = l then a else a.map (·.add (l * s))) (len - l) (cap - l)), H, O, Kf, E, sg⟩) (hx : ∀ us, ev n (fill fr H us) x = .slice a len cap := by intro _; rfl) (hlo : ∀ us, ev n (fill fr H us) lo = .int kk j := by intro _; rfl) (hj : j = (l : Int) := by omega) (hl : l ≤ len := by omega) :
    LD P f R k n w0 M σ Kb (⟨some d, .slice t x (some lo) none none, ty, pos, aft, none⟩ :: rest) (.free :: tags) ⟨fr, H, O, Kf, E, sg⟩ :=
  D.slc l len cap h hx (fun us w => by subst hj; simp [Instr.sliceBounds, hlo us, run_sliceBound, hl])
/-- A row goes by another slot. -/
theorem D.mvD (sl : Nat) (h : LD P f R k n w0 M σ Kb rest tags ⟨fr, (d, fun _ _ => True) :: H, O, fun us => rowD N e (us d) l :: K0, d :: ((Stg.mk fr H O (fun us => rowD N e (us sl) l :: K0) E false).seen ⟨some d, .assign x, ty, pos, aft, none⟩ ++ E), false⟩)
    (hx : ∀ us, ev n (fill fr H us) x = us sl := by intro _; rfl) (hL : Less K0 Kb := by infer_instance) :
    LD P f R k n w0 M σ Kb (⟨some d, .assign x, ty, pos, aft, none⟩ :: rest) (.eff :: tags) ⟨fr, H, O, fun us => rowD N e (us sl) l :: K0, E, false⟩ := by
  refine D.eff (fun _ _ => True) (fun us => rowD N e (us d) l :: K0) _ (fun _ _ _ _ _ => trivial) (fun us => ⟨fun h => hL.get h.tail⟩) h (fun us σ' w X hle hfs hw => ?_) (fun us => ?_)
  · exact .inl ⟨us sl, w, by simp [execOp, hx us], σ', PH.le_refl _, by simpa [upd_eq] using hw, trivial⟩
  · show rowD N e (resE _ us d) l :: K0 = _
    rw [resE_mem (by simp)]
/-- Stores of whole variables where the region has made two: the older one first. -/
theorem D.stO2 {s s2 sz : Nat} {cs cs2 : List Value} {T T2 : TypeId} {Kf : Us → List HP} {sg : Bool} (ncs : List Value) [hs : TSz P t sz] (h : LD P f R k n w0 M σ Kb rest tags ⟨fr, H, [], fun us => ownHP (us s2) (.cells cs2.toArray T2 (0, 0)) :: ownHP (us s) (.cells ncs.toArray T (0, 0)) :: Kf us, [s2, s] ++ ((Stg.mk fr H [(s2, .cells cs2.toArray T2 (0, 0)), (s, .cells cs.toArray T (0, 0))] Kf E sg).seen ⟨none, .store t (.tmp s) y, ty, pos, aft, none⟩ ++ E), true⟩)
    (hy : ∀ us, ev n (fill fr H us) y = .agg ncs.toArray := by intro _; rfl) (hn : Nat.beq ncs.length sz = true := by rfl) (h1 : ncs.all (·.oneCell') = true := by rfl)
    (hx : ∀ us, ev n (fill fr H us) (.tmp s) = us s := by intro _; rfl) (hl : Nat.beq cs.length sz = true := by rfl)
    (hE : ∀ us, (fun us => ownHP (us s2) (.cells cs2.toArray T2 (0, 0)) :: ownHP (us s) (.cells ncs.toArray T (0, 0)) :: Kf us) (resE ([s2, s] ++ ((Stg.mk fr H [(s2, .cells cs2.toArray T2 (0, 0)), (s, .cells cs.toArray T (0, 0))] Kf E sg).seen ⟨none, .store t (.tmp s) y, ty, pos, aft, none⟩ ++ E)) us) = (fun us => ownHP (us s2) (.cells cs2.toArray T2 (0, 0)) :: ownHP (us s) (.cells ncs.toArray T (0, 0)) :: Kf us) us := by intro _; rfl) :
    LD P f R k n w0 M σ Kb (⟨none, .store t (.tmp s) y, ty, pos, aft, none⟩ :: rest) (.st :: tags) ⟨fr, H, [(s2, .cells cs2.toArray T2 (0, 0)), (s, .cells cs.toArray T (0, 0))], Kf, E, sg⟩ :=
  D.st (fun us => ownHP (us s2) (.cells cs2.toArray T2 (0, 0)) :: ownHP (us s) (.cells ncs.toArray T (0, 0)) :: Kf us) _ h (fun us σ' w hle hf hw => by
    have hw : Sat w0 M σ' (ownHP (us s2) (.cells cs2.toArray T2 (0, 0)) :: ownHP (us s) (.cells cs.toArray T (0, 0)) :: Kf us) w := hw
    have hw2 := hw.weak fun _ => SepIn.swap
    obtain ⟨F1, ⟨b, g1, g2, g3⟩, g4, g5⟩ := hw2.sep
    have hl' := Nat.eq_of_beq_eq_true hl
    have hn' := Nat.eq_of_beq_eq_true hn
    have hc : cellsL (.agg ncs.toArray) = ncs := rfl
    have hrun := run_storeVarL (P := P) (t := t) (v := .agg ncs.toArray) g3 hs.eq 0 (by rw [hc]; exact hn') (by omega) (by rw [hc]; exact h1)
    have e0 : setAt cs 0 ncs = ncs := by simpa using setAt_mid [] cs [] ncs (by omega)
    rw [hc, e0] at hrun
    refine ⟨{ w with heap := w.heap.setIfInBounds b (.cells ncs.toArray T (0, 0)) }, by simp [execOp, hx us, hy us, g1, Instr.storeAt, Instr.sureAddr, hrun], Sat.weak (K := ownHP (us s) (.cells ncs.toArray T (0, 0)) :: ownHP (us s2) (.cells cs2.toArray T2 (0, 0)) :: Kf us) ?_ fun _ => SepIn.swap⟩
    refine Sat.putG (A := ownHP (us s) (.cells cs.toArray T (0, 0))) hw2 fun F ⟨b', k1, k2, k3⟩ hF => ?_
    rw [g1] at k1; injection k1 with k1; injection k1 with k1; injection k1 with k1
    subst k1
    exact ⟨k2, b, g1, k2, by simp⟩) hE
theorem D.stK {s sz : Nat} {cs : List Value} {T : TypeId} {Kf : Us → List HP} {sg : Bool} (ncs : List Value) [hs : TSz P t sz] (h : LD P f R k n w0 M σ Kb rest tags ⟨fr, H, [], fun us => ownHP (us s) (.cells ncs.toArray T (0, 0)) :: Kf us, (Stg.mk fr H [] (fun us => ownHP (us s) (.cells cs.toArray T (0, 0)) :: Kf us) E sg).seen ⟨none, .store t (.tmp s) y, ty, pos, aft, none⟩ ++ E, true⟩)
    (hy : ∀ us, ev n (fill fr H us) y = .agg ncs.toArray := by intro _; rfl) (hn : Nat.beq ncs.length sz = true := by rfl) (h1 : ncs.all (·.oneCell') = true := by rfl)
    (hx : ∀ us, ev n (fill fr H us) (.tmp s) = us s := by intro _; rfl) (hl : Nat.beq cs.length sz = true := by rfl)
    (hE : ∀ us, (fun us => ownHP (us s) (.cells ncs.toArray T (0, 0)) :: Kf us) (resE (([] : List (Nat × Obj)).map (·.1) ++ ((Stg.mk fr H [] (fun us => ownHP (us s) (.cells cs.toArray T (0, 0)) :: Kf us) E sg).seen ⟨none, .store t (.tmp s) y, ty, pos, aft, none⟩ ++ E)) us) = (fun us => ownHP (us s) (.cells ncs.toArray T (0, 0)) :: Kf us) us := by intro _; rfl) :
    LD P f R k n w0 M σ Kb (⟨none, .store t (.tmp s) y, ty, pos, aft, none⟩ :: rest) (.st :: tags) ⟨fr, H, [], fun us => ownHP (us s) (.cells cs.toArray T (0, 0)) :: Kf us, E, sg⟩ :=
  D.st (fun us => ownHP (us s) (.cells ncs.toArray T (0, 0)) :: Kf us) _ h (fun us σ' w hle hf hw => by
    have hw : Sat w0 M σ' (ownHP (us s) (.cells cs.toArray T (0, 0)) :: Kf us) w := hw
    obtain ⟨F1, ⟨b, g1, g2, g3⟩, g4, g5⟩ := hw.sep
    have hl' := Nat.eq_of_beq_eq_true hl
    have hn' := Nat.eq_of_beq_eq_true hn
    have hc : cellsL (.agg ncs.toArray) = ncs := rfl
    have hrun := run_storeVarL (P := P) (t := t) (v := .agg ncs.toArray) g3 hs.eq 0 (by rw [hc]; exact hn') (by omega) (by rw [hc]; exact h1)
    have e0 : setAt cs 0 ncs = ncs := by simpa using setAt_mid [] cs [] ncs (by omega)
    rw [hc, e0] at hrun
    refine ⟨{ w with heap := w.heap.setIfInBounds b (.cells ncs.toArray T (0, 0)) }, by simp [execOp, hx us, hy us, g1, Instr.storeAt, Instr.sureAddr, hrun], ?_⟩
    refine Sat.putG (A := ownHP (us s) (.cells cs.toArray T (0, 0))) hw fun F ⟨b', k1, k2, k3⟩ hF => ?_
    rw [g1] at k1; injection k1 with k1; injection k1 with k1; injection k1 with k1
    subst k1
    exact ⟨k2, b, g1, k2, by simp⟩) hE
end
/-- A slice's capacity told anew. -/
theorem RepL.recap {α : Type} [Rep α] {σ : PH} {a : Option Addr} {m cap cap' : Nat} {l : List α} (h : RepL σ (.slice a m cap) l) (hc : m ≤ cap') : RepL σ (.slice a m cap') l := by
  have hm := h.len
  subst hm
  exact ⟨h.1, a, cap', rfl, hc, fun hn => h.addr hn⟩
theorem RepL.take {α : Type} [Rep α] {σ : PH} {a : Option Addr} {m cap : Nat} {l : List α} (h : RepL σ (.slice a m cap) l) (k : Nat) (hk : k ≤ l.length) : RepL σ (.slice a k cap) (l.take k) := by
  have hm := h.len
  have hc := h.cap
  have hl : (l.take k).length = k := by rw [List.length_take]; omega
  refine ⟨by have := h.1; omega, a, cap, by rw [hl], by omega, fun hn => ?_⟩
  obtain ⟨b, o, e, r⟩ := h.addr (fun h0 => hn (by rw [h0]; simp))
  refine ⟨b, o, e, fun i hi => ?_⟩
  obtain ⟨vs, h1, h2⟩ := r i (by omega)
  exact ⟨vs, h1, by rw [List.getElem_take]; exact h2⟩
theorem RepL.drop {α : Type} [Rep α] {σ : PH} {a : Option Addr} {m cap : Nat} {l : List α} (h : RepL σ (.slice a m cap) l) (k : Nat) (hk : k ≤ l.length) : RepL σ (.slice (if cap = k then a else a.map (·.add (k * Rep.sz α))) (m - k) (cap - k)) (l.drop k) := by
  have hm := h.len
  have hc := h.cap
  have hl : (l.drop k).length = m - k := by rw [List.length_drop]; omega
  refine ⟨by have := h.1; omega, _, cap - k, by rw [hl], by omega, fun hn => ?_⟩
  have hk' : k < l.length := Nat.lt_of_not_le fun hle => hn (List.drop_eq_nil_of_le hle)
  rw [if_neg (by omega)]
  obtain ⟨b, o, rfl, r⟩ := h.addr (fun h0 => hn (by rw [h0]; simp))
  refine ⟨b, o + k * Rep.sz α, by simp [Addr.add], fun i hi => ?_⟩
  obtain ⟨vs, h1, h2⟩ := r (k + i) (by omega)
  refine ⟨vs, fun j hj => ?_, by rw [List.getElem_drop]; exact h2⟩
  rw [← h1 j hj]; congr 1; rw [Nat.add_mul]; omega
theorem Sat.since_le {w0 w : World} {M : Nat → Prop} {σ : PH} {K : List HP} (hw : Sat w0 M σ K w) : PH.le (fromN w0.heap.size σ) (since w0 w) := fun b o hb => by
  have h1 := hw.imm b o (fromN_le _ _ b o hb)
  simp only [fromN] at hb
  split at hb
  · rename_i hge; simp only [since]; rw [if_pos hge]; exact h1
  · cases hb
theorem CellsL.ints {σ : PH} : ∀ {zs : List Int} {cs : List Value}, CellsL σ cs zs → cs = zs.map (Value.int .i64) ∧ ∀ z ∈ zs, I64 z := by
  intro zs
  induction zs with
  | nil => intro cs h; simp only [CellsL] at h; subst h; simp
  | cons z zs ih =>
    rintro cs ⟨c1, c2, rfl, ⟨rfl, h1⟩, h2⟩
    obtain ⟨rfl, h3⟩ := ih h2
    exact ⟨rfl, fun y hy => (List.mem_cons.1 hy).elim (fun e => e ▸ h1) (h3 y)⟩
theorem CellsL.ofInts (σ : PH) : ∀ {zs : List Int}, (∀ z ∈ zs, I64 z) → CellsL σ (zs.map (Value.int .i64)) zs := by
  intro zs
  induction zs with
  | nil => intro _; rfl
  | cons z zs ih => intro h; exact ⟨[.int .i64 z], zs.map (Value.int .i64), rfl, ⟨rfl, h z (by simp)⟩, ih fun y hy => h y (by simp [hy])⟩
section
variable {w0 w : World} {M : Nat → Prop} {σ : PH} {K K' : List HP}
end
/-! strictly rising rows -/
def Rising (l : List Int) : Prop := l.Pairwise (· < ·)
theorem Rising.ext : ∀ {l l' : List Int}, Rising l → Rising l' → (∀ x, x ∈ l ↔ x ∈ l') → l = l' := by
  intro l
  induction l with
  | nil => intro l' _ _ h; cases l' with
    | nil => rfl
    | cons y l' => exact absurd ((h y).2 (by simp)) (by simp)
  | cons x l ih =>
    intro l' h1 h2 h
    cases l' with
    | nil => exact absurd ((h x).1 (by simp)) (by simp)
    | cons y l' =>
      obtain ⟨a1, a2⟩ := List.pairwise_cons.1 h1
      obtain ⟨b1, b2⟩ := List.pairwise_cons.1 h2
      have hxy : x = y := by
        rcases List.mem_cons.1 ((h x).1 (by simp)) with e | e
        · exact e
        · rcases List.mem_cons.1 ((h y).2 (by simp)) with e' | e'
          · exact e'.symm
          · have := b1 x e; have := a1 y e'; omega
      subst hxy
      congr 1
      refine ih a2 b2 fun z => ?_
      constructor
      · intro hz
        rcases List.mem_cons.1 ((h z).1 (by simp [hz])) with e | e
        · subst e; have := a1 z hz; omega
        · exact e
      · intro hz
        rcases List.mem_cons.1 ((h z).2 (by simp [hz])) with e | e
        · subst e; have := b1 z hz; omega
        · exact e
end Go.JW
