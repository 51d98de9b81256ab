/- The base of the walks: rules, contracts, plain laws, part 2. -/
import Derived.Test.YtaokfeonmgpjcaaGreatDoorS1
namespace Go.JW
open Go.Sort Go.Proofs

section
variable {w0 w w' : World} {M : Nat → Prop} {σ : PH} {K : List HP}
theorem Sat.turned {b : Nat} {o o' : Obj} (h : Sat w0 M σ (blk b o :: K) w) (h1 : w'.os = w.os) (h2 : w'.tape = w.tape) (h3 : w'.output = w.output) (hsz : w.heap.size ≤ w'.heap.size) (hb : w'.heap[b]? = some o') (hx : ∀ x, x < w.heap.size → x ≠ b → w'.heap[x]? = w.heap[x]?) : Sat w0 M σ (blk b o' :: K) w' := by
  obtain ⟨F1, ⟨g1, g2⟩, g3, g4⟩ := h.sep
  have hs : σ b = none := (g3 b g1).2
  refine ⟨h1.trans h.os, h2.trans h.tape, h3.trans h.output, Nat.le_trans h.size hsz, h.keep, fun x y hy => ?_, F1, ⟨g1, hb⟩, fun x hF => ⟨Nat.lt_of_lt_of_le (g3 x hF).1 hsz, (g3 x hF).2⟩, ?_⟩
  · have hne : x ≠ b := fun e => by subst e; rw [hs] at hy; cases hy
    have h0 := h.imm x y hy
    show w'.heap[x]? = _
    rw [hx x (hp_lt h0) hne]; exact h0
  · refine (g4.here fun x hF => ?_).mono fun x hF => ⟨⟨Nat.lt_of_lt_of_le hF.1.1 hsz, hF.1.2⟩, hF.2⟩
    exact hx x hF.1.1 fun e => hF.2 (e ▸ g1)
theorem heap_put_row {b n : Nat} {os : Array Obj} {c : Array Value} {e : TypeId} (d : Array Int) (hb : w.heap[b]? = some (.cells c e (0, 0))) :
    (Sort.grow (putRow (Value.int .i64) (Sort.ahead w n) b 0 d) os).heap[b]? = some (.cells (putCells (Value.int .i64) 0 d c) e (0, 0)) := by
  have hg : b < w.heap.size := (Array.getElem?_eq_some_iff.1 hb).1
  have hs : (putRow (Value.int .i64) (Sort.ahead w n) b 0 d).heap.size = w.heap.size := by simp [putRow, mapBlock, Sort.ahead]
  simp only [Sort.grow]
  rw [Array.getElem?_append_left (by rw [hs]; exact hg)]
  simp [putRow, mapBlock, Sort.ahead, Array.getElem?_modify, hb, onCells]
theorem heap_put_row_ne {b n x : Nat} {os : Array Obj} (d : Array Int) (hx : x < w.heap.size) (hne : x ≠ b) :
    (Sort.grow (putRow (Value.int .i64) (Sort.ahead w n) b 0 d) os).heap[x]? = w.heap[x]? := by
  have hs : (putRow (Value.int .i64) (Sort.ahead w n) b 0 d).heap.size = w.heap.size := by simp [putRow, mapBlock, Sort.ahead]
  simp only [Sort.grow]
  rw [Array.getElem?_append_left (by rw [hs]; exact hx)]
  simp [putRow, mapBlock, Sort.ahead, Array.getElem?_modify, Ne.symm hne]
theorem take_put (c : Array Value) (ts rest : List Int) (h : ts.length ≤ c.size) : (putCells (Value.int .i64) 0 (ts ++ rest).toArray c).toList.take ts.length = ts.map (Value.int .i64) := by
  apply List.ext_getElem?
  intro j
  by_cases hj : j < ts.length
  · rw [List.getElem?_take_of_lt hj, Array.getElem?_toList]
    simp [putCells, hj, show j < c.size by omega, show j < ts.length + rest.length by omega]
  · rw [List.getElem?_take_eq_none (by omega), List.getElem?_eq_none (by simp; omega)]
theorem Sat.holds {b : Nat} {c0 : List Value} {e : TypeId} {zs : List Int} (h : w.heap[b]? = some (.cells c0.toArray e (0, 0))) (ht : c0.take zs.length = zs.map (Value.int .i64)) : Holds (Value.int .i64) w b 0 zs.toArray := by
  intro j hj
  have hj' : j < zs.length := by simpa using hj
  refine ⟨?_, by simp [World.frozen?, h]⟩
  have h1 : (c0.take zs.length)[j]? = (zs.map (Value.int .i64))[j]? := by rw [ht]
  rw [List.getElem?_take_of_lt hj'] at h1
  simp only [World.cell?, h, Nat.zero_add]
  simp only [Option.isSome_none, Bool.false_eq_true, if_false]
  rw [← Array.getElem?_toList]
  simp only [h1]
  simp [hj']
end
section
variable {P : Program} {q : Bool} {ops : Array Oper} {f : FuncId} {R : Ending → World → Prop} {k : List Item} {n : Nat} {fr : Nat → Value} {w0 : World} {M : Nat → Prop} {σ : PH} {K K' : List HP}
variable {rest : List Oper} {d : Nat} {ty : TypeId} {pos : String} {aft : Array Edge} {x y z : Operand} {t t' : TypeId}
theorem neqA {b : Bool} {us1 us2 : List Value} (heq : ∀ w, (Op.equalIn 10000 t (.agg us1.toArray) (.agg us2.toArray)).run P w = .ok b w) (hg : P.eqGuardType P.depth t = false) (h : LS P q ops f R k rest n (upd fr d (.bool (!b))) w0 M σ K)
    (hx : ev n fr x = .agg us1.toArray := by rfl) (hy : ev n fr y = .agg us2.toArray := by rfl) : LS P q ops f R k (⟨some d, .binOp .neq t x y t', ty, pos, aft, none⟩ :: rest) n fr w0 M σ K :=
  LS.val rfl rfl (fun w _ => by
    simp only [execOp, hx, hy, Sem.run_bind, run_eqGuard_agg w .neq t x y _ _ hg, Result.andThen_ok, run_neq_struct, heq]
    rfl) h
theorem bin_neq_B {a b : Bool} [ht : TBool P t] (h : LS P q ops f R k rest n (upd fr d (.bool (!(a == b)))) w0 M σ K) (hx : ev n fr x = .bool a := by rfl) (hy : ev n fr y = .bool b := by rfl) :
    LS P q ops f R k (⟨some d, .binOp .neq t x y t', ty, pos, aft, none⟩ :: rest) n fr w0 M σ K :=
  LS.val rfl rfl (fun w _ => by
    have e : (Op.equal t (.bool a) (.bool b)).run P w = .ok (a == b) w := run_equalIn_bool' w 9999 t a b ht.eq
    simp only [execOp, hx, hy, eqGuard, Sem.run_bind]
    simp [binOp, e]) h
theorem callX {g : FuncId} {xs : Array Operand} {ts : Array TypeId} {args : List Value} {X : Type} (val : X → Value) (σx : X → PH) (Kx : X → List HP) (Q : X → Prop) [i : Fun P g]
    (h : ∀ x, Q x → LS P false ops f R k rest n (upd fr d (val x)) w0 M (σx x) (Kx x))
    (hc : ∀ w, Sat w0 M σ K w → Calls P g args.toArray w fun e w' => ∃ x, e = .returned (val x) ∧ Sat w0 M (σx x) (Kx x) w' ∧ Q x) (hx : xs.toList.map (ev n fr) = args := by rfl) :
    LS P false ops f R k (⟨some d, .call ⟨.value (.func g), xs, ts⟩, ty, pos, aft, none⟩ :: rest) n fr w0 M σ K :=
  LS.enterW rfl rfl (fun w _ => exec_call i.eq hx w) fun w hw => (hc w hw).mono fun _ _ ⟨x, he, hs, hq⟩ => ⟨val x, σx x, Kx x, he, hs, h x hq⟩
theorem slcCut (l : Nat) {a : Option Addr} {len cap s : Nat} {e : TypeId} {hi mx : Operand} {kk kk' : IntKind} {j j' : Int} [ht : TSlice P t e] [hs : TSz P e s]
    (h : LS P q ops f R k rest n (upd fr d (.slice a l l)) w0 M σ K) (hx : ev n fr x = .slice a len cap := by rfl) (hhi : ev n fr hi = .int kk j := by rfl) (hmx : ev n fr mx = .int kk' j' := by rfl) (hj : j = (l : Int) := by rfl) (hj' : j' = (l : Int) := by rfl) (hl : l ≤ cap := by omega) :
    LS P q ops f R k (⟨some d, .slice t x none (some hi) (some mx), ty, pos, aft, none⟩ :: rest) n fr w0 M σ K := by
  refine slc 0 l l ?_ hx (fun w => by subst hj; subst hj'; simp [Instr.sliceBounds, hhi, hmx, run_sliceBound, hl])
  have e : (a.map (·.add (0 * s))) = a := by cases a <;> simp [Addr.add]
  simp only [e, Nat.sub_zero, ite_self]; exact h
theorem RS.freezeD {α : Type} {ri : Rep α} {N e : Nat} {l : List α} {put : HP → List HP} (v : Value) (h : ∀ σ', PH.le σ σ' → RepL (fromN N σ') v l → RS P f R k n fr w0 (fun _ => False) σ' K') (hN : N ≤ w0.heap.size := by first | exact Nat.le_refl _ | exact Nat.zero_le _ | assumption) (hl : l.length ≤ 140737488355328 := by omega) (hf : FindD v K α ri N e l put K' := by infer_instance) :
    RS P f R k n fr w0 (fun _ => False) σ K :=
  ⟨fun w hw => by
    obtain ⟨cs, hc, hw'⟩ := hw.openD hf
    obtain ⟨a, cap, σ', rfl, h2, h3, h4, h5, h6, h7⟩ := hw'.freezeRow (hf := FindR.head)
    refine (h σ' h3 ⟨hl, a, cap, rfl, h2, fun hn => ?_⟩).out w h4
    rcases h7 with ⟨h8, _⟩ | ⟨b, rfl, g1, _, g2, g3⟩
    · exact absurd (List.eq_nil_of_length_eq_zero h8) hn
    · refine ⟨b, 0, rfl, (hc.mono (fromN_up h3)).rowAt fun j hj => ?_⟩
      rw [hc.len] at hj
      have hb : ¬ b < w0.heap.size := fun h => g1 h
      rw [Nat.zero_add, ← g3 j hj]
      have : fromN N σ' b = σ' b := by simp only [fromN]; rw [if_pos (by omega)]
      simp only [PH.cell, this]⟩
end
section
variable {P : Program} {f : FuncId} {R : Ending → World → Prop} {k : List Item} {n : Nat} {fr : Nat → Value} {w0 : World} {M : Nat → Prop} {σ : PH} {K0 : List HP}
variable {H : HS} {O : List (Nat × Obj)} {Kb : List HP} {E : List Nat} {tags : List Tag} {rest : List Oper} {d : Nat} {ty : TypeId} {pos : String} {aft : Array Edge} {x y z : Operand} {t t' : TypeId}
variable {α : Type} {ri : Rep α} {N e : Nat} {l l' : List α}
theorem D.ldSf {b off : Nat} {v : Value} {Kf : Us → List HP} {sg : Bool} [ht : TOne P t] (hc : σ.cell b off = some v) (h : LD P f R k n w0 M σ Kb rest tags ⟨upd fr d v, H, O, Kf, E, sg⟩) (hx : ∀ us, ev n (fill fr H us) x = .pointer (some ⟨b, off, none⟩) := by intro _; rfl) :
    LD P f R k n w0 M σ Kb (⟨some d, .load t x, ty, pos, aft, none⟩ :: rest) (.free :: tags) ⟨fr, H, O, Kf, E, sg⟩ :=
  D.freeI h fun us w hle => by
    have hc' : w.cell? ⟨b, off, none⟩ = some v := by rw [← PH.cell_world]; exact PH.cell_mono hle hc
    have := run_loadVar1 (P := P) (w := w) (b := b) ht.agg off hc'
    simp [execOp, hx us, Instr.loadAt, Instr.sureAddr, this]
theorem D.ldSAf {vs : List Value} {b off s : Nat} {Kf : Us → List HP} {sg : Bool} [ht : TAgg P t] [hs : TSz P t s] (hl : vs.length = s) (hc : ∀ j, j < s → σ.cell b (off + j) = vs[j]?) (h : LD P f R k n w0 M σ Kb rest tags ⟨upd fr d (.agg vs.toArray), H, O, Kf, E, sg⟩) (hx : ∀ us, ev n (fill fr H us) x = .pointer (some ⟨b, off, none⟩) := by intro _; rfl) :
    LD P f R k n w0 M σ Kb (⟨some d, .load t x, ty, pos, aft, none⟩ :: rest) (.free :: tags) ⟨fr, H, O, Kf, E, sg⟩ :=
  D.freeI h fun us w hle => by
    have := run_loadVarA (P := P) (w := w) (b := b) ht.agg hs.eq off hl (fun j hj => by
      have h1 := hc j hj
      rw [List.getElem?_eq_getElem (by omega)] at h1 ⊢
      rw [← PH.cell_world]; exact PH.cell_mono hle h1)
    simp [execOp, hx us, Instr.loadAt, Instr.sureAddr, this]
theorem D.lit0 {e s : Nat} {zs : List Value} [ht : TSlice P t e] [hs : TSz P e s] [hz : TZero P e zs] {Kf : Us → List HP}
    (h : LD P f R k n w0 M σ Kb rest tags ⟨fr, (d, fun v _ => ∃ a, v = .slice a 0 0) :: H, O, Kf, E, false⟩) :
    LD P f R k n w0 M σ Kb (⟨some d, .buildSlice t 0 #[], ty, pos, aft, none⟩ :: rest) (.ex :: tags) ⟨fr, H, O, Kf, E, false⟩ :=
  D.bldS (s := s) (zs := zs) (vs := fun _ => []) (fun v _ => ∃ a, v = .slice a 0 0) (fun _ _ _ h _ => h) h (fun _ _ _ _ => ⟨[], rfl, fun b _ _ _ _ => ⟨_, rfl⟩⟩) (fun _ => rfl) (fun _ => rfl) (by simp)
theorem D.app0 {s by_ : Nat} {zs : List Value} {vy : Us → Value} (sl : Nat) (N : Nat) (l' : List α) [ht : TSlice P t e] [hs : TSz P e s] [hby : TBytes P e by_] [hz : TZero P e zs]
    (h : LD P f R k n w0 M σ Kb rest tags ⟨fr, (d, fun _ _ => True) :: H, O, fun us => rowD N e (us d) l' :: K0, d :: ((Stg.mk fr H O (fun _ => K0) E false).seen ⟨some d, .call ⟨.builtin .append, #[x, y], #[t, t']⟩, ty, pos, aft, none⟩ ++ E), false⟩)
    (hsrc : ∀ us σ', PH.le σ σ' → Facts H (readsTmp ⟨some d, .call ⟨.builtin .append, #[x, y], #[t, t']⟩, ty, pos, aft, none⟩) us σ' → (∃ a, us sl = .slice a 0 0) ∧ ∃ τ, RepL τ (vy us) l' ∧ PH.le τ (fromN N σ'))
    (hx : ∀ us, ev n (fill fr H us) x = us sl := by intro _; rfl) (hy : ∀ us, ev n (fill fr H us) y = vy us := by intro _; rfl)
    (hL : Less K0 Kb := by infer_instance) (hk : ∃ e', P.underlying t' = some (.slice e') := by exact ⟨_, TSlice.eq⟩)
    (hss : s = Rep.sz α := by rfl) (hzs : Nat.beq zs.length s = true := by rfl) (hb : l'.length * by_ ≤ 140737488355328 := by first | omega | (simp only [List.length_cons, List.length_nil]; omega)) (hm : l'.length ≤ 140737488355328 := by first | omega | (simp only [List.length_cons, List.length_nil]; omega)) :
    LD P f R k n w0 M σ Kb (⟨some d, .call ⟨.builtin .append, #[x, y], #[t, t']⟩, ty, pos, aft, none⟩ :: rest) (.eff :: tags) ⟨fr, H, O, fun _ => K0, E, false⟩ := by
  refine D.eff (fun _ _ => True) (fun us => rowD N e (us d) l' :: K0) _ (fun _ _ _ _ _ => trivial) (fun us => ⟨fun h => hL.get h.tail⟩) h (fun us σ' w X hle hfs hw => ?_) (fun us => ?_)
  · obtain ⟨⟨a, ea⟩, τ, h1, h2⟩ := hsrc us σ' hle hfs
    obtain ⟨e', hk⟩ := hk
    obtain ⟨news, g1, g2⟩ := srcD (t' := t') hw hk h1 (PH.le_trans h2 (fromN_le _ _))
    have hw0 : Sat w0 M σ' (rowD N e (.slice a 0 0) ([] : List α) :: X :: K0) w := hw.weak fun F hF => ⟨fun _ => False, ⟨[], rfl, by simp, rfl, a, 0, rfl, by simp, by simp, .inl ⟨rfl, rfl⟩⟩, fun _ h => h.elim, hF.mono fun b hb => ⟨hb, fun h => h⟩⟩
    obtain ⟨v', w', h3, h4⟩ := appRunD (t := t) (t' := t') (ty := ty) (v := .slice a 0 0) (FindD.head) hw0 ⟨news, by subst hss; exact g1, g2.mono h2⟩ hss hzs (by simpa using hb) (by simpa using hm)
    refine .inl ⟨v', w', by simp [execOp, resolve, invoke, builtin, hx us, hy us, ea, h3], σ', PH.le_refl _, ?_, trivial⟩
    have h5 := h4.weak fun _ => SepIn.swap
    simpa [upd_eq] using h5
  · show rowD N e (resE _ us d) l' :: K0 = _
    rw [resE_mem (by simp)]
theorem D.appU {s by_ : Nat} {zs : List Value} {vy : Us → Value} (sl : Nat) (l' : List α) [ht : TSlice P t e] [hs : TSz P e s] [hby : TBytes P e by_] [hz : TZero P e zs]
    (h : LD P f R k n w0 M σ Kb rest tags ⟨fr, (d, fun _ _ => True) :: H, O, fun us => rowD N e (us d) (l ++ l') :: K0, d :: ((Stg.mk fr H O (fun us => rowD N e (us sl) l :: K0) E false).seen ⟨some d, .call ⟨.builtin .append, #[x, y], #[t, t']⟩, ty, pos, aft, none⟩ ++ E), false⟩)
    (hsrc : ∀ us σ', PH.le σ σ' → Facts H (readsTmp ⟨some d, .call ⟨.builtin .append, #[x, y], #[t, t']⟩, ty, pos, aft, none⟩) us σ' → ∃ τ, RepL τ (vy us) l' ∧ PH.le τ (fromN N σ'))
    (hx : ∀ us, ev n (fill fr H us) x = us sl := by intro _; rfl) (hy : ∀ us, ev n (fill fr H us) y = vy us := by intro _; rfl)
    (hL : Less K0 Kb := by infer_instance) (hk : ∃ e', P.underlying t' = some (.slice e') := by exact ⟨_, TSlice.eq⟩)
    (hss : s = Rep.sz α := by rfl) (hzs : Nat.beq zs.length s = true := by rfl) (hb : (l.length + l'.length) * by_ ≤ 140737488355328 := by first | omega | (simp only [List.length_cons, List.length_nil]; omega)) (hm : l.length + l'.length ≤ 140737488355328 := by first | omega | (simp only [List.length_cons, List.length_nil]; omega)) :
    LD P f R k n w0 M σ Kb (⟨some d, .call ⟨.builtin .append, #[x, y], #[t, t']⟩, ty, pos, aft, none⟩ :: rest) (.eff :: tags) ⟨fr, H, O, fun us => rowD N e (us sl) l :: K0, E, false⟩ := by
  refine D.eff (fun _ _ => True) (fun us => rowD N e (us d) (l ++ l') :: K0) _ (fun _ _ _ _ _ => trivial) (fun us => ⟨fun h => hL.get h.tail⟩) h (fun us σ' w X hle hfs hw => ?_) (fun us => ?_)
  · obtain ⟨τ, h1, h2⟩ := hsrc us σ' hle hfs
    obtain ⟨e', hk⟩ := hk
    obtain ⟨news, g1, g2⟩ := srcD (t' := t') hw hk h1 (PH.le_trans h2 (fromN_le _ _))
    obtain ⟨v', w', h3, h4⟩ := appRunD (t := t) (t' := t') (ty := ty) (v := us sl) (FindD.tail (i := FindD.head)) hw ⟨news, by subst hss; exact g1, g2.mono h2⟩ hss hzs hb hm
    refine .inl ⟨v', w', by simp [execOp, resolve, invoke, builtin, hx us, hy us, h3], σ', PH.le_refl _, ?_, trivial⟩
    simpa [upd_eq] using h4
  · show rowD N e (resE _ us d) (l ++ l') :: K0 = _
    rw [resE_mem (by simp)]
theorem D.slcLo (l : Nat) {a : Option Addr} {len cap s : Nat} {e : TypeId} {lo : Operand} {kk : IntKind} {j : Int} {Kf : Us → List HP} {sg : Bool} [ht : TSlice P t e] [hs : TSz P e s]
    (h : LD P f R k n w0 M σ Kb rest tags ⟨upd fr d (.slice (if cap = l then a else a.map (·.add (l * s))) (len - l) (cap - l)), H, O, Kf, E, sg⟩) (hx : ∀ us, ev n (fill fr H us) x = .slice a len cap := by intro _; rfl) (hlo : ∀ us, ev n (fill fr H us) lo = .int kk j := by intro _; rfl) (hj : j = (l : Int) := by omega) (hl : l ≤ len := by omega) :
    LD P f R k n w0 M σ Kb (⟨some d, .slice t x (some lo) none none, ty, pos, aft, none⟩ :: rest) (.free :: tags) ⟨fr, H, O, Kf, E, sg⟩ :=
  D.slc l len cap h hx (fun us w => by subst hj; simp [Instr.sliceBounds, hlo us, run_sliceBound, hl])
theorem D.mvD (sl : Nat) (h : LD P f R k n w0 M σ Kb rest tags ⟨fr, (d, fun _ _ => True) :: H, O, fun us => rowD N e (us d) l :: K0, d :: ((Stg.mk fr H O (fun us => rowD N e (us sl) l :: K0) E false).seen ⟨some d, .assign x, ty, pos, aft, none⟩ ++ E), false⟩)
    (hx : ∀ us, ev n (fill fr H us) x = us sl := by intro _; rfl) (hL : Less K0 Kb := by infer_instance) :
    LD P f R k n w0 M σ Kb (⟨some d, .assign x, ty, pos, aft, none⟩ :: rest) (.eff :: tags) ⟨fr, H, O, fun us => rowD N e (us sl) l :: K0, E, false⟩ := by
  refine D.eff (fun _ _ => True) (fun us => rowD N e (us d) l :: K0) _ (fun _ _ _ _ _ => trivial) (fun us => ⟨fun h => hL.get h.tail⟩) h (fun us σ' w X hle hfs hw => ?_) (fun us => ?_)
  · exact .inl ⟨us sl, w, by simp [execOp, hx us], σ', PH.le_refl _, by simpa [upd_eq] using hw, trivial⟩
  · show rowD N e (resE _ us d) l :: K0 = _
    rw [resE_mem (by simp)]
theorem D.stO2 {s s2 sz : Nat} {cs cs2 : List Value} {T T2 : TypeId} {Kf : Us → List HP} {sg : Bool} (ncs : List Value) [hs : TSz P t sz] (h : LD P f R k n w0 M σ Kb rest tags ⟨fr, H, [], fun us => ownHP (us s2) (.cells cs2.toArray T2 (0, 0)) :: ownHP (us s) (.cells ncs.toArray T (0, 0)) :: Kf us, [s2, s] ++ ((Stg.mk fr H [(s2, .cells cs2.toArray T2 (0, 0)), (s, .cells cs.toArray T (0, 0))] Kf E sg).seen ⟨none, .store t (.tmp s) y, ty, pos, aft, none⟩ ++ E), true⟩)
    (hy : ∀ us, ev n (fill fr H us) y = .agg ncs.toArray := by intro _; rfl) (hn : Nat.beq ncs.length sz = true := by rfl) (h1 : ncs.all (·.oneCell') = true := by rfl)
    (hx : ∀ us, ev n (fill fr H us) (.tmp s) = us s := by intro _; rfl) (hl : Nat.beq cs.length sz = true := by rfl)
    (hE : ∀ us, (fun us => ownHP (us s2) (.cells cs2.toArray T2 (0, 0)) :: ownHP (us s) (.cells ncs.toArray T (0, 0)) :: Kf us) (resE ([s2, s] ++ ((Stg.mk fr H [(s2, .cells cs2.toArray T2 (0, 0)), (s, .cells cs.toArray T (0, 0))] Kf E sg).seen ⟨none, .store t (.tmp s) y, ty, pos, aft, none⟩ ++ E)) us) = (fun us => ownHP (us s2) (.cells cs2.toArray T2 (0, 0)) :: ownHP (us s) (.cells ncs.toArray T (0, 0)) :: Kf us) us := by intro _; rfl) :
    LD P f R k n w0 M σ Kb (⟨none, .store t (.tmp s) y, ty, pos, aft, none⟩ :: rest) (.st :: tags) ⟨fr, H, [(s2, .cells cs2.toArray T2 (0, 0)), (s, .cells cs.toArray T (0, 0))], Kf, E, sg⟩ :=
  D.st (fun us => ownHP (us s2) (.cells cs2.toArray T2 (0, 0)) :: ownHP (us s) (.cells ncs.toArray T (0, 0)) :: Kf us) _ h (fun us σ' w hle hf hw => by
    have hw : Sat w0 M σ' (ownHP (us s2) (.cells cs2.toArray T2 (0, 0)) :: ownHP (us s) (.cells cs.toArray T (0, 0)) :: Kf us) w := hw
    have hw2 := hw.weak fun _ => SepIn.swap
    obtain ⟨F1, ⟨b, g1, g2, g3⟩, g4, g5⟩ := hw2.sep
    have hl' := Nat.eq_of_beq_eq_true hl
    have hn' := Nat.eq_of_beq_eq_true hn
    have hc : cellsL (.agg ncs.toArray) = ncs := rfl
    have hrun := run_storeVarL (P := P) (t := t) (v := .agg ncs.toArray) g3 hs.eq 0 (by rw [hc]; exact hn') (by omega) (by rw [hc]; exact h1)
    have e0 : setAt cs 0 ncs = ncs := by simpa using setAt_mid [] cs [] ncs (by omega)
    rw [hc, e0] at hrun
    refine ⟨{ w with heap := w.heap.setIfInBounds b (.cells ncs.toArray T (0, 0)) }, by simp [execOp, hx us, hy us, g1, Instr.storeAt, Instr.sureAddr, hrun], Sat.weak (K := ownHP (us s) (.cells ncs.toArray T (0, 0)) :: ownHP (us s2) (.cells cs2.toArray T2 (0, 0)) :: Kf us) ?_ fun _ => SepIn.swap⟩
    refine Sat.putG (A := ownHP (us s) (.cells cs.toArray T (0, 0))) hw2 fun F ⟨b', k1, k2, k3⟩ hF => ?_
    rw [g1] at k1; injection k1 with k1; injection k1 with k1; injection k1 with k1
    subst k1
    exact ⟨k2, b, g1, k2, by simp⟩) hE
theorem D.stK {s sz : Nat} {cs : List Value} {T : TypeId} {Kf : Us → List HP} {sg : Bool} (ncs : List Value) [hs : TSz P t sz] (h : LD P f R k n w0 M σ Kb rest tags ⟨fr, H, [], fun us => ownHP (us s) (.cells ncs.toArray T (0, 0)) :: Kf us, (Stg.mk fr H [] (fun us => ownHP (us s) (.cells cs.toArray T (0, 0)) :: Kf us) E sg).seen ⟨none, .store t (.tmp s) y, ty, pos, aft, none⟩ ++ E, true⟩)
    (hy : ∀ us, ev n (fill fr H us) y = .agg ncs.toArray := by intro _; rfl) (hn : Nat.beq ncs.length sz = true := by rfl) (h1 : ncs.all (·.oneCell') = true := by rfl)
    (hx : ∀ us, ev n (fill fr H us) (.tmp s) = us s := by intro _; rfl) (hl : Nat.beq cs.length sz = true := by rfl)
    (hE : ∀ us, (fun us => ownHP (us s) (.cells ncs.toArray T (0, 0)) :: Kf us) (resE (([] : List (Nat × Obj)).map (·.1) ++ ((Stg.mk fr H [] (fun us => ownHP (us s) (.cells cs.toArray T (0, 0)) :: Kf us) E sg).seen ⟨none, .store t (.tmp s) y, ty, pos, aft, none⟩ ++ E)) us) = (fun us => ownHP (us s) (.cells ncs.toArray T (0, 0)) :: Kf us) us := by intro _; rfl) :
    LD P f R k n w0 M σ Kb (⟨none, .store t (.tmp s) y, ty, pos, aft, none⟩ :: rest) (.st :: tags) ⟨fr, H, [], fun us => ownHP (us s) (.cells cs.toArray T (0, 0)) :: Kf us, E, sg⟩ :=
  D.st (fun us => ownHP (us s) (.cells ncs.toArray T (0, 0)) :: Kf us) _ h (fun us σ' w hle hf hw => by
    have hw : Sat w0 M σ' (ownHP (us s) (.cells cs.toArray T (0, 0)) :: Kf us) w := hw
    obtain ⟨F1, ⟨b, g1, g2, g3⟩, g4, g5⟩ := hw.sep
    have hl' := Nat.eq_of_beq_eq_true hl
    have hn' := Nat.eq_of_beq_eq_true hn
    have hc : cellsL (.agg ncs.toArray) = ncs := rfl
    have hrun := run_storeVarL (P := P) (t := t) (v := .agg ncs.toArray) g3 hs.eq 0 (by rw [hc]; exact hn') (by omega) (by rw [hc]; exact h1)
    have e0 : setAt cs 0 ncs = ncs := by simpa using setAt_mid [] cs [] ncs (by omega)
    rw [hc, e0] at hrun
    refine ⟨{ w with heap := w.heap.setIfInBounds b (.cells ncs.toArray T (0, 0)) }, by simp [execOp, hx us, hy us, g1, Instr.storeAt, Instr.sureAddr, hrun], ?_⟩
    refine Sat.putG (A := ownHP (us s) (.cells cs.toArray T (0, 0))) hw fun F ⟨b', k1, k2, k3⟩ hF => ?_
    rw [g1] at k1; injection k1 with k1; injection k1 with k1; injection k1 with k1
    subst k1
    exact ⟨k2, b, g1, k2, by simp⟩) hE
end
theorem RepL.recap {α : Type} [Rep α] {σ : PH} {a : Option Addr} {m cap cap' : Nat} {l : List α} (h : RepL σ (.slice a m cap) l) (hc : m ≤ cap') : RepL σ (.slice a m cap') l := by
  have hm := h.len
  subst hm
  exact ⟨h.1, a, cap', rfl, hc, fun hn => h.addr hn⟩
theorem RepL.take {α : Type} [Rep α] {σ : PH} {a : Option Addr} {m cap : Nat} {l : List α} (h : RepL σ (.slice a m cap) l) (k : Nat) (hk : k ≤ l.length) : RepL σ (.slice a k cap) (l.take k) := by
  have hm := h.len
  have hc := h.cap
  have hl : (l.take k).length = k := by rw [List.length_take]; omega
  refine ⟨by have := h.1; omega, a, cap, by rw [hl], by omega, fun hn => ?_⟩
  obtain ⟨b, o, e, r⟩ := h.addr (fun h0 => hn (by rw [h0]; simp))
  refine ⟨b, o, e, fun i hi => ?_⟩
  obtain ⟨vs, h1, h2⟩ := r i (by omega)
  exact ⟨vs, h1, by rw [List.getElem_take]; exact h2⟩
theorem RepL.drop {α : Type} [Rep α] {σ : PH} {a : Option Addr} {m cap : Nat} {l : List α} (h : RepL σ (.slice a m cap) l) (k : Nat) (hk : k ≤ l.length) : RepL σ (.slice (if cap = k then a else a.map (·.add (k * Rep.sz α))) (m - k) (cap - k)) (l.drop k) := by
  have hm := h.len
  have hc := h.cap
  have hl : (l.drop k).length = m - k := by rw [List.length_drop]; omega
  refine ⟨by have := h.1; omega, _, cap - k, by rw [hl], by omega, fun hn => ?_⟩
  have hk' : k < l.length := Nat.lt_of_not_le fun hle => hn (List.drop_eq_nil_of_le hle)
  rw [if_neg (by omega)]
  obtain ⟨b, o, rfl, r⟩ := h.addr (fun h0 => hn (by rw [h0]; simp))
  refine ⟨b, o + k * Rep.sz α, by simp [Addr.add], fun i hi => ?_⟩
  obtain ⟨vs, h1, h2⟩ := r (k + i) (by omega)
  refine ⟨vs, fun j hj => ?_, by rw [List.getElem_drop]; exact h2⟩
  rw [← h1 j hj]; congr 1; rw [Nat.add_mul]; omega
theorem Sat.since_le {w0 w : World} {M : Nat → Prop} {σ : PH} {K : List HP} (hw : Sat w0 M σ K w) : PH.le (fromN w0.heap.size σ) (since w0 w) := fun b o hb => by
  have h1 := hw.imm b o (fromN_le _ _ b o hb)
  simp only [fromN] at hb
  split at hb
  · rename_i hge; simp only [since]; rw [if_pos hge]; exact h1
  · cases hb
theorem CellsL.ofInts (σ : PH) : ∀ {zs : List Int}, (∀ z ∈ zs, I64 z) → CellsL σ (zs.map (Value.int .i64)) zs := by
  intro zs
  induction zs with
  | nil => intro _; rfl
  | cons z zs ih => intro h; exact ⟨[.int .i64 z], zs.map (Value.int .i64), rfl, ⟨rfl, h z (by simp)⟩, ih fun y hy => h y (by simp [hy])⟩
section
variable {w0 w : World} {M : Nat → Prop} {σ : PH} {K K' : List HP}
theorem sort_c {v : Value} {e m : Nat} {zs : List Int} {put : HP → List HP} (hw : Sat w0 M σ K w) (hm : m = zs.length) (hz : zs.length < 4611686018427387904) (hf : FindR v K e 1 m (zs.map (Value.int .i64)) put K' := by infer_instance) :
    Calls Tryz.prog 85 #[v] w fun r w' => r = .returned (.tuple #[]) ∧ Sat w0 M σ (put (rowH e 1 v m ((zs.mergeSort fun x y => decide (x ≤ y)).map (Value.int .i64)))) w' := by
  subst hm
  have hS := hw.weak fun _ => hf.get
  obtain ⟨F1, ⟨h1, h1c, a, cap, rfl, h2, h3, h4⟩, h5, h6⟩ := hS.sep
  rcases h4 with ⟨h7, h8⟩ | ⟨b, c0, rfl, g1, g2, g3, g4⟩
  · have hn : zs = [] := List.eq_nil_of_length_eq_zero h7
    subst hn; subst h8
    refine (Tryz.slices_Sort_int_none a 0 w).mono fun r w' ⟨h9, h10⟩ => ⟨h9, ?_⟩
    subst h10
    simpa using hS.weak fun _ => hf.set
  · rw [Nat.mul_one] at g3 g4
    have hb : b < w.heap.size := (h5 b g1).1
    refine (Tryz.slices_Sort_int b 0 cap zs w (Sat.holds g2 g4) hb hz).mono ?_
    rintro r w' ⟨h9, q, os, rfl⟩
    refine ⟨h9, Sat.weak (K := _ :: K') ?_ fun _ => hf.set⟩
    have hT : Sat w0 M σ (blk b (.cells c0.toArray e (0, 0)) :: K') w := ⟨hS.os, hS.tape, hS.output, hS.size, hS.keep, hS.imm, F1, ⟨g1, g2⟩, h5, h6⟩
    have hl : (zs.mergeSort fun x y => decide (x ≤ y)).length = zs.length := by simp
    have htp := take_put c0.toArray (zs.mergeSort fun x y => decide (x ≤ y)) [] (by rw [hl]; simp; omega)
    rw [List.append_nil, hl] at htp
    refine (hT.turned (w' := Sort.grow (putRow (Value.int .i64) (Sort.ahead w q) b 0 (zs.mergeSort fun x y => decide (x ≤ y)).toArray) os) rfl rfl rfl (by simp [Sort.grow, Sort.ahead]) (heap_put_row _ g2) fun x hx hne => heap_put_row_ne _ hx hne).one fun F ⟨k1, k2⟩ => ?_
    refine ⟨by simp, by rw [List.all_eq_true]; intro x hx; obtain ⟨z, _, rfl⟩ := List.mem_map.1 hx; rfl, _, _, rfl, h2, h3, .inr ⟨b, (putCells (Value.int .i64) 0 (zs.mergeSort fun x y => decide (x ≤ y)).toArray c0.toArray).toList, rfl, k1, by rw [Array.toArray_toList]; exact k2, by simp [putCells]; omega, by rw [Nat.mul_one]; exact htp⟩⟩
theorem compact_c {v : Value} {e m : Nat} {zs : List Int} {put : HP → List HP} (hw : Sat w0 M σ K w) (hm : m = zs.length) (hcl : (Lib.compact zs).length ≤ zs.length) (hf : FindR v K e 1 m (zs.map (Value.int .i64)) put K' := by infer_instance) :
    Calls Tryz.prog 86 #[v] w fun r w' => ∃ v', r = .returned v' ∧ Sat w0 M σ (put (rowH e 1 v' (Lib.compact zs).length ((Lib.compact zs).map (Value.int .i64)))) w' ∧ True := by
  subst hm
  have hS := hw.weak fun _ => hf.get
  obtain ⟨F1, ⟨h1, h1c, a, cap, rfl, h2, h3, h4⟩, h5, h6⟩ := hS.sep
  rcases h4 with ⟨h7, h8⟩ | ⟨b, c0, rfl, g1, g2, g3, g4⟩
  · have hn : zs = [] := List.eq_nil_of_length_eq_zero h7
    subst hn; subst h8
    have e0 : Lib.compact ([] : List Int) = [] := List.eq_nil_of_length_eq_zero (by simpa using hcl)
    rw [e0]
    refine (Tryz.slices_Compact_int_empty a 0 w).mono fun r w' ⟨h9, h10⟩ => ⟨_, h9, ?_, trivial⟩
    subst h10
    simpa using hS.weak fun _ => hf.set
  · rw [Nat.mul_one] at g3 g4
    have hC := Tryz.slices_Compact_int b 0 cap zs w (Sat.holds g2 g4) (by omega) h2
    obtain ⟨cz, hcz⟩ : ∃ cz, cz = Lib.compact zs := ⟨_, rfl⟩
    rw [← hcz] at hC hcl ⊢
    obtain ⟨rest, hrest⟩ : ∃ r : List Int, r = List.replicate (zs.length - cz.length) 0 := ⟨_, rfl⟩
    rw [← hrest] at hC
    clear hcz hrest
    refine hC.mono ?_
    rintro r w' ⟨h9, q, rfl⟩
    refine ⟨_, h9, Sat.weak (K := rowH e 1 (.slice (some ⟨b, 0, none⟩) cz.length cap) cz.length (cz.map (Value.int .i64)) :: K') ?_ fun _ => hf.set, trivial⟩
    have hT : Sat w0 M σ (blk b (.cells c0.toArray e (0, 0)) :: K') w := ⟨hS.os, hS.tape, hS.output, hS.size, hS.keep, hS.imm, F1, ⟨g1, g2⟩, h5, h6⟩
    have htp := take_put c0.toArray cz rest (by simp; omega)
    rw [show putRow (Value.int .i64) (Sort.ahead w q) b 0 (cz ++ rest).toArray = Sort.grow (putRow (Value.int .i64) (Sort.ahead w q) b 0 (cz ++ rest).toArray) #[] from (Sort.grow_empty _).symm]
    have hT2 : Sat w0 M σ (blk b (.cells (putCells (Value.int .i64) 0 (cz ++ rest).toArray c0.toArray) e (0, 0)) :: K') (Sort.grow (putRow (Value.int .i64) (Sort.ahead w q) b 0 (cz ++ rest).toArray) #[]) :=
      hT.turned rfl rfl rfl (by simp [Sort.grow, Sort.ahead]) (heap_put_row _ g2) fun x hx hne => heap_put_row_ne _ hx hne
    refine hT2.one fun F ⟨k1, k2⟩ => ⟨by simp, by rw [List.all_eq_true]; intro x hx; obtain ⟨z, _, rfl⟩ := List.mem_map.1 hx; rfl, _, _, rfl, by omega, h3, .inr ⟨b, (putCells (Value.int .i64) 0 (cz ++ rest).toArray c0.toArray).toList, rfl, k1, by rw [Array.toArray_toList]; exact k2, by simp [putCells]; omega, by rw [Nat.mul_one]; exact htp⟩⟩
end
def Rising (l : List Int) : Prop := l.Pairwise (· < ·)
theorem Rising.ext : ∀ {l l' : List Int}, Rising l → Rising l' → (∀ x, x ∈ l ↔ x ∈ l') → l = l' := by
  intro l
  induction l with
  | nil => intro l' _ _ h; cases l' with
    | nil => rfl
    | cons y l' => exact absurd ((h y).2 (by simp)) (by simp)
  | cons x l ih =>
    intro l' h1 h2 h
    cases l' with
    | nil => exact absurd ((h x).1 (by simp)) (by simp)
    | cons y l' =>
      obtain ⟨a1, a2⟩ := List.pairwise_cons.1 h1
      obtain ⟨b1, b2⟩ := List.pairwise_cons.1 h2
      have hxy : x = y := by
        rcases List.mem_cons.1 ((h x).1 (by simp)) with e | e
        · exact e
        · rcases List.mem_cons.1 ((h y).2 (by simp)) with e' | e'
          · exact e'.symm
          · have := b1 x e; have := a1 y e'; omega
      subst hxy
      congr 1
      refine ih a2 b2 fun z => ?_
      constructor
      · intro hz
        rcases List.mem_cons.1 ((h z).1 (by simp [hz])) with e | e
        · subst e; have := a1 z hz; omega
        · exact e
      · intro hz
        rcases List.mem_cons.1 ((h z).2 (by simp [hz])) with e | e
        · subst e; have := b1 z hz; omega
        · exact e
end Go.JW
namespace Go.JW

theorem rowD_str {N N' : Nat} {e : TypeId} {v : Value} {l : List ByteArray} {g g' : VH} {F : Nat → Prop} (h : (rowD N e v l).h g F) (hc : ∀ b, F b → g'.cur b = g.cur b) : (rowD N' e v l).h g' F := by
  obtain ⟨cs, h1, h2⟩ := h
  have key : ∀ {l : List ByteArray} {cs : List Value} {σ σ' : PH}, CellsL σ cs l → CellsL σ' cs l := by
    intro l
    induction l with
    | nil => intro cs σ σ' h; exact h
    | cons x l ih => rintro cs σ σ' ⟨c1, c2, rfl, h1, h2⟩; exact ⟨c1, c2, rfl, h1, ih h2⟩
  refine ⟨cs, key h1, ?_⟩
  obtain ⟨a1, a2, a, cap, a3, a4, a5, a6⟩ := h2
  exact ⟨a1, a2, a, cap, a3, a4, a5, a6.elim .inl fun ⟨b, c0, k1, k2, k3, k4⟩ => .inr ⟨b, c0, k1, k2, by rw [hc b k2]; exact k3, k4⟩⟩
theorem CellsL.str {σ σ' : PH} : ∀ {l : List ByteArray} {cs : List Value}, CellsL σ cs l → CellsL σ' cs l := by
  intro l
  induction l with
  | nil => intro cs h; exact h
  | cons x l ih => rintro cs ⟨c1, c2, rfl, h1, h2⟩; exact ⟨c1, c2, rfl, h1, ih h2⟩
theorem rowD_since {w w' : World} {τ : PH} {N e : Nat} {v : Value} {α : Type} [Rep α] {l : List α} {F : Nat → Prop} (h : (rowD N e v l).h ⟨τ, hp w'⟩ F) (hF : ∀ b, F b → w.heap.size ≤ b) (ht : PH.le τ (since w w')) (hl : l.length ≤ 140737488355328) : RepL (since w w') v l := by
  obtain ⟨cs, hc, h1, _, a, cap, rfl, h2, _, h4⟩ := h
  refine ⟨hl, a, cap, rfl, h2, fun hn => ?_⟩
  rcases h4 with ⟨h8, _⟩ | ⟨b, c0, rfl, g1, g2, g3, g4⟩
  · exact absurd (List.eq_nil_of_length_eq_zero h8) hn
  · refine ⟨b, 0, rfl, (hc.mono (PH.le_trans (fromN_le _ _) ht)).rowAt fun j hj => ?_⟩
    rw [hc.len] at hj
    have g2' : w'.heap[b]? = _ := g2
    have : (since w w').cell b (0 + j) = c0[j]? := by simp only [PH.cell, since, if_pos (hF b g1), g2', Nat.zero_add]; simp
    rw [this, ← g4, List.getElem?_take, if_pos hj]
theorem Post.since_le {τ : PH} {w w' : World} {Ko : List HP} (h : Post τ Ko w w') : PH.le τ (since w w') := fun b o hb => by
  have h1 := h.imm b o hb
  have : ¬ b < w.heap.size := fun hlt => by rw [h.new b hlt] at hb; cases hb
  simp only [since]; rw [if_pos (by omega)]; exact h1
section
variable {P : Program} {f : FuncId} {R : Ending → World → Prop} {k : List Item} {n : Nat} {fr : Nat → Value} {w0 : World} {M : Nat → Prop} {σ : PH} {Kf : Us → List HP}
variable {H : HS} {O : List (Nat × Obj)} {Kb : List HP} {E : List Nat} {tags : List Tag} {rest : List Oper} {d : Nat} {ty : TypeId} {pos : String} {aft : Array Edge} {x y z : Operand} {t t' : TypeId}
variable {α : Type} {ri : Rep α} {e : Nat}
theorem D.callD {g : FuncId} {xs : Array Operand} {ts : Array TypeId} {args : Us → List Value} (N : Nat) (e : TypeId) (l : List α) [i : Fun P g]
    (h : LD P f R k n w0 M σ Kb rest tags ⟨fr, (d, fun _ _ => True) :: H, O, fun us => rowD N e (us d) l :: Kf us, d :: ((Stg.mk fr H O Kf E false).seen ⟨some d, .call ⟨.value (.func g), xs, ts⟩, ty, pos, aft, none⟩ ++ E), false⟩)
    (hc : ∀ us σ' w, PH.le σ σ' → Facts H (readsTmp ⟨some d, .call ⟨.value (.func g), xs, ts⟩, ty, pos, aft, none⟩) us σ' → Sat w0 M σ' Kb w → Calls P g (args us).toArray w fun r w' => ∃ v τ, r = .returned v ∧ Post τ [rowD N e v l] w w' ∧ True)
    (hx : ∀ us, xs.toList.map (ev n (fill fr H us)) = args us := by intro _; rfl)
    (hL : ∀ us, Less (Kf us) Kb := by intro _; infer_instance) (hKd : ∀ us u, Kf (upd us d u) = Kf us := by intro _ _; rfl)
    (hE : ∀ us, (fun us => rowD N e (us d) l :: Kf us) (resE (d :: ((Stg.mk fr H O Kf E false).seen ⟨some d, .call ⟨.value (.func g), xs, ts⟩, ty, pos, aft, none⟩ ++ E)) us) = (fun us => rowD N e (us d) l :: Kf us) us := by intro _; rfl) :
    LD P f R k n w0 M σ Kb (⟨some d, .call ⟨.value (.func g), xs, ts⟩, ty, pos, aft, none⟩ :: rest) (.eff :: tags) ⟨fr, H, O, Kf, E, false⟩ := by
  refine D.eff (fun _ _ => True) (fun us => rowD N e (us d) l :: Kf us) _ (fun _ _ _ _ _ => trivial) (fun us => ⟨fun h => (hL us).get h.tail⟩) h (fun us σ' w X hle hfs hw => ?_) hE
  refine .inr ⟨g, _, exec_call i.eq (hx us) w, (hc us σ' w hle hfs (hw.weak fun F h => (hL us).get h.tail)).mono ?_⟩
  rintro r w' ⟨v, τ, rfl, hp, _⟩
  obtain ⟨h1, h2, h3⟩ := hw.join hp
  refine ⟨v, rfl, _, h1, ?_, trivial⟩
  have h4 : Sat w0 M (joinPH w σ' τ) (X :: rowD N e v l :: Kf us) w' := h3.weak fun _ => SepIn.swap
  simpa [upd_eq, hKd] using h4
theorem D.stV (s : Nat) (cs cs' : Us → List Value) {b off sz : Nat} {T : TypeId} {sg : Bool} {put : Us → HP → List HP} {K' : Us → List HP} [hs : TSz P t sz]
    (h : LD P f R k n w0 M σ Kb rest tags ⟨fr, H, [], fun us => put us (blk b (.cells (cs' us).toArray T (0, 0))), (Stg.mk fr H [] Kf E sg).seen ⟨none, .store t x y, ty, pos, aft, none⟩ ++ E, true⟩)
    (hx : ∀ us, ev n (fill fr H us) x = .pointer (some ⟨b, off, none⟩) := by intro _; rfl) (hy : ∀ us, ev n (fill fr H us) y = us s := by intro _; rfl) (hf : ∀ us, FindB b (Kf us) (.cells (cs us).toArray T (0, 0)) (put us) (K' us) := by intro _; infer_instance)
    (hform : ∀ us σ' w, Sat w0 M σ' (Kf us) w → ∃ a m c, us s = .slice a m c := by intro us σ' w hw; exact hw.formE)
    (hsz : sz = 1 := by rfl) (hr : ∀ us, off + 1 ≤ (cs us).length := by intro _; exact Nat.le_of_ble_eq_true rfl) (hc : ∀ us, setAt (cs us) off [us s] = cs' us := by intro _; rfl)
    (hE : ∀ us, (fun us => put us (blk b (.cells (cs' us).toArray T (0, 0)))) (resE (([] : List (Nat × Obj)).map (·.1) ++ ((Stg.mk fr H [] Kf E sg).seen ⟨none, .store t x y, ty, pos, aft, none⟩ ++ E)) us) = put us (blk b (.cells (cs' us).toArray T (0, 0))) := by intro _; rfl) :
    LD P f R k n w0 M σ Kb (⟨none, .store t x y, ty, pos, aft, none⟩ :: rest) (.st :: tags) ⟨fr, H, [], Kf, E, sg⟩ :=
  D.st (fun us => put us (blk b (.cells (cs' us).toArray T (0, 0)))) (fun us => put us (blk b (.cells (cs' us).toArray T (0, 0)))) h (fun us σ' w hle hfs hw => by
    have hw : Sat w0 M σ' (Kf us) w := hw
    obtain ⟨a, m, c, e⟩ := hform us σ' w hw
    have hb := hw.get (i := hf us)
    subst hsz
    have hcl : cellsL (us s) = [us s] := by rw [e]; rfl
    have := run_storeVarL (P := P) (t := t) (v := us s) hb hs.eq off (by rw [hcl]; rfl) (hr us) (by rw [e]; rfl)
    rw [hcl, hc us] at this
    exact ⟨_, by simp [execOp, hx us, hy us, Instr.storeAt, Instr.sureAddr, this], hw.put (i := hf us) _⟩) hE
end
end Go.JW
namespace Go.JW

def glook : List (Nat × Option Bool) → Nat → Option (Option Bool)
  | [], _ => none
  | p :: l, x => bif Nat.beq p.1 x then some p.2 else glook l x
def nthO : List Oper → Nat → Option Oper
  | [], _ => none
  | o :: _, 0 => some o
  | _ :: l, i + 1 => nthO l i
theorem nthO_eq (l : List Oper) (i : Nat) : nthO l i = l[i]? := by
  induction l generalizing i with
  | nil => simp [nthO]
  | cons v l ih => cases i <;> simp [nthO, ih]
def onOff (gl : List (Nat × Option Bool)) (rl : List Oper) (o : Oper) : Option Bool :=
  match o.guard with
  | none => some true
  | some (j, b) => ((nthO rl j).bind (·.dst)).bind fun g => (glook gl g).map fun v => match v with | some c => (b == c) | none => false
def ersO (gl : List (Nat × Option Bool)) (rl : List Oper) (o : Oper) : Oper :=
  match onOff gl rl o with
  | some true => ⟨o.dst, o.op, o.type, o.pos, o.after, none⟩
  | _ => ⟨o.dst, .assign (.const undef), o.type, o.pos, o.after, none⟩
def ers (gl : List (Nat × Option Bool)) (rl : List Oper) : List Oper := rl.map (ersO gl rl)
def gOk (n : Nat) (gl : List (Nat × Option Bool)) (rl : List Oper) : Bool :=
  rl.zipIdx.all fun p =>
    match p.1.guard with
    | none => true
    | some (j, _) => ((nthO rl j).bind (·.dst)).any (fun g => Nat.blt g n && (glook gl g).isSome) && ((closL rl []).getD p.2 0).testBit j && (p.1.dst.isSome)
theorem glook_mem : ∀ {gl : List (Nat × Option Bool)} {x : Nat} {v : Option Bool}, glook gl x = some v → (x, v) ∈ gl := by
  intro gl
  induction gl with
  | nil => intro x v h; cases h
  | cons p gl ih =>
    intro x v h
    simp only [glook] at h
    by_cases e : Nat.beq p.1 x = true
    · simp only [e, cond_true] at h
      have := Nat.eq_of_beq_eq_true e
      injection h with h
      rw [← this, ← h]; simp
    · simp only [e, cond_false] at h
      exact List.mem_cons_of_mem _ (ih h)
theorem edgeTo_ers (gl : List (Nat × Option Bool)) (rl : List Oper) (o : Oper) : edgeTo (ersO gl rl o) = edgeTo o := by
  unfold ersO; split <;> rfl
theorem closL_ers (gl : List (Nat × Option Bool)) (rl : List Oper) : ∀ (l : List Oper) (acc : List Nat), closL (l.map (ersO gl rl)) acc = closL l acc := by
  intro l
  induction l with
  | nil => intro acc; rfl
  | cons o l ih => intro acc; simp only [List.map_cons, closL, edgeTo_ers]; exact ih _
section
variable {P : Program} {f : FuncId} {R : Ending → World → Prop} {k : List Item} {n : Nat} {fr : Nat → Value} {w0 : World} {M : Nat → Prop} {σ : PH} {K Kb : List HP}
theorem RS.drawG {id : Nat} {rl : List Oper} (gl : List (Nat × Option Bool)) (tags : List Tag) (Kb : List HP) (h : LD P f R k n w0 M σ Kb (ers gl rl) (tags ++ gl.map fun p => Tag.g p.1 p.2) ⟨fr, [], [], fun _ => K, [], false⟩)
    (hm : P.follows .mixedOrders = true) (hok : drawOkT (ers gl rl) tags = true) (hg : gOk n gl rl = true) (hL : Less K Kb) : RS P f R (.code (.region id rl.toArray true) :: k) n fr w0 M σ K := by
  obtain ⟨infos, gl', h1, h2, h3, h4⟩ := h.out
  have hle : (ers gl rl).length = rl.length := by simp [ers]
  have hlen : (ers gl rl).length = tags.length := by
    simp only [drawOkT, Bool.and_eq_true, decide_eq_true_eq] at hok; exact hok.2.2
  obtain ⟨ht, hgl⟩ : infos.map Info.tag = tags ∧ gl'.map (fun p => Tag.g p.1 p.2) = gl.map (fun p => Tag.g p.1 p.2) := List.append_inj h1 (by rw [List.length_map]; omega)
  have hgg : gl' = gl := by
    refine List.map_inj_right (f := fun (p : Nat × Option Bool) => Tag.g p.1 p.2) ?_ |>.1 hgl
    rintro ⟨a, b⟩ ⟨c, d⟩ e; injection e with e1 e2; simp only at e1 e2; rw [e1, e2]
  subst hgg
  have hok' : drawOk ((ers gl' rl).zip infos) = true := by unfold drawOk; rw [zip_fst h2, zip_snd h2, ht]; exact hok
  refine RS.drawReal (l := (ers gl' rl).zip infos) (by rw [List.length_zip, h2, Nat.min_self]; exact hle.symm) (fun hp i o inf hio => ?_) hm hok' hL h3
  have hz := List.getElem?_zip_eq_some.1 hio
  have hi : i < rl.length := by have := (List.getElem?_eq_some_iff.1 hz.1).1; omega
  have ho : o = ersO gl' rl rl[i] := by
    have := hz.1
    simp only [ers, List.getElem?_map, List.getElem?_eq_getElem hi, Option.map_some, Option.some.injEq] at this
    exact this.symm
  refine ⟨rl[i], List.getElem?_eq_getElem hi, ?_, fun L g w σ' Ol j I he K' Q' hw => ?_⟩
  · rw [ho]; unfold ersO; split <;> rfl
  generalize hr : rl[i] = r at ho
  have hri : rl.toArray[i]? = some r := by simp [hi, hr]
  unfold wpOp
  rw [hri]
  simp only
  cases hgd : r.guard with
  | none =>
    simp only [Region.wanted, hgd, if_true]
    have : o = r := by
      rw [ho]; unfold ersO onOff; rw [hgd]; cases r; simp at hgd; subst hgd; rfl
    rw [this] at hw
    exact .inl hw
  | some jb =>
    obtain ⟨j', b⟩ := jb
    have hgi := List.all_eq_true.1 hg (r, i) (by rw [List.mem_zipIdx_iff_getElem?]; simp [hi, hr])
    simp only [hgd, Bool.and_eq_true] at hgi
    obtain ⟨⟨hg1, hg2⟩, hg3⟩ := hgi
    cases hj : nthO rl j' with
    | none => rw [hj] at hg1; simp at hg1
    | some oj =>
      cases hd : oj.dst with
      | none => rw [hj] at hg1; simp [hd] at hg1
      | some gs =>
        rw [hj] at hg1
        simp only [Option.bind_some, hd, Option.any_some, Bool.and_eq_true] at hg1
        obtain ⟨hgn, hgk⟩ := hg1
        obtain ⟨v, hv⟩ := Option.isSome_iff_exists.1 hgk
        obtain ⟨hfr, hns⟩ := GEnd.at_ h4 _ (glook_mem hv)
        simp only at hfr hns
        have hj' : rl[j']? = some oj := by rw [← nthO_eq]; exact hj
        have hjl : j' < rl.length := (List.getElem?_eq_some_iff.1 hj').1
        obtain ⟨oj', infj, hjz⟩ := at_some (l := (ers gl' rl).zip infos) (i := j') (by rw [List.length_zip, h2, Nat.min_self, hle]; exact hjl)
        have hojd : oj'.dst = some gs := by
          have := (List.getElem?_zip_eq_some.1 hjz).1
          simp only [ers, List.getElem?_map, hj', Option.map_some, Option.some.injEq] at this
          rw [← this]; unfold ersO; split <;> exact hd
        have hdj : dstOf oj' = gs := by unfold dstOf; rw [hojd]; rfl
        have hclos : ((closL (((ers gl' rl).zip infos).map (·.1)) []).getD i 0).testBit j' = true := by
          rw [zip_fst h2, ers, closL_ers]; exact hg2
        have hLj : L j' = true := clos_listed I.down hio he hclos
        have hvj := I.vals j' oj' infj hLj hjz
        rw [hdj] at hvj
        have hlz : ((ers gl' rl).zip infos).length = (ers gl' rl).length := by rw [List.length_zip, h2, Nat.min_self]
        have hval : g gs = guardV v := by
          cases hx : infj.val? with
          | none =>
            exfalso
            cases hst : infj.isSt with
            | true => have := dst_none hp hjz hst; rw [hojd] at this; cases this
            | false =>
              refine hns ?_
              have hs : infj.hs = true := by cases infj <;> simp [Info.val?] at hx <;> simp [Info.isSt, Info.tag, Tag.isSt] at hst <;> rfl
              have := (slots_iff (l := (ers gl' rl).zip infos) (s0 := ⟨fr, [], [], fun _ => K, [], false⟩) rfl (ers gl' rl).length (by omega) gs).2 ⟨j', oj', infj, by omega, hjz, hs, hdj⟩
              exact this
          | some u =>
            have hu : g gs = u := by cases infj <;> simp [Info.val?] at hx <;> subst hx <;> exact hvj
            have hst : infj.isSt = false := by cases infj <;> simp [Info.val?] at hx <;> rfl
            have hy := fr_yes (l := (ers gl' rl).zip infos) (s0 := ⟨fr, [], [], fun _ => K, [], false⟩) (ers gl' rl).length (by omega) j' oj' infj u (by omega) hjz hx (fun k' o' inf' hk' hkp => by
              cases hx' : inf'.isSt with
              | false => exact .inl (dst_ne hp hok' (by omega) hkp hjz hx' hst)
              | true => exact .inr ⟨dst_none hp hkp hx', by cases inf' <;> simp [Info.isSt, Info.tag, Tag.isSt] at hx' <;> rfl⟩)
            rw [hdj] at hy
            rw [hu, ← hy]; exact hfr
        have hbind : (rl.toArray[j']?).bind (·.dst) = some gs := by simp [hj', hd]
        have hev : ev n g (.tmp gs) = guardV v := by simp only [ev, hgn, cond_true]; exact hval
        have hon : onOff gl' rl r = some (match v with | some c => (b == c) | none => false) := by
          unfold onOff; rw [hgd]; simp only [hj, Option.bind_some, hd, hv, Option.map_some]
          cases v <;> rfl
        cases v with
        | none =>
          have hy := yielded_undef (ops := rl.toArray) (n := n) (fr := g) hbind hev
          simp only [Region.wanted, hgd, hy]
          rw [if_neg (by simp)]
          rw [ho] at hw
          unfold ersO at hw
          rw [hon] at hw
          simp only [Oper.wp, act_eval, execOp, Sem.run_pure, ev, Oper.upon_value] at hw
          exact hw
        | some c =>
          have hy := yielded_at (ops := rl.toArray) (n := n) (fr := g) hbind hev
          by_cases hbc : c = b
          · subst hbc
            simp only [Region.wanted, hgd, hy]
            rw [if_pos (by simp)]
            rw [ho] at hw
            unfold ersO at hw
            rw [hon] at hw
            simp only [beq_self_eq_true] at hw
            exact .inl hw
          · have hcb : (b == c) = false := beq_eq_false_iff_ne.2 fun h => hbc h.symm
            simp only [Region.wanted, hgd, hy]
            rw [if_neg (by simp; exact fun h => hbc h)]
            rw [ho] at hw
            unfold ersO at hw
            rw [hon] at hw
            simp only [hcb, Oper.wp, act_eval, execOp, Sem.run_pure, ev, Oper.upon_value] at hw
            exact hw
variable {H : HS} {O : List (Nat × Obj)} {Kf : Us → List HP} {E : List Nat} {tags : List Tag} {rest : List Oper} {d : Nat} {ty : TypeId} {pos : String} {aft : Array Edge} {x y z : Operand} {t t' : TypeId}
variable {q : Bool} {ops : Array Oper}
end
end Go.JW
namespace Go.JW

class KeyT (κ : Type) where
  enc : κ → Value
  kind : TypeDesc
  eqb : κ → κ → Bool
  eqb_iff : ∀ a b, eqb a b = true ↔ a = b
  same : ∀ a b, Instr.sameNow kind (enc a) (enc b) = some (eqb a b)
  bits : ∀ a, Instr.sameBits 10000 (enc a) (enc a) = true
  plain : ∀ (P : Program) (kt : TypeId) (w : World) (emp : Bool) (a : κ), P.underlying kt = some kind → (Instr.checkKey emp 10000 kt (enc a)).run P w = .ok () w
theorem ckS {P : Program} {kt : TypeId} {w : World} {emp : Bool} {a : ByteArray} (n : Nat) (h : P.underlying kt = some .string) : (Instr.checkKey emp (n + 1) kt (.string a)).run P w = .ok () w := by
  simp only [Instr.checkKey, Sem.run_bind, run_underlying h, Result.andThen_ok]
  rfl
theorem ckI {P : Program} {kt : TypeId} {w : World} {emp : Bool} {a : Int} {k : IntKind} (n : Nat) (h : P.underlying kt = some (.int k)) : (Instr.checkKey emp (n + 1) kt (.int k a)).run P w = .ok () w := by
  simp only [Instr.checkKey, Sem.run_bind, run_underlying h, Result.andThen_ok]
  rfl
instance : KeyT ByteArray where
  enc s := .string s
  kind := .string
  eqb a b := decide (a = b)
  eqb_iff a b := by simp
  same a b := by
    have h := str_beq a b
    rw [← beq_toListBytes] at h
    simp only [Instr.sameNow, h]
  bits a := by
    have h := str_beq a a
    rw [← beq_toListBytes] at h
    simp [Instr.sameBits, h]
  plain P kt w emp a h := ckS 9999 h
instance : KeyT Int where
  enc n := .int .i64 n
  kind := .int .i64
  eqb a b := decide (a = b)
  eqb_iff a b := by simp
  same a b := by
    simp only [Instr.sameNow, if_true]
    rfl
  bits a := by simp [Instr.sameBits]
  plain P kt w emp a h := ckI 9999 h
class VRep (α : Type) extends Rep α where
  of : List Value → Value
section
variable {κ α : Type} [KeyT κ] [VRep α]
def asg : List (κ × α) → κ → Option α
  | [], _ => none
  | p :: l, k => bif KeyT.eqb k p.1 then some p.2 else asg l k
def aset : List (κ × α) → κ → α → List (κ × α)
  | [], k, x => [(k, x)]
  | p :: l, k, x => bif KeyT.eqb k p.1 then (k, x) :: l else p :: aset l k x
def adel : List (κ × α) → κ → List (κ × α)
  | [], _ => []
  | p :: l, k => bif KeyT.eqb k p.1 then l else p :: adel l k
def EntOk (σ : PH) (e : MapEntry) (p : κ × α) : Prop := e.key = KeyT.enc p.1 ∧ ∃ cs, e.val = VRep.of α cs ∧ Rep.rep σ cs p.2
def Ents (σ : PH) : List MapEntry → List (κ × α) → Prop
  | [], [] => True
  | e :: es, p :: l => EntOk σ e p ∧ Ents σ es l
  | _, _ => False
theorem Ents.mono {σ σ' : PH} (hs : PH.le σ σ') : ∀ {es : List MapEntry} {l : List (κ × α)}, Ents σ es l → Ents σ' es l := by
  intro es
  induction es with
  | nil => intro l h; cases l with
    | nil => trivial
    | cons _ _ => exact h.elim
  | cons e es ih =>
    intro l h
    cases l with
    | nil => exact h.elim
    | cons p l =>
      obtain ⟨⟨h1, cs, h2, h3⟩, h4⟩ := h
      exact ⟨⟨h1, cs, h2, Rep.mono h3 hs⟩, ih h4⟩
theorem Ents.len {σ : PH} : ∀ {es : List MapEntry} {l : List (κ × α)}, Ents σ es l → es.length = l.length := by
  intro es
  induction es with
  | nil => intro l h; cases l with
    | nil => rfl
    | cons _ _ => exact h.elim
  | cons e es ih =>
    intro l h
    cases l with
    | nil => exact h.elim
    | cons p l => rw [List.length_cons, List.length_cons, ih h.2]
theorem Ents.find_none {σ : PH} {k : κ} : ∀ {es : List MapEntry} {l : List (κ × α)} {i : Nat}, Ents σ es l → asg l k = none → Instr.findNow (KeyT.kind κ) (KeyT.enc k) es i = some none := by
  intro es
  induction es with
  | nil => intro l i h _; cases l with
    | nil => rfl
    | cons _ _ => exact h.elim
  | cons e es ih =>
    intro l i h hn
    cases l with
    | nil => exact h.elim
    | cons p l =>
      obtain ⟨⟨h1, _⟩, h4⟩ := h
      simp only [asg] at hn
      cases he : KeyT.eqb k p.1 with
      | true => rw [he] at hn; cases hn
      | false =>
        rw [he] at hn
        simp only [Instr.findNow, h1, KeyT.same, he]
        exact ih h4 hn
theorem Ents.find_some {σ : PH} {k : κ} {x : α} : ∀ {es : List MapEntry} {l : List (κ × α)} {i : Nat}, Ents σ es l → asg l k = some x →
    ∃ j cs, Instr.findNow (KeyT.kind κ) (KeyT.enc k) es i = some (some (i + j, VRep.of α cs)) ∧ Rep.rep σ cs x ∧ (es[j]?).map (·.key) = some (KeyT.enc k) ∧
      (∀ cs' y, Rep.rep σ cs' y → Ents σ (es.modify j fun e => { e with key := KeyT.enc k, val := VRep.of α cs' }) (aset l k y)) ∧ Ents σ (es.eraseIdx j) (adel l k) := by
  intro es
  induction es with
  | nil => intro l i h hx; cases l with
    | nil => cases hx
    | cons _ _ => exact h.elim
  | cons e es ih =>
    intro l i h hx
    cases l with
    | nil => exact h.elim
    | cons p l =>
      obtain ⟨⟨h1, cs, h2, h3⟩, h4⟩ := h
      simp only [asg] at hx
      cases he : KeyT.eqb k p.1 with
      | true =>
        rw [he] at hx
        simp only [cond_true, Option.some.injEq] at hx
        subst hx
        have hk := (KeyT.eqb_iff k p.1).1 he
        refine ⟨0, cs, ?_, h3, by simp [h1, hk], fun cs' y hy => ?_, ?_⟩
        · simp only [Instr.findNow, h1, KeyT.same, he, h2, Nat.add_zero]
        · simp only [aset, he, cond_true, List.modify_zero_cons]
          exact ⟨⟨rfl, cs', rfl, hy⟩, h4⟩
        · simp only [adel, he, cond_true, List.eraseIdx_cons_zero]; exact h4
      | false =>
        rw [he] at hx
        simp only [cond_false] at hx
        obtain ⟨j, cs2, g1, g2, g3, g4, g5⟩ := ih (i := i + 1) h4 hx
        refine ⟨j + 1, cs2, ?_, g2, by simpa using g3, fun cs' y hy => ?_, ?_⟩
        · simp only [Instr.findNow, h1, KeyT.same, he]
          rw [g1]; congr 3; omega
        · simp only [aset, he, cond_false, List.modify_succ_cons]
          exact ⟨⟨h1, cs, h2, h3⟩, g4 cs' y hy⟩
        · simp only [adel, he, cond_false, List.eraseIdx_cons_succ]
          exact ⟨⟨h1, cs, h2, h3⟩, g5⟩
theorem Ents.push {σ : PH} {e : MapEntry} {k : κ} {x : α} : ∀ {es : List MapEntry} {l : List (κ × α)}, Ents σ es l → asg l k = none → EntOk σ e (k, x) → Ents σ (es ++ [e]) (aset l k x) := by
  intro es
  induction es with
  | nil => intro l h _ he; cases l with
    | nil => exact ⟨he, trivial⟩
    | cons _ _ => exact h.elim
  | cons e0 es ih =>
    intro l h hn he
    cases l with
    | nil => exact h.elim
    | cons p l =>
      simp only [asg] at hn
      cases hp : KeyT.eqb k p.1 with
      | true => rw [hp] at hn; cases hn
      | false =>
        rw [hp] at hn
        simp only [aset, hp, cond_false, List.cons_append]
        exact ⟨h.1, ih h.2 hn he⟩
structure MapOk (σ : PH) (es : Array MapEntry) (clock : Nat) (l : List (κ × α)) : Prop where
  ents : Ents σ es.toList l
  born : (es.toList.map (·.born)).Nodup
  old : ∀ e ∈ es.toList, e.born < clock
theorem MapOk.mono {σ σ' : PH} {es : Array MapEntry} {clock : Nat} {l : List (κ × α)} (h : MapOk σ es clock l) (hs : PH.le σ σ') : MapOk σ' es clock l := ⟨h.ents.mono hs, h.born, h.old⟩
theorem MapOk.size {σ : PH} {es : Array MapEntry} {clock : Nat} {l : List (κ × α)} (h : MapOk σ es clock l) : es.size = l.length := by rw [← Array.length_toList]; exact h.ents.len
theorem MapOk.nil (σ : PH) : MapOk σ #[] 0 ([] : List (κ × α)) := ⟨trivial, by simp, by simp⟩
def updM (kind : TypeDesc) (es : Array MapEntry) (clock : Nat) (key v : Value) : Array MapEntry × Nat :=
  match Instr.findNow kind key es.toList 0 with
  | some (some (i, _)) => (es.modify i fun e => { e with key := key, val := v }, clock)
  | _ => (es.push { key := key, val := v, born := clock }, clock + 1)
theorem map_modify_born (es : List MapEntry) (j : Nat) (f : MapEntry → MapEntry) (hf : ∀ e, (f e).born = e.born) : (es.modify j f).map (·.born) = es.map (·.born) := by
  induction es generalizing j with
  | nil => simp
  | cons e es ih => cases j with
    | zero => simp [hf]
    | succ j => simp [ih]
theorem mem_modify {es : List MapEntry} {j : Nat} {f : MapEntry → MapEntry} {e : MapEntry} (h : e ∈ es.modify j f) : ∃ e0 ∈ es, e = e0 ∨ e = f e0 := by
  induction es generalizing j with
  | nil => simp at h
  | cons a es ih =>
    cases j with
    | zero =>
      simp only [List.modify_zero_cons, List.mem_cons] at h
      rcases h with h | h
      · exact ⟨a, by simp, .inr h⟩
      · exact ⟨e, by simp [h], .inl rfl⟩
    | succ j =>
      simp only [List.modify_succ_cons, List.mem_cons] at h
      rcases h with h | h
      · exact ⟨a, by simp, .inl h⟩
      · obtain ⟨e0, h1, h2⟩ := ih h
        exact ⟨e0, by simp [h1], h2⟩
theorem MapOk.upd {σ : PH} {es : Array MapEntry} {clock : Nat} {l : List (κ × α)} (h : MapOk σ es clock l) (k : κ) {x : α} {cs : List Value} (hx : Rep.rep σ cs x) :
    MapOk σ (updM (KeyT.kind κ) es clock (KeyT.enc k) (VRep.of α cs)).1 (updM (KeyT.kind κ) es clock (KeyT.enc k) (VRep.of α cs)).2 (aset l k x) := by
  cases ha : asg l k with
  | none =>
    have hf := h.ents.find_none (i := 0) ha
    have e : updM (KeyT.kind κ) es clock (KeyT.enc k) (VRep.of α cs) = (es.push { key := KeyT.enc k, val := VRep.of α cs, born := clock }, clock + 1) := by unfold updM; rw [hf]
    rw [e]
    refine ⟨?_, ?_, ?_⟩
    · simp only [Array.toList_push]; exact h.ents.push ha ⟨rfl, cs, rfl, hx⟩
    · simp only [Array.toList_push, List.map_append, List.map_cons, List.map_nil]
      rw [List.nodup_append]
      refine ⟨h.born, by simp, ?_⟩
      intro a ha' b hb hab
      simp at hb
      subst hb; subst hab
      obtain ⟨e, h1, h2⟩ := List.mem_map.1 ha'
      have := h.old e h1
      omega
    · intro e he
      simp only [Array.toList_push, List.mem_append, List.mem_singleton] at he
      rcases he with he | rfl
      · have := h.old e he; omega
      · show clock < clock + 1; omega
  | some y =>
    obtain ⟨j, cs0, g1, g2, g3, g4, g5⟩ := h.ents.find_some (i := 0) ha
    have e : updM (KeyT.kind κ) es clock (KeyT.enc k) (VRep.of α cs) = (es.modify (0 + j) fun e => { e with key := KeyT.enc k, val := VRep.of α cs }, clock) := by unfold updM; rw [g1]
    rw [e, Nat.zero_add]
    refine ⟨?_, ?_, ?_⟩
    · simp only [Array.toList_modify]; exact g4 cs x hx
    · simp only [Array.toList_modify]; rw [map_modify_born es.toList j (fun e => { e with key := KeyT.enc k, val := VRep.of α cs }) (fun _ => rfl)]; exact h.born
    · intro e he
      simp only [Array.toList_modify] at he
      obtain ⟨e0, h1, h2⟩ := mem_modify he
      have := h.old e0 h1
      rcases h2 with rfl | rfl <;> exact this
end

class TZv (P : Program) (t : TypeId) (z : outParam Value) : Prop where eq : (P.info? t).bind (·.zero) = some z
section
variable {P : Program}
theorem run_zv {t : TypeId} {z : Value} (w : World) (h : (P.info? t).bind (·.zero) = some z) : (zeroValue t).run P w = .ok z w := by
  cases hi : P.info? t with
  | none => rw [hi] at h; cases h
  | some i =>
    rw [hi] at h
    simp only [Option.bind_some] at h
    simp [zeroValue, typeInfo, hi, h]
theorem run_getMap {w : World} {b : Nat} {es : Array MapEntry} {clock : Nat} (h : w.heap[b]? = some (.map es clock)) : (getObj b).run P w = .ok (.map es clock) w := by
  exact MapKept.run_getObj_map h
theorem run_setMap {w : World} {b : Nat} {es : Array MapEntry} {clock : Nat} {o' : Obj} (h : w.heap[b]? = some (.map es clock)) : (setObj b o').run P w = .ok () { w with heap := w.heap.setIfInBounds b o' } := by
  simp only [setObj, Sem.run, h]
theorem run_findKey {kt : TypeId} {kind : TypeDesc} {key : Value} {es : List MapEntry} {r : Option (Nat × Value)} (w : World) (hk : P.underlying kt = some kind) (h : Instr.findNow kind key es 0 = some r) : (Instr.findKey kt key es).run P w = .ok r w := by
  simp [Instr.findKey, run_underlying hk, h]
theorem run_lookup {t kt et : TypeId} {z : Value} {kind : TypeDesc} {bm : Nat} {es : Array MapEntry} {clock : Nat} {key : Value} {r : Option (Nat × Value)} {c : Bool} {w : World} (ht : P.underlying t = some (.map kt et)) (hz : (P.info? et).bind (·.zero) = some z) (hk : P.underlying kt = some kind)
    (hck : (Instr.checkKey es.isEmpty 10000 kt key).run P w = .ok () w) (hb : w.heap[bm]? = some (.map es clock)) (hf : Instr.findNow kind key es.toList 0 = some r) :
    (Instr.lookup t (.map (some bm)) key c).run P w = .ok (match r with | some (_, v) => if c then .tuple #[v, .bool true] else v | none => if c then .tuple #[z, .bool false] else z) w := by
  simp only [Instr.lookup, Sem.run_bind, run_underlying ht, Result.andThen_ok, run_getMap hb, hck, run_findKey w hk hf, Sem.run_pure]
  cases r with
  | none => simp only [Sem.run_bind, run_zv w hz, Result.andThen_ok, Sem.run_pure]
  | some p => obtain ⟨i, v⟩ := p; cases c <;> rfl
theorem run_update {κ α : Type} [KeyT κ] [VRep α] {t kt et : TypeId} {bm : Nat} {es : Array MapEntry} {clock : Nat} {k : κ} {v : Value} {σ : PH} {l : List (κ × α)} {w : World} (ht : P.underlying t = some (.map kt et)) (hk : P.underlying kt = some (KeyT.kind κ))
    (hb : w.heap[bm]? = some (.map es clock)) (ok : MapOk σ es clock l) :
    (Instr.mapUpdate t (.map (some bm)) (KeyT.enc k) v).run P w = .ok () { w with heap := w.heap.setIfInBounds bm (.map (updM (KeyT.kind κ) es clock (KeyT.enc k) v).1 (updM (KeyT.kind κ) es clock (KeyT.enc k) v).2) } := by
  have hck := KeyT.plain P kt w false k hk
  cases ha : asg l k with
  | none =>
    have hf := ok.ents.find_none (i := 0) ha
    have e : updM (KeyT.kind κ) es clock (KeyT.enc k) v = (es.push { key := KeyT.enc k, val := v, born := clock }, clock + 1) := by unfold updM; rw [hf]
    simp only [Instr.mapUpdate, Sem.run_bind, run_underlying ht, Result.andThen_ok, run_getMap hb, hck, run_findKey w hk hf, run_setMap hb, e]
  | some y =>
    obtain ⟨j, cs0, g1, g2, g3, g4, g5⟩ := ok.ents.find_some (i := 0) ha
    rw [Nat.zero_add] at g1
    have e : updM (KeyT.kind κ) es clock (KeyT.enc k) v = (es.modify j fun e => { e with key := KeyT.enc k, val := v }, clock) := by unfold updM; rw [g1]
    have hkey : ((es[j]?).map (·.key)).getD (KeyT.enc k) = KeyT.enc k := by rw [← Array.getElem?_toList, g3]; rfl
    have hst : ∀ w : World, (Instr.keyThatStays (KeyT.enc k) (KeyT.enc k)).run P w = .ok (KeyT.enc k) w := fun w => by
      simp only [Instr.keyThatStays, KeyT.bits k, if_true, Sem.run_pure]
    simp only [Instr.mapUpdate, Sem.run_bind, run_underlying ht, Result.andThen_ok, run_getMap hb, hck, run_findKey w hk g1, hkey, hst, run_setMap hb, e]
end
class TKey (P : Program) (kt : TypeId) (κ : Type) [KeyT κ] : Prop where eq : P.underlying kt = some (KeyT.kind κ)
instance {P : Program} {kt : TypeId} [h : TStr P kt] : TKey P kt ByteArray := ⟨h.eq⟩
instance {P : Program} {kt : TypeId} [h : TInt P kt .i64] : TKey P kt Int := ⟨h.eq⟩
section
variable {P : Program} {q : Bool} {ops : Array Oper} {f : FuncId} {R : Ending → World → Prop} {k : List Item} {n : Nat} {fr : Nat → Value} {w0 : World} {M : Nat → Prop} {σ σm : PH} {K K' : List HP}
variable {rest : List Oper} {d : Nat} {ty : TypeId} {pos : String} {aft : Array Edge} {x y z : Operand} {t t' kt et : TypeId}
variable {κ α : Type} [KeyT κ] [VRep α] {zv : Value} {bm bi clock : Nat} {es : Array MapEntry} {l : List (κ × α)} {put : HP → List HP}
theorem RS.enterK {fn : Func} {c : Code} {L : List Value} {g : FuncId} {w : World} (hf : P.funcs[g]? = some fn) (hn : fn.ntmps = n) (hb : fn.body = some c) (hs : Nat.ble L.length n = true)
    (h0 : Sat w0 M σ K w) (h : RS P g R [.code c] n (frameOf L) w0 M σ K) : Calls P g L.toArray w R := by
  refine Run.calls hf hb ?_
  rw [hn, act_enter _ _ (by simpa using hs)]
  exact h.out w h0
def lookV (es : Array MapEntry) (kind : TypeDesc) (key zv : Value) : Value × Bool :=
  match Instr.findNow kind key es.toList 0 with
  | some (some (_, v)) => (v, true)
  | _ => (zv, false)
theorem lookV_some {key : κ} {a : α} (ok : MapOk σm es clock l) (h : asg l key = some a) : ∃ cs, lookV es (KeyT.kind κ) (KeyT.enc key) zv = (VRep.of α cs, true) ∧ Rep.rep σm cs a := by
  obtain ⟨j, cs, g1, g2, _⟩ := ok.ents.find_some (i := 0) h
  exact ⟨cs, by unfold lookV; rw [g1], g2⟩
theorem lookV_none {key : κ} (ok : MapOk σm es clock l) (h : asg l key = none) : lookV es (KeyT.kind κ) (KeyT.enc key) zv = (zv, false) := by
  unfold lookV; rw [ok.ents.find_none (i := 0) h]
theorem run_look {key : κ} {c : Bool} {w : World} [ht : TMap P t kt et] [hz : TZv P et zv] [hk : TKey P kt κ] (ok : MapOk σm es clock l) (hb : w.heap[bm]? = some (.map es clock)) :
    (Instr.lookup t (.map (some bm)) (KeyT.enc key) c).run P w = .ok (if c then .tuple #[(lookV es (KeyT.kind κ) (KeyT.enc key) zv).1, .bool (lookV es (KeyT.kind κ) (KeyT.enc key) zv).2] else (lookV es (KeyT.kind κ) (KeyT.enc key) zv).1) w := by
  cases ha : asg l key with
  | none =>
    rw [run_lookup ht.eq hz.eq hk.eq (KeyT.plain P kt w _ key hk.eq) hb (ok.ents.find_none (i := 0) ha), lookV_none ok ha]
  | some a =>
    obtain ⟨j, cs, g1, g2, _⟩ := ok.ents.find_some (i := 0) ha
    have e : lookV es (KeyT.kind κ) (KeyT.enc key) zv = (VRep.of α cs, true) := by unfold lookV; rw [g1]
    rw [run_lookup ht.eq hz.eq hk.eq (KeyT.plain P kt w _ key hk.eq) hb g1, e]
theorem lk (key : κ) (ok : MapOk σm es clock l) [ht : TMap P t kt et] [hz : TZv P et zv] [hk : TKey P kt κ]
    (h : LS P q ops f R k rest n (upd fr d (lookV es (KeyT.kind κ) (KeyT.enc key) zv).1) w0 M σ K)
    (hx : ev n fr x = .map (some bm) := by rfl) (hy : ev n fr y = KeyT.enc key := by rfl) (hf : FindB bm K (.map es clock) put K' := by infer_instance) :
    LS P q ops f R k (⟨some d, .lookup t x y false, ty, pos, aft, none⟩ :: rest) n fr w0 M σ K :=
  LS.val rfl rfl (fun w hw => by
    have := run_look (P := P) (t := t) (key := key) (c := false) (zv := zv) ok (hw.get (i := hf))
    simp only [execOp, hx, hy, Sem.run_bind, this, Result.andThen_ok]; rfl) h
theorem mkM (h : ∀ b, LS P false ops f R k rest n (upd fr d (.map (some b))) w0 M σ (blk b (.map #[] 0) :: K)) :
    LS P false ops f R k (⟨some d, .makeMap t none, ty, pos, aft, none⟩ :: rest) n fr w0 M σ K :=
  LS.valW rfl rfl fun w hw => ⟨.map (some w.heap.size), w.alloc (.map #[] 0), σ, _, by simp [execOp, Instr.makeMap], hw.alloc _, h _⟩
theorem mupd (key : κ) (v : Value) (ok : MapOk σm es clock l) [ht : TMap P t kt et] [hk : TKey P kt κ]
    (h : LS P false ops f R k rest n fr w0 M σ (put (blk bm (.map (updM (KeyT.kind κ) es clock (KeyT.enc key) v).1 (updM (KeyT.kind κ) es clock (KeyT.enc key) v).2))))
    (hx : ev n fr x = .map (some bm) := by rfl) (hy : ev n fr y = KeyT.enc key := by rfl) (hz : ev n fr z = v := by rfl) (hf : FindB bm K (.map es clock) put K' := by infer_instance) :
    LS P false ops f R k (⟨none, .mapUpdate t x y z, ty, pos, aft, none⟩ :: rest) n fr w0 M σ K :=
  LS.skipW rfl rfl fun w hw => by
    have := run_update (P := P) (t := t) (k := key) (v := v) ht.eq hk.eq (hw.get (i := hf)) ok
    exact ⟨_, σ, _, by simp only [execOp, hx, hy, hz, Sem.run_bind, this, Result.andThen_ok]; rfl, hw.put (i := hf) _, h⟩
variable {H : HS} {O : List (Nat × Obj)} {Kf : Us → List HP} {Kb : List HP} {E : List Nat} {sg : Bool} {tags : List Tag}
theorem D.lk (key : κ) (ok : MapOk σm es clock l) [ht : TMap P t kt et] [hz : TZv P et zv] [hk : TKey P kt κ]
    (h : LD P f R k n w0 M σ Kb rest tags ⟨upd fr d (lookV es (KeyT.kind κ) (KeyT.enc key) zv).1, H, O, Kf, E, false⟩)
    (hx : ∀ us, ev n (fill fr H us) x = .map (some bm) := by intro _; rfl) (hy : ∀ us, ev n (fill fr H us) y = KeyT.enc key := by intro _; rfl) (hf : FindB bm Kb (.map es clock) put K' := by infer_instance) :
    LD P f R k n w0 M σ Kb (⟨some d, .lookup t x y false, ty, pos, aft, none⟩ :: rest) (.ex :: tags) ⟨fr, H, O, Kf, E, false⟩ :=
  D.ex h fun us σ' w hle _ hw => by
    have := run_look (P := P) (t := t) (key := key) (c := false) (zv := zv) ok (hw.get (i := hf))
    simp only [execOp, hx us, hy us, Sem.run_bind, this, Result.andThen_ok]; rfl
theorem D.mupd (key : κ) (v : Us → Value) (ok : MapOk σm es clock l) [ht : TMap P t kt et] [hk : TKey P kt κ]
    (h : LD P f R k n w0 M σ Kb rest tags ⟨fr, H, [], fun us => put (blk bm (.map (updM (KeyT.kind κ) es clock (KeyT.enc key) (v us)).1 (updM (KeyT.kind κ) es clock (KeyT.enc key) (v us)).2)), (Stg.mk fr H [] (fun _ => K) E sg).seen ⟨none, .mapUpdate t x y z, ty, pos, aft, none⟩ ++ E, true⟩)
    (hx : ∀ us, ev n (fill fr H us) x = .map (some bm) := by intro _; rfl) (hy : ∀ us, ev n (fill fr H us) y = KeyT.enc key := by intro _; rfl) (hz : ∀ us, ev n (fill fr H us) z = v us := by intro _; rfl) (hf : FindB bm K (.map es clock) put K' := by infer_instance)
    (hE : ∀ us, v (resE (([] : List (Nat × Obj)).map (·.1) ++ ((Stg.mk fr H [] (fun _ => K) E sg).seen ⟨none, .mapUpdate t x y z, ty, pos, aft, none⟩ ++ E)) us) = v us := by intro _; rfl) :
    LD P f R k n w0 M σ Kb (⟨none, .mapUpdate t x y z, ty, pos, aft, none⟩ :: rest) (.st :: tags) ⟨fr, H, [], fun _ => K, E, sg⟩ :=
  D.st (fun us => put (blk bm (.map (updM (KeyT.kind κ) es clock (KeyT.enc key) (v us)).1 (updM (KeyT.kind κ) es clock (KeyT.enc key) (v us)).2))) _ h (fun us σ' w hle hfs hw => by
    have hw : Sat w0 M σ' K w := hw
    have := run_update (P := P) (t := t) (k := key) (v := v us) ht.eq hk.eq (hw.get (i := hf)) ok
    exact ⟨_, by simp only [execOp, hx us, hy us, hz us, Sem.run_bind, this, Result.andThen_ok]; rfl, hw.put (i := hf) _⟩) (fun us => by simp only [hE us])
end
end Go.JW
namespace Go.Proofs.YtaokfeonmgpjcaaGreatDoor
open Go.JW
instance : TInt Tryz.prog 2 .i64 := ⟨by kernel_rfl⟩
instance : TOne Tryz.prog 2 := ⟨by kernel_rfl⟩
instance : TSz Tryz.prog 2 1 := ⟨by kernel_rfl⟩
instance : TBytes Tryz.prog 2 8 := ⟨by kernel_rfl⟩
instance : TZero Tryz.prog 2 [.int .i64 0] := ⟨by kernel_rfl⟩
instance : TInt Tryz.prog 3 .i64 := ⟨by kernel_rfl⟩
instance : TOne Tryz.prog 3 := ⟨by kernel_rfl⟩
instance : TSz Tryz.prog 3 1 := ⟨by kernel_rfl⟩
instance : TBytes Tryz.prog 3 8 := ⟨by kernel_rfl⟩
instance : TZero Tryz.prog 3 [.int .i64 0] := ⟨by kernel_rfl⟩
instance : TBool Tryz.prog 4 := ⟨by kernel_rfl⟩
instance : TOne Tryz.prog 4 := ⟨by kernel_rfl⟩
instance : TSz Tryz.prog 4 1 := ⟨by kernel_rfl⟩
instance : TBytes Tryz.prog 4 1 := ⟨by kernel_rfl⟩
instance : TZero Tryz.prog 4 [.bool false] := ⟨by kernel_rfl⟩
instance : TInt Tryz.prog 5 .u8 := ⟨by kernel_rfl⟩
instance : TOne Tryz.prog 5 := ⟨by kernel_rfl⟩
instance : TSz Tryz.prog 5 1 := ⟨by kernel_rfl⟩
instance : TBytes Tryz.prog 5 1 := ⟨by kernel_rfl⟩
instance : TZero Tryz.prog 5 [.int .u8 0] := ⟨by kernel_rfl⟩
instance : TAgg Tryz.prog 7 := ⟨by kernel_rfl⟩
instance : TSz Tryz.prog 7 4 := ⟨by kernel_rfl⟩
instance : TBytes Tryz.prog 7 24 := ⟨by kernel_rfl⟩
instance : TZero Tryz.prog 7 [.int .i64 0, .int .i64 0, .bool false, .int .u8 0] := ⟨by kernel_rfl⟩
instance : TPl Tryz.prog 7 [(0, 1), (1, 1), (2, 1), (3, 1)] := ⟨by kernel_rfl⟩
instance : TFld Tryz.prog 7 0 0 0 := ⟨by kernel_rfl⟩
instance : TFld Tryz.prog 7 1 1 0 := ⟨by kernel_rfl⟩
instance : TFld Tryz.prog 7 2 2 0 := ⟨by kernel_rfl⟩
instance : TFld Tryz.prog 7 3 3 0 := ⟨by kernel_rfl⟩
instance : TStr Tryz.prog 9 := ⟨by kernel_rfl⟩
instance : TOne Tryz.prog 9 := ⟨by kernel_rfl⟩
instance : TSz Tryz.prog 9 1 := ⟨by kernel_rfl⟩
instance : TBytes Tryz.prog 9 16 := ⟨by kernel_rfl⟩
instance : TZero Tryz.prog 9 [.string ⟨#[]⟩] := ⟨by kernel_rfl⟩
instance : TInt Tryz.prog 12 .u64 := ⟨by kernel_rfl⟩
instance : TOne Tryz.prog 12 := ⟨by kernel_rfl⟩
instance : TSz Tryz.prog 12 1 := ⟨by kernel_rfl⟩
instance : TBytes Tryz.prog 12 8 := ⟨by kernel_rfl⟩
instance : TZero Tryz.prog 12 [.int .u64 0] := ⟨by kernel_rfl⟩
instance : TAgg Tryz.prog 13 := ⟨by kernel_rfl⟩
instance : TSz Tryz.prog 13 2 := ⟨by kernel_rfl⟩
instance : TBytes Tryz.prog 13 24 := ⟨by kernel_rfl⟩
instance : TZero Tryz.prog 13 [.string ⟨#[]⟩, .int .u64 0] := ⟨by kernel_rfl⟩
instance : TPl Tryz.prog 13 [(0, 1), (1, 1)] := ⟨by kernel_rfl⟩
instance : TFld Tryz.prog 13 0 0 0 := ⟨by kernel_rfl⟩
instance : TFld Tryz.prog 13 1 1 0 := ⟨by kernel_rfl⟩
instance : TPtr Tryz.prog 15 323 := ⟨by kernel_rfl⟩
instance : TOne Tryz.prog 15 := ⟨by kernel_rfl⟩
instance : TSz Tryz.prog 15 1 := ⟨by kernel_rfl⟩
instance : TBytes Tryz.prog 15 8 := ⟨by kernel_rfl⟩
instance : TZero Tryz.prog 15 [.pointer none] := ⟨by kernel_rfl⟩
instance : TPtr Tryz.prog 16 326 := ⟨by kernel_rfl⟩
instance : TOne Tryz.prog 16 := ⟨by kernel_rfl⟩
instance : TSz Tryz.prog 16 1 := ⟨by kernel_rfl⟩
instance : TBytes Tryz.prog 16 8 := ⟨by kernel_rfl⟩
instance : TZero Tryz.prog 16 [.pointer none] := ⟨by kernel_rfl⟩
instance : TPtr Tryz.prog 17 333 := ⟨by kernel_rfl⟩
instance : TOne Tryz.prog 17 := ⟨by kernel_rfl⟩
instance : TSz Tryz.prog 17 1 := ⟨by kernel_rfl⟩
instance : TBytes Tryz.prog 17 8 := ⟨by kernel_rfl⟩
instance : TZero Tryz.prog 17 [.pointer none] := ⟨by kernel_rfl⟩
instance : TAgg Tryz.prog 18 := ⟨by kernel_rfl⟩
instance : TSz Tryz.prog 18 1 := ⟨by kernel_rfl⟩
instance : TBytes Tryz.prog 18 8 := ⟨by kernel_rfl⟩
instance : TZero Tryz.prog 18 [.pointer none] := ⟨by kernel_rfl⟩
instance : TPl Tryz.prog 18 [(0, 1)] := ⟨by kernel_rfl⟩
instance : TFld Tryz.prog 18 0 0 0 := ⟨by kernel_rfl⟩
instance : TOne Tryz.prog 20 := ⟨by kernel_rfl⟩
instance : TSz Tryz.prog 20 1 := ⟨by kernel_rfl⟩
instance : TBytes Tryz.prog 20 16 := ⟨by kernel_rfl⟩
instance : TZero Tryz.prog 20 [.nilIface] := ⟨by kernel_rfl⟩
instance : TInt Tryz.prog 21 .i32 := ⟨by kernel_rfl⟩
instance : TOne Tryz.prog 21 := ⟨by kernel_rfl⟩
instance : TSz Tryz.prog 21 1 := ⟨by kernel_rfl⟩
instance : TBytes Tryz.prog 21 4 := ⟨by kernel_rfl⟩
instance : TZero Tryz.prog 21 [.int .i32 0] := ⟨by kernel_rfl⟩
instance : TSlice Tryz.prog 22 3 := ⟨by kernel_rfl⟩
instance : TOne Tryz.prog 22 := ⟨by kernel_rfl⟩
instance : TSz Tryz.prog 22 1 := ⟨by kernel_rfl⟩
instance : TBytes Tryz.prog 22 24 := ⟨by kernel_rfl⟩
instance : TZero Tryz.prog 22 [.slice none 0 0] := ⟨by kernel_rfl⟩
instance : TPtr Tryz.prog 24 44 := ⟨by kernel_rfl⟩
instance : TOne Tryz.prog 24 := ⟨by kernel_rfl⟩
instance : TSz Tryz.prog 24 1 := ⟨by kernel_rfl⟩
instance : TBytes Tryz.prog 24 8 := ⟨by kernel_rfl⟩
instance : TZero Tryz.prog 24 [.pointer none] := ⟨by kernel_rfl⟩
instance : TSlice Tryz.prog 26 35 := ⟨by kernel_rfl⟩
instance : TOne Tryz.prog 26 := ⟨by kernel_rfl⟩
instance : TSz Tryz.prog 26 1 := ⟨by kernel_rfl⟩
instance : TBytes Tryz.prog 26 24 := ⟨by kernel_rfl⟩
instance : TZero Tryz.prog 26 [.slice none 0 0] := ⟨by kernel_rfl⟩
instance : TAgg Tryz.prog 27 := ⟨by kernel_rfl⟩
instance : TSz Tryz.prog 27 2 := ⟨by kernel_rfl⟩
instance : TBytes Tryz.prog 27 32 := ⟨by kernel_rfl⟩
instance : TZero Tryz.prog 27 [.int .i64 0, .slice none 0 0] := ⟨by kernel_rfl⟩
instance : TPl Tryz.prog 27 [(0, 1), (1, 1)] := ⟨by kernel_rfl⟩
instance : TFld Tryz.prog 27 0 0 0 := ⟨by kernel_rfl⟩
instance : TFld Tryz.prog 27 1 1 0 := ⟨by kernel_rfl⟩
instance : TAgg Tryz.prog 28 := ⟨by kernel_rfl⟩
instance : TSz Tryz.prog 28 2 := ⟨by kernel_rfl⟩
instance : TBytes Tryz.prog 28 32 := ⟨by kernel_rfl⟩
instance : TZero Tryz.prog 28 [.int .i64 0, .slice none 0 0] := ⟨by kernel_rfl⟩
instance : TPl Tryz.prog 28 [(0, 1), (1, 1)] := ⟨by kernel_rfl⟩
instance : TFld Tryz.prog 28 0 0 0 := ⟨by kernel_rfl⟩
instance : TFld Tryz.prog 28 1 1 0 := ⟨by kernel_rfl⟩
instance : TSlice Tryz.prog 29 5 := ⟨by kernel_rfl⟩
instance : TOne Tryz.prog 29 := ⟨by kernel_rfl⟩
instance : TSz Tryz.prog 29 1 := ⟨by kernel_rfl⟩
instance : TBytes Tryz.prog 29 24 := ⟨by kernel_rfl⟩
instance : TZero Tryz.prog 29 [.slice none 0 0] := ⟨by kernel_rfl⟩
instance : TAgg Tryz.prog 31 := ⟨by kernel_rfl⟩
instance : TSz Tryz.prog 31 2 := ⟨by kernel_rfl⟩
instance : TBytes Tryz.prog 31 16 := ⟨by kernel_rfl⟩
instance : TZero Tryz.prog 31 [.int .i64 0, .int .i64 0] := ⟨by kernel_rfl⟩
instance : TPl Tryz.prog 31 [(0, 1), (1, 1)] := ⟨by kernel_rfl⟩
instance : TFld Tryz.prog 31 0 0 0 := ⟨by kernel_rfl⟩
instance : TFld Tryz.prog 31 1 1 0 := ⟨by kernel_rfl⟩
instance : TAgg Tryz.prog 32 := ⟨by kernel_rfl⟩
instance : TSz Tryz.prog 32 2 := ⟨by kernel_rfl⟩
instance : TBytes Tryz.prog 32 16 := ⟨by kernel_rfl⟩
instance : TZero Tryz.prog 32 [.int .i64 0, .int .i64 0] := ⟨by kernel_rfl⟩
instance : TPl Tryz.prog 32 [(0, 1), (1, 1)] := ⟨by kernel_rfl⟩
instance : TFld Tryz.prog 32 0 0 0 := ⟨by kernel_rfl⟩
instance : TFld Tryz.prog 32 1 1 0 := ⟨by kernel_rfl⟩
instance : TSlice Tryz.prog 33 9 := ⟨by kernel_rfl⟩
instance : TOne Tryz.prog 33 := ⟨by kernel_rfl⟩
instance : TSz Tryz.prog 33 1 := ⟨by kernel_rfl⟩
instance : TBytes Tryz.prog 33 24 := ⟨by kernel_rfl⟩
instance : TZero Tryz.prog 33 [.slice none 0 0] := ⟨by kernel_rfl⟩
instance : TAgg Tryz.prog 34 := ⟨by kernel_rfl⟩
instance : TSz Tryz.prog 34 7 := ⟨by kernel_rfl⟩
instance : TBytes Tryz.prog 34 96 := ⟨by kernel_rfl⟩
instance : TZero Tryz.prog 34 [.string ⟨#[]⟩, .int .i64 0, .int .i64 0, .int .i64 0, .slice none 0 0, .slice none 0 0, .bool false] := ⟨by kernel_rfl⟩
instance : TPl Tryz.prog 34 [(0, 1), (1, 1), (2, 2), (4, 1), (5, 1), (6, 1)] := ⟨by kernel_rfl⟩
instance : TFld Tryz.prog 34 0 0 0 := ⟨by kernel_rfl⟩
instance : TFld Tryz.prog 34 1 1 0 := ⟨by kernel_rfl⟩
instance : TFld Tryz.prog 34 2 2 1 := ⟨by kernel_rfl⟩
instance : TFld Tryz.prog 34 3 4 0 := ⟨by kernel_rfl⟩
instance : TFld Tryz.prog 34 4 5 0 := ⟨by kernel_rfl⟩
instance : TFld Tryz.prog 34 5 6 0 := ⟨by kernel_rfl⟩
instance : TAgg Tryz.prog 35 := ⟨by kernel_rfl⟩
instance : TSz Tryz.prog 35 7 := ⟨by kernel_rfl⟩
instance : TBytes Tryz.prog 35 96 := ⟨by kernel_rfl⟩
instance : TZero Tryz.prog 35 [.string ⟨#[]⟩, .int .i64 0, .int .i64 0, .int .i64 0, .slice none 0 0, .slice none 0 0, .bool false] := ⟨by kernel_rfl⟩
instance : TPl Tryz.prog 35 [(0, 1), (1, 1), (2, 2), (4, 1), (5, 1), (6, 1)] := ⟨by kernel_rfl⟩
instance : TFld Tryz.prog 35 0 0 0 := ⟨by kernel_rfl⟩
instance : TFld Tryz.prog 35 1 1 0 := ⟨by kernel_rfl⟩
instance : TFld Tryz.prog 35 2 2 1 := ⟨by kernel_rfl⟩
instance : TFld Tryz.prog 35 3 4 0 := ⟨by kernel_rfl⟩
instance : TFld Tryz.prog 35 4 5 0 := ⟨by kernel_rfl⟩
instance : TFld Tryz.prog 35 5 6 0 := ⟨by kernel_rfl⟩
instance : TSlice Tryz.prog 36 51 := ⟨by kernel_rfl⟩
instance : TOne Tryz.prog 36 := ⟨by kernel_rfl⟩
instance : TSz Tryz.prog 36 1 := ⟨by kernel_rfl⟩
instance : TBytes Tryz.prog 36 24 := ⟨by kernel_rfl⟩
instance : TZero Tryz.prog 36 [.slice none 0 0] := ⟨by kernel_rfl⟩
instance : TInt Tryz.prog 37 .i64 := ⟨by kernel_rfl⟩
instance : TOne Tryz.prog 37 := ⟨by kernel_rfl⟩
instance : TSz Tryz.prog 37 1 := ⟨by kernel_rfl⟩
instance : TBytes Tryz.prog 37 8 := ⟨by kernel_rfl⟩
instance : TZero Tryz.prog 37 [.int .i64 0] := ⟨by kernel_rfl⟩
instance : TPtr Tryz.prog 39 82 := ⟨by kernel_rfl⟩
instance : TOne Tryz.prog 39 := ⟨by kernel_rfl⟩
instance : TSz Tryz.prog 39 1 := ⟨by kernel_rfl⟩
instance : TBytes Tryz.prog 39 8 := ⟨by kernel_rfl⟩
instance : TZero Tryz.prog 39 [.pointer none] := ⟨by kernel_rfl⟩
instance : TPtr Tryz.prog 40 101 := ⟨by kernel_rfl⟩
instance : TOne Tryz.prog 40 := ⟨by kernel_rfl⟩
instance : TSz Tryz.prog 40 1 := ⟨by kernel_rfl⟩
instance : TBytes Tryz.prog 40 8 := ⟨by kernel_rfl⟩
instance : TZero Tryz.prog 40 [.pointer none] := ⟨by kernel_rfl⟩
instance : TPtr Tryz.prog 41 135 := ⟨by kernel_rfl⟩
instance : TOne Tryz.prog 41 := ⟨by kernel_rfl⟩
instance : TSz Tryz.prog 41 1 := ⟨by kernel_rfl⟩
instance : TBytes Tryz.prog 41 8 := ⟨by kernel_rfl⟩
instance : TZero Tryz.prog 41 [.pointer none] := ⟨by kernel_rfl⟩
instance : TPtr Tryz.prog 42 77 := ⟨by kernel_rfl⟩
instance : TOne Tryz.prog 42 := ⟨by kernel_rfl⟩
instance : TSz Tryz.prog 42 1 := ⟨by kernel_rfl⟩
instance : TBytes Tryz.prog 42 8 := ⟨by kernel_rfl⟩
instance : TZero Tryz.prog 42 [.pointer none] := ⟨by kernel_rfl⟩
instance : TAgg Tryz.prog 43 := ⟨by kernel_rfl⟩
instance : TSz Tryz.prog 43 4 := ⟨by kernel_rfl⟩
instance : TBytes Tryz.prog 43 32 := ⟨by kernel_rfl⟩
instance : TZero Tryz.prog 43 [.pointer none, .pointer none, .pointer none, .pointer none] := ⟨by kernel_rfl⟩
instance : TPl Tryz.prog 43 [(0, 1), (1, 1), (2, 1), (3, 1)] := ⟨by kernel_rfl⟩
instance : TFld Tryz.prog 43 0 0 0 := ⟨by kernel_rfl⟩
instance : TFld Tryz.prog 43 1 1 0 := ⟨by kernel_rfl⟩
instance : TFld Tryz.prog 43 2 2 0 := ⟨by kernel_rfl⟩
instance : TFld Tryz.prog 43 3 3 0 := ⟨by kernel_rfl⟩
instance : TAgg Tryz.prog 44 := ⟨by kernel_rfl⟩
instance : TSz Tryz.prog 44 4 := ⟨by kernel_rfl⟩
instance : TBytes Tryz.prog 44 32 := ⟨by kernel_rfl⟩
instance : TZero Tryz.prog 44 [.pointer none, .pointer none, .pointer none, .pointer none] := ⟨by kernel_rfl⟩
instance : TPl Tryz.prog 44 [(0, 1), (1, 1), (2, 1), (3, 1)] := ⟨by kernel_rfl⟩
instance : TFld Tryz.prog 44 0 0 0 := ⟨by kernel_rfl⟩
instance : TFld Tryz.prog 44 1 1 0 := ⟨by kernel_rfl⟩
instance : TFld Tryz.prog 44 2 2 0 := ⟨by kernel_rfl⟩
instance : TFld Tryz.prog 44 3 3 0 := ⟨by kernel_rfl⟩
instance : TAgg Tryz.prog 50 := ⟨by kernel_rfl⟩
instance : TSz Tryz.prog 50 7 := ⟨by kernel_rfl⟩
instance : TBytes Tryz.prog 50 88 := ⟨by kernel_rfl⟩
instance : TZero Tryz.prog 50 [.int .i64 0, .int .i64 0, .int .i64 0, .int .i64 0, .slice none 0 0, .slice none 0 0, .bool false] := ⟨by kernel_rfl⟩
instance : TPl Tryz.prog 50 [(0, 1), (1, 1), (2, 1), (3, 1), (4, 1), (5, 1), (6, 1)] := ⟨by kernel_rfl⟩
instance : TFld Tryz.prog 50 0 0 0 := ⟨by kernel_rfl⟩
instance : TFld Tryz.prog 50 1 1 0 := ⟨by kernel_rfl⟩
instance : TFld Tryz.prog 50 2 2 0 := ⟨by kernel_rfl⟩
instance : TFld Tryz.prog 50 3 3 0 := ⟨by kernel_rfl⟩
instance : TFld Tryz.prog 50 4 4 0 := ⟨by kernel_rfl⟩
instance : TFld Tryz.prog 50 5 5 0 := ⟨by kernel_rfl⟩
instance : TFld Tryz.prog 50 6 6 0 := ⟨by kernel_rfl⟩
instance : TAgg Tryz.prog 51 := ⟨by kernel_rfl⟩
instance : TSz Tryz.prog 51 7 := ⟨by kernel_rfl⟩
instance : TBytes Tryz.prog 51 88 := ⟨by kernel_rfl⟩
instance : TZero Tryz.prog 51 [.int .i64 0, .int .i64 0, .int .i64 0, .int .i64 0, .slice none 0 0, .slice none 0 0, .bool false] := ⟨by kernel_rfl⟩
instance : TPl Tryz.prog 51 [(0, 1), (1, 1), (2, 1), (3, 1), (4, 1), (5, 1), (6, 1)] := ⟨by kernel_rfl⟩
instance : TFld Tryz.prog 51 0 0 0 := ⟨by kernel_rfl⟩
instance : TFld Tryz.prog 51 1 1 0 := ⟨by kernel_rfl⟩
instance : TFld Tryz.prog 51 2 2 0 := ⟨by kernel_rfl⟩
instance : TFld Tryz.prog 51 3 3 0 := ⟨by kernel_rfl⟩
instance : TFld Tryz.prog 51 4 4 0 := ⟨by kernel_rfl⟩
instance : TFld Tryz.prog 51 5 5 0 := ⟨by kernel_rfl⟩
instance : TFld Tryz.prog 51 6 6 0 := ⟨by kernel_rfl⟩
instance : TSlice Tryz.prog 57 37 := ⟨by kernel_rfl⟩
instance : TOne Tryz.prog 57 := ⟨by kernel_rfl⟩
instance : TSz Tryz.prog 57 1 := ⟨by kernel_rfl⟩
instance : TBytes Tryz.prog 57 24 := ⟨by kernel_rfl⟩
instance : TZero Tryz.prog 57 [.slice none 0 0] := ⟨by kernel_rfl⟩
instance : TSlice Tryz.prog 66 4 := ⟨by kernel_rfl⟩
instance : TOne Tryz.prog 66 := ⟨by kernel_rfl⟩
instance : TSz Tryz.prog 66 1 := ⟨by kernel_rfl⟩
instance : TBytes Tryz.prog 66 24 := ⟨by kernel_rfl⟩
instance : TZero Tryz.prog 66 [.slice none 0 0] := ⟨by kernel_rfl⟩
instance : TArr Tryz.prog 72 12 3 := ⟨by kernel_rfl⟩
instance : TAgg Tryz.prog 72 := ⟨by kernel_rfl⟩
instance : TSz Tryz.prog 72 12 := ⟨by kernel_rfl⟩
instance : TBytes Tryz.prog 72 96 := ⟨by kernel_rfl⟩
instance : TZero Tryz.prog 72 [.int .i64 0, .int .i64 0, .int .i64 0, .int .i64 0, .int .i64 0, .int .i64 0, .int .i64 0, .int .i64 0, .int .i64 0, .int .i64 0, .int .i64 0, .int .i64 0] := ⟨by kernel_rfl⟩
instance : TAgg Tryz.prog 76 := ⟨by kernel_rfl⟩
instance : TSz Tryz.prog 76 2 := ⟨by kernel_rfl⟩
instance : TBytes Tryz.prog 76 32 := ⟨by kernel_rfl⟩
instance : TZero Tryz.prog 76 [.slice none 0 0, .int .i64 0] := ⟨by kernel_rfl⟩
instance : TPl Tryz.prog 76 [(0, 1), (1, 1)] := ⟨by kernel_rfl⟩
instance : TFld Tryz.prog 76 0 0 0 := ⟨by kernel_rfl⟩
instance : TFld Tryz.prog 76 1 1 0 := ⟨by kernel_rfl⟩
instance : TAgg Tryz.prog 77 := ⟨by kernel_rfl⟩
instance : TSz Tryz.prog 77 2 := ⟨by kernel_rfl⟩
instance : TBytes Tryz.prog 77 32 := ⟨by kernel_rfl⟩
instance : TZero Tryz.prog 77 [.slice none 0 0, .int .i64 0] := ⟨by kernel_rfl⟩
instance : TPl Tryz.prog 77 [(0, 1), (1, 1)] := ⟨by kernel_rfl⟩
instance : TFld Tryz.prog 77 0 0 0 := ⟨by kernel_rfl⟩
instance : TFld Tryz.prog 77 1 1 0 := ⟨by kernel_rfl⟩
instance : TMap Tryz.prog 80 3 83 := ⟨by kernel_rfl⟩
instance : TOne Tryz.prog 80 := ⟨by kernel_rfl⟩
instance : TSz Tryz.prog 80 1 := ⟨by kernel_rfl⟩
instance : TBytes Tryz.prog 80 8 := ⟨by kernel_rfl⟩
instance : TZero Tryz.prog 80 [.map none] := ⟨by kernel_rfl⟩
instance : TAgg Tryz.prog 81 := ⟨by kernel_rfl⟩
instance : TSz Tryz.prog 81 3 := ⟨by kernel_rfl⟩
instance : TBytes Tryz.prog 81 24 := ⟨by kernel_rfl⟩
instance : TZero Tryz.prog 81 [.int .i64 0, .pointer none, .map none] := ⟨by kernel_rfl⟩
instance : TPl Tryz.prog 81 [(0, 1), (1, 1), (2, 1)] := ⟨by kernel_rfl⟩
instance : TFld Tryz.prog 81 0 0 0 := ⟨by kernel_rfl⟩
instance : TFld Tryz.prog 81 1 1 0 := ⟨by kernel_rfl⟩
instance : TFld Tryz.prog 81 2 2 0 := ⟨by kernel_rfl⟩
instance : TAgg Tryz.prog 82 := ⟨by kernel_rfl⟩
instance : TSz Tryz.prog 82 3 := ⟨by kernel_rfl⟩
instance : TBytes Tryz.prog 82 24 := ⟨by kernel_rfl⟩
instance : TZero Tryz.prog 82 [.int .i64 0, .pointer none, .map none] := ⟨by kernel_rfl⟩
instance : TPl Tryz.prog 82 [(0, 1), (1, 1), (2, 1)] := ⟨by kernel_rfl⟩
instance : TFld Tryz.prog 82 0 0 0 := ⟨by kernel_rfl⟩
instance : TFld Tryz.prog 82 1 1 0 := ⟨by kernel_rfl⟩
instance : TFld Tryz.prog 82 2 2 0 := ⟨by kernel_rfl⟩
instance : TPtr Tryz.prog 83 88 := ⟨by kernel_rfl⟩
instance : TOne Tryz.prog 83 := ⟨by kernel_rfl⟩
instance : TSz Tryz.prog 83 1 := ⟨by kernel_rfl⟩
instance : TBytes Tryz.prog 83 8 := ⟨by kernel_rfl⟩
instance : TZero Tryz.prog 83 [.pointer none] := ⟨by kernel_rfl⟩
instance : TOne Tryz.prog 84 := ⟨by kernel_rfl⟩
instance : TSz Tryz.prog 84 1 := ⟨by kernel_rfl⟩
instance : TBytes Tryz.prog 84 16 := ⟨by kernel_rfl⟩
instance : TZero Tryz.prog 84 [.nilIface] := ⟨by kernel_rfl⟩
instance : TOne Tryz.prog 85 := ⟨by kernel_rfl⟩
instance : TSz Tryz.prog 85 1 := ⟨by kernel_rfl⟩
instance : TBytes Tryz.prog 85 16 := ⟨by kernel_rfl⟩
instance : TZero Tryz.prog 85 [.nilIface] := ⟨by kernel_rfl⟩
instance : TMap Tryz.prog 86 3 4 := ⟨by kernel_rfl⟩
instance : TOne Tryz.prog 86 := ⟨by kernel_rfl⟩
instance : TSz Tryz.prog 86 1 := ⟨by kernel_rfl⟩
instance : TBytes Tryz.prog 86 8 := ⟨by kernel_rfl⟩
instance : TZero Tryz.prog 86 [.map none] := ⟨by kernel_rfl⟩
instance : TAgg Tryz.prog 87 := ⟨by kernel_rfl⟩
instance : TSz Tryz.prog 87 6 := ⟨by kernel_rfl⟩
instance : TBytes Tryz.prog 87 88 := ⟨by kernel_rfl⟩
instance : TZero Tryz.prog 87 [.int .i64 0, .int .i64 0, .slice none 0 0, .slice none 0 0, .nilIface, .map none] := ⟨by kernel_rfl⟩
instance : TPl Tryz.prog 87 [(0, 1), (1, 2), (3, 1), (4, 1), (5, 1)] := ⟨by kernel_rfl⟩
instance : TFld Tryz.prog 87 0 0 0 := ⟨by kernel_rfl⟩
instance : TFld Tryz.prog 87 1 1 1 := ⟨by kernel_rfl⟩
instance : TFld Tryz.prog 87 2 3 0 := ⟨by kernel_rfl⟩
instance : TFld Tryz.prog 87 3 4 0 := ⟨by kernel_rfl⟩
instance : TFld Tryz.prog 87 4 5 0 := ⟨by kernel_rfl⟩
instance : TAgg Tryz.prog 88 := ⟨by kernel_rfl⟩
instance : TSz Tryz.prog 88 6 := ⟨by kernel_rfl⟩
instance : TBytes Tryz.prog 88 88 := ⟨by kernel_rfl⟩
instance : TZero Tryz.prog 88 [.int .i64 0, .int .i64 0, .slice none 0 0, .slice none 0 0, .nilIface, .map none] := ⟨by kernel_rfl⟩
instance : TPl Tryz.prog 88 [(0, 1), (1, 2), (3, 1), (4, 1), (5, 1)] := ⟨by kernel_rfl⟩
instance : TFld Tryz.prog 88 0 0 0 := ⟨by kernel_rfl⟩
instance : TFld Tryz.prog 88 1 1 1 := ⟨by kernel_rfl⟩
instance : TFld Tryz.prog 88 2 3 0 := ⟨by kernel_rfl⟩
instance : TFld Tryz.prog 88 3 4 0 := ⟨by kernel_rfl⟩
instance : TFld Tryz.prog 88 4 5 0 := ⟨by kernel_rfl⟩
instance : TSlice Tryz.prog 91 207 := ⟨by kernel_rfl⟩
instance : TOne Tryz.prog 91 := ⟨by kernel_rfl⟩
instance : TSz Tryz.prog 91 1 := ⟨by kernel_rfl⟩
instance : TBytes Tryz.prog 91 24 := ⟨by kernel_rfl⟩
instance : TZero Tryz.prog 91 [.slice none 0 0] := ⟨by kernel_rfl⟩
instance : TAgg Tryz.prog 92 := ⟨by kernel_rfl⟩
instance : TSz Tryz.prog 92 6 := ⟨by kernel_rfl⟩
instance : TBytes Tryz.prog 92 88 := ⟨by kernel_rfl⟩
instance : TZero Tryz.prog 92 [.string ⟨#[]⟩, .int .i64 0, .int .i64 0, .slice none 0 0, .slice none 0 0, .bool false] := ⟨by kernel_rfl⟩
instance : TPl Tryz.prog 92 [(0, 1), (1, 2), (3, 1), (4, 1), (5, 1)] := ⟨by kernel_rfl⟩
instance : TFld Tryz.prog 92 0 0 0 := ⟨by kernel_rfl⟩
instance : TFld Tryz.prog 92 1 1 1 := ⟨by kernel_rfl⟩
instance : TFld Tryz.prog 92 2 3 0 := ⟨by kernel_rfl⟩
instance : TFld Tryz.prog 92 3 4 0 := ⟨by kernel_rfl⟩
instance : TFld Tryz.prog 92 4 5 0 := ⟨by kernel_rfl⟩
instance : TAgg Tryz.prog 93 := ⟨by kernel_rfl⟩
instance : TSz Tryz.prog 93 6 := ⟨by kernel_rfl⟩
instance : TBytes Tryz.prog 93 88 := ⟨by kernel_rfl⟩
instance : TZero Tryz.prog 93 [.string ⟨#[]⟩, .int .i64 0, .int .i64 0, .slice none 0 0, .slice none 0 0, .bool false] := ⟨by kernel_rfl⟩
instance : TPl Tryz.prog 93 [(0, 1), (1, 2), (3, 1), (4, 1), (5, 1)] := ⟨by kernel_rfl⟩
instance : TFld Tryz.prog 93 0 0 0 := ⟨by kernel_rfl⟩
instance : TFld Tryz.prog 93 1 1 1 := ⟨by kernel_rfl⟩
instance : TFld Tryz.prog 93 2 3 0 := ⟨by kernel_rfl⟩
instance : TFld Tryz.prog 93 3 4 0 := ⟨by kernel_rfl⟩
instance : TFld Tryz.prog 93 4 5 0 := ⟨by kernel_rfl⟩
instance : TAgg Tryz.prog 94 := ⟨by kernel_rfl⟩
instance : TSz Tryz.prog 94 10 := ⟨by kernel_rfl⟩
instance : TBytes Tryz.prog 94 152 := ⟨by kernel_rfl⟩
instance : TZero Tryz.prog 94 [.int .i64 0, .int .i64 0, .slice none 0 0, .slice none 0 0, .string ⟨#[]⟩, .int .i64 0, .int .i64 0, .slice none 0 0, .slice none 0 0, .bool false] := ⟨by kernel_rfl⟩
instance : TPl Tryz.prog 94 [(0, 1), (1, 1), (2, 1), (3, 1), (4, 6)] := ⟨by kernel_rfl⟩
instance : TFld Tryz.prog 94 0 0 0 := ⟨by kernel_rfl⟩
instance : TFld Tryz.prog 94 1 1 0 := ⟨by kernel_rfl⟩
instance : TFld Tryz.prog 94 2 2 0 := ⟨by kernel_rfl⟩
instance : TFld Tryz.prog 94 3 3 0 := ⟨by kernel_rfl⟩
instance : TFld Tryz.prog 94 4 4 5 := ⟨by kernel_rfl⟩
instance : TAgg Tryz.prog 95 := ⟨by kernel_rfl⟩
instance : TSz Tryz.prog 95 10 := ⟨by kernel_rfl⟩
instance : TBytes Tryz.prog 95 152 := ⟨by kernel_rfl⟩
instance : TZero Tryz.prog 95 [.int .i64 0, .int .i64 0, .slice none 0 0, .slice none 0 0, .string ⟨#[]⟩, .int .i64 0, .int .i64 0, .slice none 0 0, .slice none 0 0, .bool false] := ⟨by kernel_rfl⟩
instance : TPl Tryz.prog 95 [(0, 1), (1, 1), (2, 1), (3, 1), (4, 6)] := ⟨by kernel_rfl⟩
instance : TFld Tryz.prog 95 0 0 0 := ⟨by kernel_rfl⟩
instance : TFld Tryz.prog 95 1 1 0 := ⟨by kernel_rfl⟩
instance : TFld Tryz.prog 95 2 2 0 := ⟨by kernel_rfl⟩
instance : TFld Tryz.prog 95 3 3 0 := ⟨by kernel_rfl⟩
instance : TFld Tryz.prog 95 4 4 5 := ⟨by kernel_rfl⟩
instance : TAgg Tryz.prog 97 := ⟨by kernel_rfl⟩
instance : TSz Tryz.prog 97 1 := ⟨by kernel_rfl⟩
instance : TBytes Tryz.prog 97 8 := ⟨by kernel_rfl⟩
instance : TZero Tryz.prog 97 [.int .i64 0] := ⟨by kernel_rfl⟩
instance : TPl Tryz.prog 97 [(0, 1)] := ⟨by kernel_rfl⟩
instance : TFld Tryz.prog 97 0 0 0 := ⟨by kernel_rfl⟩
instance : TAgg Tryz.prog 98 := ⟨by kernel_rfl⟩
instance : TSz Tryz.prog 98 1 := ⟨by kernel_rfl⟩
instance : TBytes Tryz.prog 98 8 := ⟨by kernel_rfl⟩
instance : TZero Tryz.prog 98 [.int .i64 0] := ⟨by kernel_rfl⟩
instance : TPl Tryz.prog 98 [(0, 1)] := ⟨by kernel_rfl⟩
instance : TFld Tryz.prog 98 0 0 0 := ⟨by kernel_rfl⟩
instance : TSlice Tryz.prog 99 21 := ⟨by kernel_rfl⟩
instance : TOne Tryz.prog 99 := ⟨by kernel_rfl⟩
instance : TSz Tryz.prog 99 1 := ⟨by kernel_rfl⟩
instance : TBytes Tryz.prog 99 24 := ⟨by kernel_rfl⟩
instance : TZero Tryz.prog 99 [.slice none 0 0] := ⟨by kernel_rfl⟩
instance : TAgg Tryz.prog 100 := ⟨by kernel_rfl⟩
instance : TSz Tryz.prog 100 3 := ⟨by kernel_rfl⟩
instance : TBytes Tryz.prog 100 40 := ⟨by kernel_rfl⟩
instance : TZero Tryz.prog 100 [.slice none 0 0, .int .i64 0, .int .i64 0] := ⟨by kernel_rfl⟩
instance : TPl Tryz.prog 100 [(0, 1), (1, 1), (2, 1)] := ⟨by kernel_rfl⟩
instance : TFld Tryz.prog 100 0 0 0 := ⟨by kernel_rfl⟩
instance : TFld Tryz.prog 100 1 1 0 := ⟨by kernel_rfl⟩
instance : TFld Tryz.prog 100 2 2 0 := ⟨by kernel_rfl⟩
instance : TAgg Tryz.prog 101 := ⟨by kernel_rfl⟩
instance : TSz Tryz.prog 101 3 := ⟨by kernel_rfl⟩
instance : TBytes Tryz.prog 101 40 := ⟨by kernel_rfl⟩
instance : TZero Tryz.prog 101 [.slice none 0 0, .int .i64 0, .int .i64 0] := ⟨by kernel_rfl⟩
instance : TPl Tryz.prog 101 [(0, 1), (1, 1), (2, 1)] := ⟨by kernel_rfl⟩
instance : TFld Tryz.prog 101 0 0 0 := ⟨by kernel_rfl⟩
instance : TFld Tryz.prog 101 1 1 0 := ⟨by kernel_rfl⟩
instance : TFld Tryz.prog 101 2 2 0 := ⟨by kernel_rfl⟩
instance : TAgg Tryz.prog 103 := ⟨by kernel_rfl⟩
instance : TSz Tryz.prog 103 0 := ⟨by kernel_rfl⟩
instance : TBytes Tryz.prog 103 0 := ⟨by kernel_rfl⟩
instance : TZero Tryz.prog 103 [] := ⟨by kernel_rfl⟩
instance : TPl Tryz.prog 103 [] := ⟨by kernel_rfl⟩
instance : TAgg Tryz.prog 104 := ⟨by kernel_rfl⟩
instance : TSz Tryz.prog 104 0 := ⟨by kernel_rfl⟩
instance : TBytes Tryz.prog 104 0 := ⟨by kernel_rfl⟩
instance : TZero Tryz.prog 104 [] := ⟨by kernel_rfl⟩
instance : TPl Tryz.prog 104 [] := ⟨by kernel_rfl⟩
instance : TAgg Tryz.prog 110 := ⟨by kernel_rfl⟩
instance : TSz Tryz.prog 110 0 := ⟨by kernel_rfl⟩
instance : TBytes Tryz.prog 110 0 := ⟨by kernel_rfl⟩
instance : TZero Tryz.prog 110 [] := ⟨by kernel_rfl⟩
instance : TPl Tryz.prog 110 [] := ⟨by kernel_rfl⟩
instance : TAgg Tryz.prog 112 := ⟨by kernel_rfl⟩
instance : TSz Tryz.prog 112 0 := ⟨by kernel_rfl⟩
instance : TBytes Tryz.prog 112 0 := ⟨by kernel_rfl⟩
instance : TZero Tryz.prog 112 [] := ⟨by kernel_rfl⟩
instance : TPl Tryz.prog 112 [] := ⟨by kernel_rfl⟩
instance : TAgg Tryz.prog 128 := ⟨by kernel_rfl⟩
instance : TSz Tryz.prog 128 1 := ⟨by kernel_rfl⟩
instance : TBytes Tryz.prog 128 8 := ⟨by kernel_rfl⟩
instance : TZero Tryz.prog 128 [.int .i64 0] := ⟨by kernel_rfl⟩
instance : TPl Tryz.prog 128 [(0, 1)] := ⟨by kernel_rfl⟩
instance : TFld Tryz.prog 128 0 0 0 := ⟨by kernel_rfl⟩
instance : TAgg Tryz.prog 129 := ⟨by kernel_rfl⟩
instance : TSz Tryz.prog 129 1 := ⟨by kernel_rfl⟩
instance : TBytes Tryz.prog 129 8 := ⟨by kernel_rfl⟩
instance : TZero Tryz.prog 129 [.int .i64 0] := ⟨by kernel_rfl⟩
instance : TPl Tryz.prog 129 [(0, 1)] := ⟨by kernel_rfl⟩
instance : TFld Tryz.prog 129 0 0 0 := ⟨by kernel_rfl⟩
instance : TSlice Tryz.prog 130 95 := ⟨by kernel_rfl⟩
instance : TOne Tryz.prog 130 := ⟨by kernel_rfl⟩
instance : TSz Tryz.prog 130 1 := ⟨by kernel_rfl⟩
instance : TBytes Tryz.prog 130 24 := ⟨by kernel_rfl⟩
instance : TZero Tryz.prog 130 [.slice none 0 0] := ⟨by kernel_rfl⟩
instance : TSlice Tryz.prog 133 136 := ⟨by kernel_rfl⟩
instance : TOne Tryz.prog 133 := ⟨by kernel_rfl⟩
instance : TSz Tryz.prog 133 1 := ⟨by kernel_rfl⟩
instance : TBytes Tryz.prog 133 24 := ⟨by kernel_rfl⟩
instance : TZero Tryz.prog 133 [.slice none 0 0] := ⟨by kernel_rfl⟩
instance : TAgg Tryz.prog 134 := ⟨by kernel_rfl⟩
instance : TSz Tryz.prog 134 3 := ⟨by kernel_rfl⟩
instance : TBytes Tryz.prog 134 40 := ⟨by kernel_rfl⟩
instance : TZero Tryz.prog 134 [.int .i64 0, .pointer none, .slice none 0 0] := ⟨by kernel_rfl⟩
instance : TPl Tryz.prog 134 [(0, 1), (1, 1), (2, 1)] := ⟨by kernel_rfl⟩
instance : TFld Tryz.prog 134 0 0 0 := ⟨by kernel_rfl⟩
instance : TFld Tryz.prog 134 1 1 0 := ⟨by kernel_rfl⟩
instance : TFld Tryz.prog 134 2 2 0 := ⟨by kernel_rfl⟩
instance : TAgg Tryz.prog 135 := ⟨by kernel_rfl⟩
instance : TSz Tryz.prog 135 3 := ⟨by kernel_rfl⟩
instance : TBytes Tryz.prog 135 40 := ⟨by kernel_rfl⟩
instance : TZero Tryz.prog 135 [.int .i64 0, .pointer none, .slice none 0 0] := ⟨by kernel_rfl⟩
instance : TPl Tryz.prog 135 [(0, 1), (1, 1), (2, 1)] := ⟨by kernel_rfl⟩
instance : TFld Tryz.prog 135 0 0 0 := ⟨by kernel_rfl⟩
instance : TFld Tryz.prog 135 1 1 0 := ⟨by kernel_rfl⟩
instance : TFld Tryz.prog 135 2 2 0 := ⟨by kernel_rfl⟩
instance : TPtr Tryz.prog 136 138 := ⟨by kernel_rfl⟩
instance : TOne Tryz.prog 136 := ⟨by kernel_rfl⟩
instance : TSz Tryz.prog 136 1 := ⟨by kernel_rfl⟩
instance : TBytes Tryz.prog 136 8 := ⟨by kernel_rfl⟩
instance : TZero Tryz.prog 136 [.pointer none] := ⟨by kernel_rfl⟩
instance : TAgg Tryz.prog 137 := ⟨by kernel_rfl⟩
instance : TSz Tryz.prog 137 7 := ⟨by kernel_rfl⟩
instance : TBytes Tryz.prog 137 104 := ⟨by kernel_rfl⟩
instance : TZero Tryz.prog 137 [.int .i64 0, .int .i64 0, .int .i64 0, .int .i64 0, .slice none 0 0, .slice none 0 0, .slice none 0 0] := ⟨by kernel_rfl⟩
instance : TPl Tryz.prog 137 [(0, 1), (1, 1), (2, 1), (3, 2), (5, 1), (6, 1)] := ⟨by kernel_rfl⟩
instance : TFld Tryz.prog 137 0 0 0 := ⟨by kernel_rfl⟩
instance : TFld Tryz.prog 137 1 1 0 := ⟨by kernel_rfl⟩
instance : TFld Tryz.prog 137 2 2 0 := ⟨by kernel_rfl⟩
instance : TFld Tryz.prog 137 3 3 1 := ⟨by kernel_rfl⟩
instance : TFld Tryz.prog 137 4 5 0 := ⟨by kernel_rfl⟩
instance : TFld Tryz.prog 137 5 6 0 := ⟨by kernel_rfl⟩
instance : TAgg Tryz.prog 138 := ⟨by kernel_rfl⟩
instance : TSz Tryz.prog 138 7 := ⟨by kernel_rfl⟩
instance : TBytes Tryz.prog 138 104 := ⟨by kernel_rfl⟩
instance : TZero Tryz.prog 138 [.int .i64 0, .int .i64 0, .int .i64 0, .int .i64 0, .slice none 0 0, .slice none 0 0, .slice none 0 0] := ⟨by kernel_rfl⟩
instance : TPl Tryz.prog 138 [(0, 1), (1, 1), (2, 1), (3, 2), (5, 1), (6, 1)] := ⟨by kernel_rfl⟩
instance : TFld Tryz.prog 138 0 0 0 := ⟨by kernel_rfl⟩
instance : TFld Tryz.prog 138 1 1 0 := ⟨by kernel_rfl⟩
instance : TFld Tryz.prog 138 2 2 0 := ⟨by kernel_rfl⟩
instance : TFld Tryz.prog 138 3 3 1 := ⟨by kernel_rfl⟩
instance : TFld Tryz.prog 138 4 5 0 := ⟨by kernel_rfl⟩
instance : TFld Tryz.prog 138 5 6 0 := ⟨by kernel_rfl⟩
instance : TSlice Tryz.prog 141 144 := ⟨by kernel_rfl⟩
instance : TOne Tryz.prog 141 := ⟨by kernel_rfl⟩
instance : TSz Tryz.prog 141 1 := ⟨by kernel_rfl⟩
instance : TBytes Tryz.prog 141 24 := ⟨by kernel_rfl⟩
instance : TZero Tryz.prog 141 [.slice none 0 0] := ⟨by kernel_rfl⟩
instance : TAgg Tryz.prog 143 := ⟨by kernel_rfl⟩
instance : TSz Tryz.prog 143 1 := ⟨by kernel_rfl⟩
instance : TBytes Tryz.prog 143 16 := ⟨by kernel_rfl⟩
instance : TZero Tryz.prog 143 [.string ⟨#[]⟩] := ⟨by kernel_rfl⟩
instance : TPl Tryz.prog 143 [(0, 1)] := ⟨by kernel_rfl⟩
instance : TFld Tryz.prog 143 0 0 0 := ⟨by kernel_rfl⟩
instance : TAgg Tryz.prog 144 := ⟨by kernel_rfl⟩
instance : TSz Tryz.prog 144 1 := ⟨by kernel_rfl⟩
instance : TBytes Tryz.prog 144 16 := ⟨by kernel_rfl⟩
instance : TZero Tryz.prog 144 [.string ⟨#[]⟩] := ⟨by kernel_rfl⟩
instance : TPl Tryz.prog 144 [(0, 1)] := ⟨by kernel_rfl⟩
instance : TFld Tryz.prog 144 0 0 0 := ⟨by kernel_rfl⟩
instance : TAgg Tryz.prog 149 := ⟨by kernel_rfl⟩
instance : TSz Tryz.prog 149 1 := ⟨by kernel_rfl⟩
instance : TBytes Tryz.prog 149 8 := ⟨by kernel_rfl⟩
instance : TZero Tryz.prog 149 [.int .i64 0] := ⟨by kernel_rfl⟩
instance : TPl Tryz.prog 149 [(0, 1)] := ⟨by kernel_rfl⟩
instance : TFld Tryz.prog 149 0 0 0 := ⟨by kernel_rfl⟩
instance : TAgg Tryz.prog 161 := ⟨by kernel_rfl⟩
instance : TSz Tryz.prog 161 1 := ⟨by kernel_rfl⟩
instance : TBytes Tryz.prog 161 16 := ⟨by kernel_rfl⟩
instance : TZero Tryz.prog 161 [.string ⟨#[]⟩] := ⟨by kernel_rfl⟩
instance : TPl Tryz.prog 161 [(0, 1)] := ⟨by kernel_rfl⟩
instance : TFld Tryz.prog 161 0 0 0 := ⟨by kernel_rfl⟩
instance : TAgg Tryz.prog 162 := ⟨by kernel_rfl⟩
instance : TSz Tryz.prog 162 1 := ⟨by kernel_rfl⟩
instance : TBytes Tryz.prog 162 16 := ⟨by kernel_rfl⟩
instance : TZero Tryz.prog 162 [.string ⟨#[]⟩] := ⟨by kernel_rfl⟩
instance : TPl Tryz.prog 162 [(0, 1)] := ⟨by kernel_rfl⟩
instance : TFld Tryz.prog 162 0 0 0 := ⟨by kernel_rfl⟩
instance : TAgg Tryz.prog 163 := ⟨by kernel_rfl⟩
instance : TSz Tryz.prog 163 0 := ⟨by kernel_rfl⟩
instance : TBytes Tryz.prog 163 0 := ⟨by kernel_rfl⟩
instance : TZero Tryz.prog 163 [] := ⟨by kernel_rfl⟩
instance : TPl Tryz.prog 163 [] := ⟨by kernel_rfl⟩
instance : TInt Tryz.prog 175 .u64 := ⟨by kernel_rfl⟩
instance : TOne Tryz.prog 175 := ⟨by kernel_rfl⟩
instance : TSz Tryz.prog 175 1 := ⟨by kernel_rfl⟩
instance : TBytes Tryz.prog 175 8 := ⟨by kernel_rfl⟩
instance : TZero Tryz.prog 175 [.int .u64 0] := ⟨by kernel_rfl⟩
instance : TInt Tryz.prog 191 .i64 := ⟨by kernel_rfl⟩
instance : TOne Tryz.prog 191 := ⟨by kernel_rfl⟩
instance : TSz Tryz.prog 191 1 := ⟨by kernel_rfl⟩
instance : TBytes Tryz.prog 191 8 := ⟨by kernel_rfl⟩
instance : TZero Tryz.prog 191 [.int .i64 0] := ⟨by kernel_rfl⟩
instance : TInt Tryz.prog 198 .u32 := ⟨by kernel_rfl⟩
instance : TOne Tryz.prog 198 := ⟨by kernel_rfl⟩
instance : TSz Tryz.prog 198 1 := ⟨by kernel_rfl⟩
instance : TBytes Tryz.prog 198 4 := ⟨by kernel_rfl⟩
instance : TZero Tryz.prog 198 [.int .u32 0] := ⟨by kernel_rfl⟩
instance : TInt Tryz.prog 200 .u64 := ⟨by kernel_rfl⟩
instance : TOne Tryz.prog 200 := ⟨by kernel_rfl⟩
instance : TSz Tryz.prog 200 1 := ⟨by kernel_rfl⟩
instance : TBytes Tryz.prog 200 8 := ⟨by kernel_rfl⟩
instance : TZero Tryz.prog 200 [.int .u64 0] := ⟨by kernel_rfl⟩
instance : TAgg Tryz.prog 206 := ⟨by kernel_rfl⟩
instance : TSz Tryz.prog 206 5 := ⟨by kernel_rfl⟩
instance : TBytes Tryz.prog 206 56 := ⟨by kernel_rfl⟩
instance : TZero Tryz.prog 206 [.string ⟨#[]⟩, .string ⟨#[]⟩, .int .i64 0, .int .i64 0, .bool false] := ⟨by kernel_rfl⟩
instance : TPl Tryz.prog 206 [(0, 1), (1, 1), (2, 2), (4, 1)] := ⟨by kernel_rfl⟩
instance : TFld Tryz.prog 206 0 0 0 := ⟨by kernel_rfl⟩
instance : TFld Tryz.prog 206 1 1 0 := ⟨by kernel_rfl⟩
instance : TFld Tryz.prog 206 2 2 1 := ⟨by kernel_rfl⟩
instance : TFld Tryz.prog 206 3 4 0 := ⟨by kernel_rfl⟩
instance : TAgg Tryz.prog 207 := ⟨by kernel_rfl⟩
instance : TSz Tryz.prog 207 5 := ⟨by kernel_rfl⟩
instance : TBytes Tryz.prog 207 56 := ⟨by kernel_rfl⟩
instance : TZero Tryz.prog 207 [.string ⟨#[]⟩, .string ⟨#[]⟩, .int .i64 0, .int .i64 0, .bool false] := ⟨by kernel_rfl⟩
instance : TPl Tryz.prog 207 [(0, 1), (1, 1), (2, 2), (4, 1)] := ⟨by kernel_rfl⟩
instance : TFld Tryz.prog 207 0 0 0 := ⟨by kernel_rfl⟩
instance : TFld Tryz.prog 207 1 1 0 := ⟨by kernel_rfl⟩
instance : TFld Tryz.prog 207 2 2 1 := ⟨by kernel_rfl⟩
instance : TFld Tryz.prog 207 3 4 0 := ⟨by kernel_rfl⟩
instance : TInt Tryz.prog 224 .u64 := ⟨by kernel_rfl⟩
instance : TOne Tryz.prog 224 := ⟨by kernel_rfl⟩
instance : TSz Tryz.prog 224 1 := ⟨by kernel_rfl⟩
instance : TBytes Tryz.prog 224 8 := ⟨by kernel_rfl⟩
instance : TZero Tryz.prog 224 [.int .u64 0] := ⟨by kernel_rfl⟩
instance : TPtr Tryz.prog 228 3 := ⟨by kernel_rfl⟩
instance : TOne Tryz.prog 228 := ⟨by kernel_rfl⟩
instance : TSz Tryz.prog 228 1 := ⟨by kernel_rfl⟩
instance : TBytes Tryz.prog 228 8 := ⟨by kernel_rfl⟩
instance : TZero Tryz.prog 228 [.pointer none] := ⟨by kernel_rfl⟩
instance : TArr Tryz.prog 230 256 5 := ⟨by kernel_rfl⟩
instance : TAgg Tryz.prog 230 := ⟨by kernel_rfl⟩
instance : TSz Tryz.prog 230 256 := ⟨by kernel_rfl⟩
instance : TBytes Tryz.prog 230 256 := ⟨by kernel_rfl⟩
instance : TZero Tryz.prog 230 [.int .u8 0, .int .u8 0, .int .u8 0, .int .u8 0, .int .u8 0, .int .u8 0, .int .u8 0, .int .u8 0, .int .u8 0, .int .u8 0, .int .u8 0, .int .u8 0, .int .u8 0, .int .u8 0, .int .u8 0, .int .u8 0, .int .u8 0, .int .u8 0, .int .u8 0, .int .u8 0, .int .u8 0, .int .u8 0, .int .u8 0, .int .u8 0, .int .u8 0, .int .u8 0, .int .u8 0, .int .u8 0, .int .u8 0, .int .u8 0, .int .u8 0, .int .u8 0, .int .u8 0, .int .u8 0, .int .u8 0, .int .u8 0, .int .u8 0, .int .u8 0, .int .u8 0, .int .u8 0, .int .u8 0, .int .u8 0, .int .u8 0, .int .u8 0, .int .u8 0, .int .u8 0, .int .u8 0, .int .u8 0, .int .u8 0, .int .u8 0, .int .u8 0, .int .u8 0, .int .u8 0, .int .u8 0, .int .u8 0, .int .u8 0, .int .u8 0, .int .u8 0, .int .u8 0, .int .u8 0, .int .u8 0, .int .u8 0, .int .u8 0, .int .u8 0, .int .u8 0, .int .u8 0, .int .u8 0, .int .u8 0, .int .u8 0, .int .u8 0, .int .u8 0, .int .u8 0, .int .u8 0, .int .u8 0, .int .u8 0, .int .u8 0, .int .u8 0, .int .u8 0, .int .u8 0, .int .u8 0, .int .u8 0, .int .u8 0, .int .u8 0, .int .u8 0, .int .u8 0, .int .u8 0, .int .u8 0, .int .u8 0, .int .u8 0, .int .u8 0, .int .u8 0, .int .u8 0, .int .u8 0, .int .u8 0, .int .u8 0, .int .u8 0, .int .u8 0, .int .u8 0, .int .u8 0, .int .u8 0, .int .u8 0, .int .u8 0, .int .u8 0, .int .u8 0, .int .u8 0, .int .u8 0, .int .u8 0, .int .u8 0, .int .u8 0, .int .u8 0, .int .u8 0, .int .u8 0, .int .u8 0, .int .u8 0, .int .u8 0, .int .u8 0, .int .u8 0, .int .u8 0, .int .u8 0, .int .u8 0, .int .u8 0, .int .u8 0, .int .u8 0, .int .u8 0, .int .u8 0, .int .u8 0, .int .u8 0, .int .u8 0, .int .u8 0, .int .u8 0, .int .u8 0, .int .u8 0, .int .u8 0, .int .u8 0, .int .u8 0, .int .u8 0, .int .u8 0, .int .u8 0, .int .u8 0, .int .u8 0, .int .u8 0, .int .u8 0, .int .u8 0, .int .u8 0, .int .u8 0, .int .u8 0, .int .u8 0, .int .u8 0, .int .u8 0, .int .u8 0, .int .u8 0, .int .u8 0, .int .u8 0, .int .u8 0, .int .u8 0, .int .u8 0, .int .u8 0, .int .u8 0, .int .u8 0, .int .u8 0, .int .u8 0, .int .u8 0, .int .u8 0, .int .u8 0, .int .u8 0, .int .u8 0, .int .u8 0, .int .u8 0, .int .u8 0, .int .u8 0, .int .u8 0, .int .u8 0, .int .u8 0, .int .u8 0, .int .u8 0, .int .u8 0, .int .u8 0, .int .u8 0, .int .u8 0, .int .u8 0, .int .u8 0, .int .u8 0, .int .u8 0, .int .u8 0, .int .u8 0, .int .u8 0, .int .u8 0, .int .u8 0, .int .u8 0, .int .u8 0, .int .u8 0, .int .u8 0, .int .u8 0, .int .u8 0, .int .u8 0, .int .u8 0, .int .u8 0, .int .u8 0, .int .u8 0, .int .u8 0, .int .u8 0, .int .u8 0, .int .u8 0, .int .u8 0, .int .u8 0, .int .u8 0, .int .u8 0, .int .u8 0, .int .u8 0, .int .u8 0, .int .u8 0, .int .u8 0, .int .u8 0, .int .u8 0, .int .u8 0, .int .u8 0, .int .u8 0, .int .u8 0, .int .u8 0, .int .u8 0, .int .u8 0, .int .u8 0, .int .u8 0, .int .u8 0, .int .u8 0, .int .u8 0, .int .u8 0, .int .u8 0, .int .u8 0, .int .u8 0, .int .u8 0, .int .u8 0, .int .u8 0, .int .u8 0, .int .u8 0, .int .u8 0, .int .u8 0, .int .u8 0, .int .u8 0, .int .u8 0, .int .u8 0, .int .u8 0, .int .u8 0, .int .u8 0, .int .u8 0, .int .u8 0, .int .u8 0, .int .u8 0, .int .u8 0, .int .u8 0, .int .u8 0, .int .u8 0, .int .u8 0, .int .u8 0, .int .u8 0, .int .u8 0] := ⟨by kernel_rfl⟩
instance : TPtr Tryz.prog 232 234 := ⟨by kernel_rfl⟩
instance : TOne Tryz.prog 232 := ⟨by kernel_rfl⟩
instance : TSz Tryz.prog 232 1 := ⟨by kernel_rfl⟩
instance : TBytes Tryz.prog 232 8 := ⟨by kernel_rfl⟩
instance : TZero Tryz.prog 232 [.pointer none] := ⟨by kernel_rfl⟩
instance : TAgg Tryz.prog 233 := ⟨by kernel_rfl⟩
instance : TSz Tryz.prog 233 2 := ⟨by kernel_rfl⟩
instance : TBytes Tryz.prog 233 32 := ⟨by kernel_rfl⟩
instance : TZero Tryz.prog 233 [.pointer none, .slice none 0 0] := ⟨by kernel_rfl⟩
instance : TPl Tryz.prog 233 [(0, 1), (1, 1)] := ⟨by kernel_rfl⟩
instance : TFld Tryz.prog 233 0 0 0 := ⟨by kernel_rfl⟩
instance : TFld Tryz.prog 233 1 1 0 := ⟨by kernel_rfl⟩
instance : TAgg Tryz.prog 234 := ⟨by kernel_rfl⟩
instance : TSz Tryz.prog 234 2 := ⟨by kernel_rfl⟩
instance : TBytes Tryz.prog 234 32 := ⟨by kernel_rfl⟩
instance : TZero Tryz.prog 234 [.pointer none, .slice none 0 0] := ⟨by kernel_rfl⟩
instance : TPl Tryz.prog 234 [(0, 1), (1, 1)] := ⟨by kernel_rfl⟩
instance : TFld Tryz.prog 234 0 0 0 := ⟨by kernel_rfl⟩
instance : TFld Tryz.prog 234 1 1 0 := ⟨by kernel_rfl⟩
instance : TOne Tryz.prog 235 := ⟨by kernel_rfl⟩
instance : TSz Tryz.prog 235 1 := ⟨by kernel_rfl⟩
instance : TBytes Tryz.prog 235 16 := ⟨by kernel_rfl⟩
instance : TZero Tryz.prog 235 [.nilIface] := ⟨by kernel_rfl⟩
instance : TOne Tryz.prog 236 := ⟨by kernel_rfl⟩
instance : TSz Tryz.prog 236 1 := ⟨by kernel_rfl⟩
instance : TBytes Tryz.prog 236 16 := ⟨by kernel_rfl⟩
instance : TZero Tryz.prog 236 [.nilIface] := ⟨by kernel_rfl⟩
instance : TPtr Tryz.prog 242 244 := ⟨by kernel_rfl⟩
instance : TOne Tryz.prog 242 := ⟨by kernel_rfl⟩
instance : TSz Tryz.prog 242 1 := ⟨by kernel_rfl⟩
instance : TBytes Tryz.prog 242 8 := ⟨by kernel_rfl⟩
instance : TZero Tryz.prog 242 [.pointer none] := ⟨by kernel_rfl⟩
instance : TAgg Tryz.prog 243 := ⟨by kernel_rfl⟩
instance : TSz Tryz.prog 243 2 := ⟨by kernel_rfl⟩
instance : TBytes Tryz.prog 243 24 := ⟨by kernel_rfl⟩
instance : TZero Tryz.prog 243 [.string ⟨#[]⟩, .bool false] := ⟨by kernel_rfl⟩
instance : TPl Tryz.prog 243 [(0, 1), (1, 1)] := ⟨by kernel_rfl⟩
instance : TFld Tryz.prog 243 0 0 0 := ⟨by kernel_rfl⟩
instance : TFld Tryz.prog 243 1 1 0 := ⟨by kernel_rfl⟩
instance : TAgg Tryz.prog 244 := ⟨by kernel_rfl⟩
instance : TSz Tryz.prog 244 2 := ⟨by kernel_rfl⟩
instance : TBytes Tryz.prog 244 24 := ⟨by kernel_rfl⟩
instance : TZero Tryz.prog 244 [.string ⟨#[]⟩, .bool false] := ⟨by kernel_rfl⟩
instance : TPl Tryz.prog 244 [(0, 1), (1, 1)] := ⟨by kernel_rfl⟩
instance : TFld Tryz.prog 244 0 0 0 := ⟨by kernel_rfl⟩
instance : TFld Tryz.prog 244 1 1 0 := ⟨by kernel_rfl⟩
instance : TPtr Tryz.prog 253 255 := ⟨by kernel_rfl⟩
instance : TOne Tryz.prog 253 := ⟨by kernel_rfl⟩
instance : TSz Tryz.prog 253 1 := ⟨by kernel_rfl⟩
instance : TBytes Tryz.prog 253 8 := ⟨by kernel_rfl⟩
instance : TZero Tryz.prog 253 [.pointer none] := ⟨by kernel_rfl⟩
instance : TAgg Tryz.prog 254 := ⟨by kernel_rfl⟩
instance : TSz Tryz.prog 254 3 := ⟨by kernel_rfl⟩
instance : TBytes Tryz.prog 254 32 := ⟨by kernel_rfl⟩
instance : TZero Tryz.prog 254 [.string ⟨#[]⟩, .int .i64 0, .bool false] := ⟨by kernel_rfl⟩
instance : TPl Tryz.prog 254 [(0, 1), (1, 1), (2, 1)] := ⟨by kernel_rfl⟩
instance : TFld Tryz.prog 254 0 0 0 := ⟨by kernel_rfl⟩
instance : TFld Tryz.prog 254 1 1 0 := ⟨by kernel_rfl⟩
instance : TFld Tryz.prog 254 2 2 0 := ⟨by kernel_rfl⟩
instance : TAgg Tryz.prog 255 := ⟨by kernel_rfl⟩
instance : TSz Tryz.prog 255 3 := ⟨by kernel_rfl⟩
instance : TBytes Tryz.prog 255 32 := ⟨by kernel_rfl⟩
instance : TZero Tryz.prog 255 [.string ⟨#[]⟩, .int .i64 0, .bool false] := ⟨by kernel_rfl⟩
instance : TPl Tryz.prog 255 [(0, 1), (1, 1), (2, 1)] := ⟨by kernel_rfl⟩
instance : TFld Tryz.prog 255 0 0 0 := ⟨by kernel_rfl⟩
instance : TFld Tryz.prog 255 1 1 0 := ⟨by kernel_rfl⟩
instance : TFld Tryz.prog 255 2 2 0 := ⟨by kernel_rfl⟩
instance : TPtr Tryz.prog 260 224 := ⟨by kernel_rfl⟩
instance : TOne Tryz.prog 260 := ⟨by kernel_rfl⟩
instance : TSz Tryz.prog 260 1 := ⟨by kernel_rfl⟩
instance : TBytes Tryz.prog 260 8 := ⟨by kernel_rfl⟩
instance : TZero Tryz.prog 260 [.pointer none] := ⟨by kernel_rfl⟩
instance : TSlice Tryz.prog 263 265 := ⟨by kernel_rfl⟩
instance : TOne Tryz.prog 263 := ⟨by kernel_rfl⟩
instance : TSz Tryz.prog 263 1 := ⟨by kernel_rfl⟩
instance : TBytes Tryz.prog 263 24 := ⟨by kernel_rfl⟩
instance : TZero Tryz.prog 263 [.slice none 0 0] := ⟨by kernel_rfl⟩
instance : TAgg Tryz.prog 264 := ⟨by kernel_rfl⟩
instance : TSz Tryz.prog 264 2 := ⟨by kernel_rfl⟩
instance : TBytes Tryz.prog 264 16 := ⟨by kernel_rfl⟩
instance : TZero Tryz.prog 264 [.int .i64 0, .int .i64 0] := ⟨by kernel_rfl⟩
instance : TPl Tryz.prog 264 [(0, 1), (1, 1)] := ⟨by kernel_rfl⟩
instance : TFld Tryz.prog 264 0 0 0 := ⟨by kernel_rfl⟩
instance : TFld Tryz.prog 264 1 1 0 := ⟨by kernel_rfl⟩
instance : TAgg Tryz.prog 265 := ⟨by kernel_rfl⟩
instance : TSz Tryz.prog 265 2 := ⟨by kernel_rfl⟩
instance : TBytes Tryz.prog 265 16 := ⟨by kernel_rfl⟩
instance : TZero Tryz.prog 265 [.int .i64 0, .int .i64 0] := ⟨by kernel_rfl⟩
instance : TPl Tryz.prog 265 [(0, 1), (1, 1)] := ⟨by kernel_rfl⟩
instance : TFld Tryz.prog 265 0 0 0 := ⟨by kernel_rfl⟩
instance : TFld Tryz.prog 265 1 1 0 := ⟨by kernel_rfl⟩
instance : TPtr Tryz.prog 267 279 := ⟨by kernel_rfl⟩
instance : TOne Tryz.prog 267 := ⟨by kernel_rfl⟩
instance : TSz Tryz.prog 267 1 := ⟨by kernel_rfl⟩
instance : TBytes Tryz.prog 267 8 := ⟨by kernel_rfl⟩
instance : TZero Tryz.prog 267 [.pointer none] := ⟨by kernel_rfl⟩
instance : TPtr Tryz.prog 269 5 := ⟨by kernel_rfl⟩
instance : TOne Tryz.prog 269 := ⟨by kernel_rfl⟩
instance : TSz Tryz.prog 269 1 := ⟨by kernel_rfl⟩
instance : TBytes Tryz.prog 269 8 := ⟨by kernel_rfl⟩
instance : TZero Tryz.prog 269 [.pointer none] := ⟨by kernel_rfl⟩
instance : TSlice Tryz.prog 276 282 := ⟨by kernel_rfl⟩
instance : TOne Tryz.prog 276 := ⟨by kernel_rfl⟩
instance : TSz Tryz.prog 276 1 := ⟨by kernel_rfl⟩
instance : TBytes Tryz.prog 276 24 := ⟨by kernel_rfl⟩
instance : TZero Tryz.prog 276 [.slice none 0 0] := ⟨by kernel_rfl⟩
instance : TSlice Tryz.prog 277 285 := ⟨by kernel_rfl⟩
instance : TOne Tryz.prog 277 := ⟨by kernel_rfl⟩
instance : TSz Tryz.prog 277 1 := ⟨by kernel_rfl⟩
instance : TBytes Tryz.prog 277 24 := ⟨by kernel_rfl⟩
instance : TZero Tryz.prog 277 [.slice none 0 0] := ⟨by kernel_rfl⟩
instance : TAgg Tryz.prog 278 := ⟨by kernel_rfl⟩
instance : TSz Tryz.prog 278 3 := ⟨by kernel_rfl⟩
instance : TBytes Tryz.prog 278 56 := ⟨by kernel_rfl⟩
instance : TZero Tryz.prog 278 [.slice none 0 0, .slice none 0 0, .int .i64 0] := ⟨by kernel_rfl⟩
instance : TPl Tryz.prog 278 [(0, 1), (1, 1), (2, 1)] := ⟨by kernel_rfl⟩
instance : TFld Tryz.prog 278 0 0 0 := ⟨by kernel_rfl⟩
instance : TFld Tryz.prog 278 1 1 0 := ⟨by kernel_rfl⟩
instance : TFld Tryz.prog 278 2 2 0 := ⟨by kernel_rfl⟩
instance : TAgg Tryz.prog 279 := ⟨by kernel_rfl⟩
instance : TSz Tryz.prog 279 3 := ⟨by kernel_rfl⟩
instance : TBytes Tryz.prog 279 56 := ⟨by kernel_rfl⟩
instance : TZero Tryz.prog 279 [.slice none 0 0, .slice none 0 0, .int .i64 0] := ⟨by kernel_rfl⟩
instance : TPl Tryz.prog 279 [(0, 1), (1, 1), (2, 1)] := ⟨by kernel_rfl⟩
instance : TFld Tryz.prog 279 0 0 0 := ⟨by kernel_rfl⟩
instance : TFld Tryz.prog 279 1 1 0 := ⟨by kernel_rfl⟩
instance : TFld Tryz.prog 279 2 2 0 := ⟨by kernel_rfl⟩
instance : TInt Tryz.prog 280 .u16 := ⟨by kernel_rfl⟩
instance : TOne Tryz.prog 280 := ⟨by kernel_rfl⟩
instance : TSz Tryz.prog 280 1 := ⟨by kernel_rfl⟩
instance : TBytes Tryz.prog 280 2 := ⟨by kernel_rfl⟩
instance : TZero Tryz.prog 280 [.int .u16 0] := ⟨by kernel_rfl⟩
instance : TAgg Tryz.prog 281 := ⟨by kernel_rfl⟩
instance : TSz Tryz.prog 281 3 := ⟨by kernel_rfl⟩
instance : TBytes Tryz.prog 281 6 := ⟨by kernel_rfl⟩
instance : TZero Tryz.prog 281 [.int .u16 0, .int .u16 0, .int .u16 0] := ⟨by kernel_rfl⟩
instance : TPl Tryz.prog 281 [(0, 1), (1, 1), (2, 1)] := ⟨by kernel_rfl⟩
instance : TFld Tryz.prog 281 0 0 0 := ⟨by kernel_rfl⟩
instance : TFld Tryz.prog 281 1 1 0 := ⟨by kernel_rfl⟩
instance : TFld Tryz.prog 281 2 2 0 := ⟨by kernel_rfl⟩
instance : TAgg Tryz.prog 282 := ⟨by kernel_rfl⟩
instance : TSz Tryz.prog 282 3 := ⟨by kernel_rfl⟩
instance : TBytes Tryz.prog 282 6 := ⟨by kernel_rfl⟩
instance : TZero Tryz.prog 282 [.int .u16 0, .int .u16 0, .int .u16 0] := ⟨by kernel_rfl⟩
instance : TPl Tryz.prog 282 [(0, 1), (1, 1), (2, 1)] := ⟨by kernel_rfl⟩
instance : TFld Tryz.prog 282 0 0 0 := ⟨by kernel_rfl⟩
instance : TFld Tryz.prog 282 1 1 0 := ⟨by kernel_rfl⟩
instance : TFld Tryz.prog 282 2 2 0 := ⟨by kernel_rfl⟩
instance : TAgg Tryz.prog 284 := ⟨by kernel_rfl⟩
instance : TSz Tryz.prog 284 3 := ⟨by kernel_rfl⟩
instance : TBytes Tryz.prog 284 12 := ⟨by kernel_rfl⟩
instance : TZero Tryz.prog 284 [.int .u32 0, .int .u32 0, .int .u32 0] := ⟨by kernel_rfl⟩
instance : TPl Tryz.prog 284 [(0, 1), (1, 1), (2, 1)] := ⟨by kernel_rfl⟩
instance : TFld Tryz.prog 284 0 0 0 := ⟨by kernel_rfl⟩
instance : TFld Tryz.prog 284 1 1 0 := ⟨by kernel_rfl⟩
instance : TFld Tryz.prog 284 2 2 0 := ⟨by kernel_rfl⟩
instance : TAgg Tryz.prog 285 := ⟨by kernel_rfl⟩
instance : TSz Tryz.prog 285 3 := ⟨by kernel_rfl⟩
instance : TBytes Tryz.prog 285 12 := ⟨by kernel_rfl⟩
instance : TZero Tryz.prog 285 [.int .u32 0, .int .u32 0, .int .u32 0] := ⟨by kernel_rfl⟩
instance : TPl Tryz.prog 285 [(0, 1), (1, 1), (2, 1)] := ⟨by kernel_rfl⟩
instance : TFld Tryz.prog 285 0 0 0 := ⟨by kernel_rfl⟩
instance : TFld Tryz.prog 285 1 1 0 := ⟨by kernel_rfl⟩
instance : TFld Tryz.prog 285 2 2 0 := ⟨by kernel_rfl⟩
instance : TArr Tryz.prog 287 24 5 := ⟨by kernel_rfl⟩
instance : TAgg Tryz.prog 287 := ⟨by kernel_rfl⟩
instance : TSz Tryz.prog 287 24 := ⟨by kernel_rfl⟩
instance : TBytes Tryz.prog 287 24 := ⟨by kernel_rfl⟩
instance : TZero Tryz.prog 287 [.int .u8 0, .int .u8 0, .int .u8 0, .int .u8 0, .int .u8 0, .int .u8 0, .int .u8 0, .int .u8 0, .int .u8 0, .int .u8 0, .int .u8 0, .int .u8 0, .int .u8 0, .int .u8 0, .int .u8 0, .int .u8 0, .int .u8 0, .int .u8 0, .int .u8 0, .int .u8 0, .int .u8 0, .int .u8 0, .int .u8 0, .int .u8 0] := ⟨by kernel_rfl⟩
instance : TOne Tryz.prog 291 := ⟨by kernel_rfl⟩
instance : TSz Tryz.prog 291 1 := ⟨by kernel_rfl⟩
instance : TBytes Tryz.prog 291 8 := ⟨by kernel_rfl⟩
instance : TZero Tryz.prog 291 [.pointer none] := ⟨by kernel_rfl⟩
instance : TPtr Tryz.prog 298 282 := ⟨by kernel_rfl⟩
instance : TOne Tryz.prog 298 := ⟨by kernel_rfl⟩
instance : TSz Tryz.prog 298 1 := ⟨by kernel_rfl⟩
instance : TBytes Tryz.prog 298 8 := ⟨by kernel_rfl⟩
instance : TZero Tryz.prog 298 [.pointer none] := ⟨by kernel_rfl⟩
instance : TPtr Tryz.prog 299 285 := ⟨by kernel_rfl⟩
instance : TOne Tryz.prog 299 := ⟨by kernel_rfl⟩
instance : TSz Tryz.prog 299 1 := ⟨by kernel_rfl⟩
instance : TBytes Tryz.prog 299 8 := ⟨by kernel_rfl⟩
instance : TZero Tryz.prog 299 [.pointer none] := ⟨by kernel_rfl⟩
instance : TArr Tryz.prog 301 20 200 := ⟨by kernel_rfl⟩
instance : TAgg Tryz.prog 301 := ⟨by kernel_rfl⟩
instance : TSz Tryz.prog 301 20 := ⟨by kernel_rfl⟩
instance : TBytes Tryz.prog 301 160 := ⟨by kernel_rfl⟩
instance : TZero Tryz.prog 301 [.int .u64 0, .int .u64 0, .int .u64 0, .int .u64 0, .int .u64 0, .int .u64 0, .int .u64 0, .int .u64 0, .int .u64 0, .int .u64 0, .int .u64 0, .int .u64 0, .int .u64 0, .int .u64 0, .int .u64 0, .int .u64 0, .int .u64 0, .int .u64 0, .int .u64 0, .int .u64 0] := ⟨by kernel_rfl⟩
instance : TArr Tryz.prog 302 65 5 := ⟨by kernel_rfl⟩
instance : TAgg Tryz.prog 302 := ⟨by kernel_rfl⟩
instance : TSz Tryz.prog 302 65 := ⟨by kernel_rfl⟩
instance : TBytes Tryz.prog 302 65 := ⟨by kernel_rfl⟩
instance : TZero Tryz.prog 302 [.int .u8 0, .int .u8 0, .int .u8 0, .int .u8 0, .int .u8 0, .int .u8 0, .int .u8 0, .int .u8 0, .int .u8 0, .int .u8 0, .int .u8 0, .int .u8 0, .int .u8 0, .int .u8 0, .int .u8 0, .int .u8 0, .int .u8 0, .int .u8 0, .int .u8 0, .int .u8 0, .int .u8 0, .int .u8 0, .int .u8 0, .int .u8 0, .int .u8 0, .int .u8 0, .int .u8 0, .int .u8 0, .int .u8 0, .int .u8 0, .int .u8 0, .int .u8 0, .int .u8 0, .int .u8 0, .int .u8 0, .int .u8 0, .int .u8 0, .int .u8 0, .int .u8 0, .int .u8 0, .int .u8 0, .int .u8 0, .int .u8 0, .int .u8 0, .int .u8 0, .int .u8 0, .int .u8 0, .int .u8 0, .int .u8 0, .int .u8 0, .int .u8 0, .int .u8 0, .int .u8 0, .int .u8 0, .int .u8 0, .int .u8 0, .int .u8 0, .int .u8 0, .int .u8 0, .int .u8 0, .int .u8 0, .int .u8 0, .int .u8 0, .int .u8 0, .int .u8 0] := ⟨by kernel_rfl⟩
instance : TArr Tryz.prog 314 32 5 := ⟨by kernel_rfl⟩
instance : TAgg Tryz.prog 314 := ⟨by kernel_rfl⟩
instance : TSz Tryz.prog 314 32 := ⟨by kernel_rfl⟩
instance : TBytes Tryz.prog 314 32 := ⟨by kernel_rfl⟩
instance : TZero Tryz.prog 314 [.int .u8 0, .int .u8 0, .int .u8 0, .int .u8 0, .int .u8 0, .int .u8 0, .int .u8 0, .int .u8 0, .int .u8 0, .int .u8 0, .int .u8 0, .int .u8 0, .int .u8 0, .int .u8 0, .int .u8 0, .int .u8 0, .int .u8 0, .int .u8 0, .int .u8 0, .int .u8 0, .int .u8 0, .int .u8 0, .int .u8 0, .int .u8 0, .int .u8 0, .int .u8 0, .int .u8 0, .int .u8 0, .int .u8 0, .int .u8 0, .int .u8 0, .int .u8 0] := ⟨by kernel_rfl⟩
instance : TArr Tryz.prog 315 64 5 := ⟨by kernel_rfl⟩
instance : TAgg Tryz.prog 315 := ⟨by kernel_rfl⟩
instance : TSz Tryz.prog 315 64 := ⟨by kernel_rfl⟩
instance : TBytes Tryz.prog 315 64 := ⟨by kernel_rfl⟩
instance : TZero Tryz.prog 315 [.int .u8 0, .int .u8 0, .int .u8 0, .int .u8 0, .int .u8 0, .int .u8 0, .int .u8 0, .int .u8 0, .int .u8 0, .int .u8 0, .int .u8 0, .int .u8 0, .int .u8 0, .int .u8 0, .int .u8 0, .int .u8 0, .int .u8 0, .int .u8 0, .int .u8 0, .int .u8 0, .int .u8 0, .int .u8 0, .int .u8 0, .int .u8 0, .int .u8 0, .int .u8 0, .int .u8 0, .int .u8 0, .int .u8 0, .int .u8 0, .int .u8 0, .int .u8 0, .int .u8 0, .int .u8 0, .int .u8 0, .int .u8 0, .int .u8 0, .int .u8 0, .int .u8 0, .int .u8 0, .int .u8 0, .int .u8 0, .int .u8 0, .int .u8 0, .int .u8 0, .int .u8 0, .int .u8 0, .int .u8 0, .int .u8 0, .int .u8 0, .int .u8 0, .int .u8 0, .int .u8 0, .int .u8 0, .int .u8 0, .int .u8 0, .int .u8 0, .int .u8 0, .int .u8 0, .int .u8 0, .int .u8 0, .int .u8 0, .int .u8 0, .int .u8 0] := ⟨by kernel_rfl⟩
instance : TAgg Tryz.prog 316 := ⟨by kernel_rfl⟩
instance : TSz Tryz.prog 316 2 := ⟨by kernel_rfl⟩
instance : TBytes Tryz.prog 316 2 := ⟨by kernel_rfl⟩
instance : TZero Tryz.prog 316 [.int .u8 0, .int .u8 0] := ⟨by kernel_rfl⟩
instance : TPl Tryz.prog 316 [(0, 1), (1, 1)] := ⟨by kernel_rfl⟩
instance : TFld Tryz.prog 316 0 0 0 := ⟨by kernel_rfl⟩
instance : TFld Tryz.prog 316 1 1 0 := ⟨by kernel_rfl⟩
instance : TAgg Tryz.prog 317 := ⟨by kernel_rfl⟩
instance : TSz Tryz.prog 317 2 := ⟨by kernel_rfl⟩
instance : TBytes Tryz.prog 317 2 := ⟨by kernel_rfl⟩
instance : TZero Tryz.prog 317 [.int .u8 0, .int .u8 0] := ⟨by kernel_rfl⟩
instance : TPl Tryz.prog 317 [(0, 1), (1, 1)] := ⟨by kernel_rfl⟩
instance : TFld Tryz.prog 317 0 0 0 := ⟨by kernel_rfl⟩
instance : TFld Tryz.prog 317 1 1 0 := ⟨by kernel_rfl⟩
instance : TArr Tryz.prog 318 16 317 := ⟨by kernel_rfl⟩
instance : TAgg Tryz.prog 318 := ⟨by kernel_rfl⟩
instance : TSz Tryz.prog 318 32 := ⟨by kernel_rfl⟩
instance : TBytes Tryz.prog 318 32 := ⟨by kernel_rfl⟩
instance : TZero Tryz.prog 318 [.int .u8 0, .int .u8 0, .int .u8 0, .int .u8 0, .int .u8 0, .int .u8 0, .int .u8 0, .int .u8 0, .int .u8 0, .int .u8 0, .int .u8 0, .int .u8 0, .int .u8 0, .int .u8 0, .int .u8 0, .int .u8 0, .int .u8 0, .int .u8 0, .int .u8 0, .int .u8 0, .int .u8 0, .int .u8 0, .int .u8 0, .int .u8 0, .int .u8 0, .int .u8 0, .int .u8 0, .int .u8 0, .int .u8 0, .int .u8 0, .int .u8 0, .int .u8 0] := ⟨by kernel_rfl⟩
instance : TAgg Tryz.prog 322 := ⟨by kernel_rfl⟩
instance : TSz Tryz.prog 322 4 := ⟨by kernel_rfl⟩
instance : TBytes Tryz.prog 322 40 := ⟨by kernel_rfl⟩
instance : TZero Tryz.prog 322 [.pointer none, .pointer none, .pointer none, .string ⟨#[]⟩] := ⟨by kernel_rfl⟩
instance : TPl Tryz.prog 322 [(0, 1), (1, 1), (2, 1), (3, 1)] := ⟨by kernel_rfl⟩
instance : TFld Tryz.prog 322 0 0 0 := ⟨by kernel_rfl⟩
instance : TFld Tryz.prog 322 1 1 0 := ⟨by kernel_rfl⟩
instance : TFld Tryz.prog 322 2 2 0 := ⟨by kernel_rfl⟩
instance : TFld Tryz.prog 322 3 3 0 := ⟨by kernel_rfl⟩
instance : TArr Tryz.prog 324 0 16 := ⟨by kernel_rfl⟩
instance : TAgg Tryz.prog 324 := ⟨by kernel_rfl⟩
instance : TSz Tryz.prog 324 0 := ⟨by kernel_rfl⟩
instance : TBytes Tryz.prog 324 0 := ⟨by kernel_rfl⟩
instance : TZero Tryz.prog 324 [] := ⟨by kernel_rfl⟩
instance : TAgg Tryz.prog 325 := ⟨by kernel_rfl⟩
instance : TSz Tryz.prog 325 0 := ⟨by kernel_rfl⟩
instance : TBytes Tryz.prog 325 0 := ⟨by kernel_rfl⟩
instance : TZero Tryz.prog 325 [] := ⟨by kernel_rfl⟩
instance : TPl Tryz.prog 325 [(0, 0)] := ⟨by kernel_rfl⟩
instance : TAgg Tryz.prog 332 := ⟨by kernel_rfl⟩
instance : TSz Tryz.prog 332 11 := ⟨by kernel_rfl⟩
instance : TBytes Tryz.prog 332 48 := ⟨by kernel_rfl⟩
instance : TZero Tryz.prog 332 [.int .u64 0, .int .u64 0, .int .u32 0, .int .u8 0, .int .u8 0, .int .u8 0, .int .u8 0, .nilFunc, .pointer none, .int .i32 0, .int .i32 0] := ⟨by kernel_rfl⟩
instance : TPl Tryz.prog 332 [(0, 1), (1, 1), (2, 1), (3, 1), (4, 1), (5, 1), (6, 1), (7, 1), (8, 1), (9, 1), (10, 1)] := ⟨by kernel_rfl⟩
instance : TFld Tryz.prog 332 0 0 0 := ⟨by kernel_rfl⟩
instance : TFld Tryz.prog 332 1 1 0 := ⟨by kernel_rfl⟩
instance : TFld Tryz.prog 332 2 2 0 := ⟨by kernel_rfl⟩
instance : TFld Tryz.prog 332 3 3 0 := ⟨by kernel_rfl⟩
instance : TFld Tryz.prog 332 4 4 0 := ⟨by kernel_rfl⟩
instance : TFld Tryz.prog 332 5 5 0 := ⟨by kernel_rfl⟩
instance : TFld Tryz.prog 332 6 6 0 := ⟨by kernel_rfl⟩
instance : TFld Tryz.prog 332 7 7 0 := ⟨by kernel_rfl⟩
instance : TFld Tryz.prog 332 8 8 0 := ⟨by kernel_rfl⟩
instance : TFld Tryz.prog 332 9 9 0 := ⟨by kernel_rfl⟩
instance : TFld Tryz.prog 332 10 10 0 := ⟨by kernel_rfl⟩
instance : Fun Tryz.prog 3 := ⟨by kernel_rfl⟩
instance : Fun Tryz.prog 4 := ⟨by kernel_rfl⟩
instance : Fun Tryz.prog 5 := ⟨by kernel_rfl⟩
instance : Fun Tryz.prog 6 := ⟨by kernel_rfl⟩
instance : Fun Tryz.prog 7 := ⟨by kernel_rfl⟩
instance : Fun Tryz.prog 8 := ⟨by kernel_rfl⟩
instance : Fun Tryz.prog 9 := ⟨by kernel_rfl⟩
instance : Fun Tryz.prog 10 := ⟨by kernel_rfl⟩
instance : Fun Tryz.prog 11 := ⟨by kernel_rfl⟩
instance : Fun Tryz.prog 12 := ⟨by kernel_rfl⟩
instance : Fun Tryz.prog 13 := ⟨by kernel_rfl⟩
instance : Fun Tryz.prog 14 := ⟨by kernel_rfl⟩
instance : Fun Tryz.prog 15 := ⟨by kernel_rfl⟩
instance : Fun Tryz.prog 16 := ⟨by kernel_rfl⟩
instance : Fun Tryz.prog 17 := ⟨by kernel_rfl⟩
instance : Fun Tryz.prog 18 := ⟨by kernel_rfl⟩
instance : Fun Tryz.prog 19 := ⟨by kernel_rfl⟩
instance : Fun Tryz.prog 20 := ⟨by kernel_rfl⟩
instance : Fun Tryz.prog 21 := ⟨by kernel_rfl⟩
instance : Fun Tryz.prog 22 := ⟨by kernel_rfl⟩
instance : Fun Tryz.prog 23 := ⟨by kernel_rfl⟩
instance : Fun Tryz.prog 24 := ⟨by kernel_rfl⟩
instance : Fun Tryz.prog 25 := ⟨by kernel_rfl⟩
instance : Fun Tryz.prog 26 := ⟨by kernel_rfl⟩
instance : Fun Tryz.prog 27 := ⟨by kernel_rfl⟩
instance : Fun Tryz.prog 28 := ⟨by kernel_rfl⟩
instance : Fun Tryz.prog 29 := ⟨by kernel_rfl⟩
instance : Fun Tryz.prog 30 := ⟨by kernel_rfl⟩
instance : Fun Tryz.prog 31 := ⟨by kernel_rfl⟩
instance : Fun Tryz.prog 32 := ⟨by kernel_rfl⟩
instance : Fun Tryz.prog 33 := ⟨by kernel_rfl⟩
instance : Fun Tryz.prog 34 := ⟨by kernel_rfl⟩
instance : Fun Tryz.prog 35 := ⟨by kernel_rfl⟩
instance : Fun Tryz.prog 36 := ⟨by kernel_rfl⟩
instance : Fun Tryz.prog 37 := ⟨by kernel_rfl⟩
instance : Fun Tryz.prog 38 := ⟨by kernel_rfl⟩
instance : Fun Tryz.prog 39 := ⟨by kernel_rfl⟩
instance : Fun Tryz.prog 40 := ⟨by kernel_rfl⟩
instance : Fun Tryz.prog 41 := ⟨by kernel_rfl⟩
instance : Fun Tryz.prog 42 := ⟨by kernel_rfl⟩
instance : Fun Tryz.prog 43 := ⟨by kernel_rfl⟩
instance : Fun Tryz.prog 44 := ⟨by kernel_rfl⟩
instance : Fun Tryz.prog 45 := ⟨by kernel_rfl⟩
instance : Fun Tryz.prog 46 := ⟨by kernel_rfl⟩
instance : Fun Tryz.prog 47 := ⟨by kernel_rfl⟩
instance : Fun Tryz.prog 48 := ⟨by kernel_rfl⟩
instance : Fun Tryz.prog 49 := ⟨by kernel_rfl⟩
instance : Fun Tryz.prog 50 := ⟨by kernel_rfl⟩
instance : Fun Tryz.prog 51 := ⟨by kernel_rfl⟩
instance : Fun Tryz.prog 52 := ⟨by kernel_rfl⟩
instance : Fun Tryz.prog 53 := ⟨by kernel_rfl⟩
instance : Fun Tryz.prog 54 := ⟨by kernel_rfl⟩
instance : Fun Tryz.prog 55 := ⟨by kernel_rfl⟩
instance : Fun Tryz.prog 56 := ⟨by kernel_rfl⟩
instance : Fun Tryz.prog 57 := ⟨by kernel_rfl⟩
instance : Fun Tryz.prog 58 := ⟨by kernel_rfl⟩
instance : Fun Tryz.prog 59 := ⟨by kernel_rfl⟩
instance : Fun Tryz.prog 60 := ⟨by kernel_rfl⟩
instance : Fun Tryz.prog 61 := ⟨by kernel_rfl⟩
instance : Fun Tryz.prog 62 := ⟨by kernel_rfl⟩
instance : Fun Tryz.prog 63 := ⟨by kernel_rfl⟩
instance : Fun Tryz.prog 64 := ⟨by kernel_rfl⟩
instance : Fun Tryz.prog 65 := ⟨by kernel_rfl⟩
instance : Fun Tryz.prog 66 := ⟨by kernel_rfl⟩
instance : Fun Tryz.prog 67 := ⟨by kernel_rfl⟩
instance : Fun Tryz.prog 68 := ⟨by kernel_rfl⟩
instance : Fun Tryz.prog 69 := ⟨by kernel_rfl⟩
instance : Fun Tryz.prog 70 := ⟨by kernel_rfl⟩
instance : Fun Tryz.prog 71 := ⟨by kernel_rfl⟩
instance : Fun Tryz.prog 72 := ⟨by kernel_rfl⟩
instance : Fun Tryz.prog 73 := ⟨by kernel_rfl⟩
instance : Fun Tryz.prog 74 := ⟨by kernel_rfl⟩
instance : Fun Tryz.prog 75 := ⟨by kernel_rfl⟩
instance : Fun Tryz.prog 76 := ⟨by kernel_rfl⟩
instance : Fun Tryz.prog 77 := ⟨by kernel_rfl⟩
instance : Fun Tryz.prog 78 := ⟨by kernel_rfl⟩
instance : Fun Tryz.prog 79 := ⟨by kernel_rfl⟩
instance : Fun Tryz.prog 80 := ⟨by kernel_rfl⟩
instance : Fun Tryz.prog 81 := ⟨by kernel_rfl⟩
instance : Fun Tryz.prog 82 := ⟨by kernel_rfl⟩
instance : Fun Tryz.prog 83 := ⟨by kernel_rfl⟩
instance : Fun Tryz.prog 84 := ⟨by kernel_rfl⟩
instance : Fun Tryz.prog 85 := ⟨by kernel_rfl⟩
instance : Fun Tryz.prog 86 := ⟨by kernel_rfl⟩
instance : Fun Tryz.prog 87 := ⟨by kernel_rfl⟩
instance : Fun Tryz.prog 88 := ⟨by kernel_rfl⟩
instance : Fun Tryz.prog 89 := ⟨by kernel_rfl⟩
instance : Fun Tryz.prog 90 := ⟨by kernel_rfl⟩
instance : Fun Tryz.prog 91 := ⟨by kernel_rfl⟩
instance : Fun Tryz.prog 92 := ⟨by kernel_rfl⟩
instance : Fun Tryz.prog 93 := ⟨by kernel_rfl⟩
instance : Fun Tryz.prog 94 := ⟨by kernel_rfl⟩
instance : Fun Tryz.prog 95 := ⟨by kernel_rfl⟩
instance : Fun Tryz.prog 96 := ⟨by kernel_rfl⟩
instance : Fun Tryz.prog 97 := ⟨by kernel_rfl⟩
instance : Fun Tryz.prog 98 := ⟨by kernel_rfl⟩
instance : Fun Tryz.prog 99 := ⟨by kernel_rfl⟩
instance : Fun Tryz.prog 100 := ⟨by kernel_rfl⟩
instance : Fun Tryz.prog 101 := ⟨by kernel_rfl⟩
instance : Fun Tryz.prog 102 := ⟨by kernel_rfl⟩
instance : Fun Tryz.prog 103 := ⟨by kernel_rfl⟩
instance : Fun Tryz.prog 104 := ⟨by kernel_rfl⟩
instance : Fun Tryz.prog 105 := ⟨by kernel_rfl⟩
instance : Fun Tryz.prog 106 := ⟨by kernel_rfl⟩
instance : Fun Tryz.prog 107 := ⟨by kernel_rfl⟩
instance : Fun Tryz.prog 108 := ⟨by kernel_rfl⟩
instance : Fun Tryz.prog 109 := ⟨by kernel_rfl⟩
instance : Fun Tryz.prog 110 := ⟨by kernel_rfl⟩
instance : Fun Tryz.prog 111 := ⟨by kernel_rfl⟩
instance : Fun Tryz.prog 112 := ⟨by kernel_rfl⟩
instance : Fun Tryz.prog 113 := ⟨by kernel_rfl⟩
instance : Fun Tryz.prog 114 := ⟨by kernel_rfl⟩
instance : Fun Tryz.prog 115 := ⟨by kernel_rfl⟩
instance : Fun Tryz.prog 116 := ⟨by kernel_rfl⟩
instance : Fun Tryz.prog 117 := ⟨by kernel_rfl⟩
instance : Fun Tryz.prog 118 := ⟨by kernel_rfl⟩
instance : Fun Tryz.prog 119 := ⟨by kernel_rfl⟩
instance : Fun Tryz.prog 120 := ⟨by kernel_rfl⟩
instance : Fun Tryz.prog 121 := ⟨by kernel_rfl⟩
instance : Fun Tryz.prog 122 := ⟨by kernel_rfl⟩
instance : Fun Tryz.prog 123 := ⟨by kernel_rfl⟩
instance : Fun Tryz.prog 124 := ⟨by kernel_rfl⟩
instance : Fun Tryz.prog 125 := ⟨by kernel_rfl⟩
instance : Fun Tryz.prog 126 := ⟨by kernel_rfl⟩
instance : Fun Tryz.prog 127 := ⟨by kernel_rfl⟩
instance : Fun Tryz.prog 128 := ⟨by kernel_rfl⟩
instance : Fun Tryz.prog 129 := ⟨by kernel_rfl⟩
instance : Fun Tryz.prog 130 := ⟨by kernel_rfl⟩
instance : Fun Tryz.prog 131 := ⟨by kernel_rfl⟩
instance : Fun Tryz.prog 132 := ⟨by kernel_rfl⟩
instance : Fun Tryz.prog 133 := ⟨by kernel_rfl⟩
instance : Fun Tryz.prog 134 := ⟨by kernel_rfl⟩
instance : Fun Tryz.prog 135 := ⟨by kernel_rfl⟩
instance : Fun Tryz.prog 136 := ⟨by kernel_rfl⟩
instance : Fun Tryz.prog 137 := ⟨by kernel_rfl⟩
instance : Fun Tryz.prog 138 := ⟨by kernel_rfl⟩
instance : Fun Tryz.prog 139 := ⟨by kernel_rfl⟩
instance : Fun Tryz.prog 140 := ⟨by kernel_rfl⟩
instance : Fun Tryz.prog 141 := ⟨by kernel_rfl⟩
instance : Fun Tryz.prog 142 := ⟨by kernel_rfl⟩
instance : Fun Tryz.prog 143 := ⟨by kernel_rfl⟩
instance : Fun Tryz.prog 144 := ⟨by kernel_rfl⟩
instance : Fun Tryz.prog 145 := ⟨by kernel_rfl⟩
instance : Fun Tryz.prog 146 := ⟨by kernel_rfl⟩
instance : Fun Tryz.prog 147 := ⟨by kernel_rfl⟩
instance : Fun Tryz.prog 148 := ⟨by kernel_rfl⟩
instance : Fun Tryz.prog 149 := ⟨by kernel_rfl⟩
instance : Fun Tryz.prog 150 := ⟨by kernel_rfl⟩
instance : Fun Tryz.prog 151 := ⟨by kernel_rfl⟩
instance : Fun Tryz.prog 152 := ⟨by kernel_rfl⟩
instance : Fun Tryz.prog 153 := ⟨by kernel_rfl⟩
instance : Fun Tryz.prog 154 := ⟨by kernel_rfl⟩
instance : Fun Tryz.prog 155 := ⟨by kernel_rfl⟩
instance : Fun Tryz.prog 156 := ⟨by kernel_rfl⟩
instance : Fun Tryz.prog 157 := ⟨by kernel_rfl⟩
instance : Fun Tryz.prog 158 := ⟨by kernel_rfl⟩
instance : Fun Tryz.prog 159 := ⟨by kernel_rfl⟩
instance : Fun Tryz.prog 160 := ⟨by kernel_rfl⟩
instance : Fun Tryz.prog 161 := ⟨by kernel_rfl⟩
instance : Fun Tryz.prog 162 := ⟨by kernel_rfl⟩
instance : Fun Tryz.prog 163 := ⟨by kernel_rfl⟩
instance : Fun Tryz.prog 164 := ⟨by kernel_rfl⟩
instance : Fun Tryz.prog 165 := ⟨by kernel_rfl⟩
instance : Fun Tryz.prog 166 := ⟨by kernel_rfl⟩
instance : Fun Tryz.prog 167 := ⟨by kernel_rfl⟩
instance : Fun Tryz.prog 168 := ⟨by kernel_rfl⟩
instance : Fun Tryz.prog 169 := ⟨by kernel_rfl⟩
instance : Fun Tryz.prog 170 := ⟨by kernel_rfl⟩
instance : Fun Tryz.prog 171 := ⟨by kernel_rfl⟩
instance : Fun Tryz.prog 172 := ⟨by kernel_rfl⟩
instance : Fun Tryz.prog 173 := ⟨by kernel_rfl⟩
instance : Fun Tryz.prog 174 := ⟨by kernel_rfl⟩
instance : Fun Tryz.prog 175 := ⟨by kernel_rfl⟩
instance : Fun Tryz.prog 176 := ⟨by kernel_rfl⟩
instance : Fun Tryz.prog 177 := ⟨by kernel_rfl⟩
instance : Fun Tryz.prog 178 := ⟨by kernel_rfl⟩
instance : Fun Tryz.prog 179 := ⟨by kernel_rfl⟩
instance : Fun Tryz.prog 180 := ⟨by kernel_rfl⟩
instance : Fun Tryz.prog 181 := ⟨by kernel_rfl⟩
instance : Fun Tryz.prog 182 := ⟨by kernel_rfl⟩
instance : Fun Tryz.prog 183 := ⟨by kernel_rfl⟩
instance : Fun Tryz.prog 184 := ⟨by kernel_rfl⟩
instance : Fun Tryz.prog 185 := ⟨by kernel_rfl⟩
instance : Fun Tryz.prog 186 := ⟨by kernel_rfl⟩
instance : Fun Tryz.prog 187 := ⟨by kernel_rfl⟩
instance : Fun Tryz.prog 188 := ⟨by kernel_rfl⟩
instance : Fun Tryz.prog 189 := ⟨by kernel_rfl⟩
instance : Fun Tryz.prog 190 := ⟨by kernel_rfl⟩
instance : Fun Tryz.prog 191 := ⟨by kernel_rfl⟩
instance : Fun Tryz.prog 192 := ⟨by kernel_rfl⟩
instance : Fun Tryz.prog 193 := ⟨by kernel_rfl⟩
instance : Fun Tryz.prog 194 := ⟨by kernel_rfl⟩
instance : Fun Tryz.prog 195 := ⟨by kernel_rfl⟩
instance : Fun Tryz.prog 196 := ⟨by kernel_rfl⟩
instance : Fun Tryz.prog 197 := ⟨by kernel_rfl⟩
instance : Fun Tryz.prog 198 := ⟨by kernel_rfl⟩
instance : Fun Tryz.prog 199 := ⟨by kernel_rfl⟩
instance : Fun Tryz.prog 200 := ⟨by kernel_rfl⟩
instance : Fun Tryz.prog 201 := ⟨by kernel_rfl⟩
instance : Fun Tryz.prog 202 := ⟨by kernel_rfl⟩
instance : Fun Tryz.prog 203 := ⟨by kernel_rfl⟩
instance : Fun Tryz.prog 204 := ⟨by kernel_rfl⟩
instance : Fun Tryz.prog 205 := ⟨by kernel_rfl⟩
instance : Fun Tryz.prog 206 := ⟨by kernel_rfl⟩
instance : Fun Tryz.prog 207 := ⟨by kernel_rfl⟩
instance : Fun Tryz.prog 208 := ⟨by kernel_rfl⟩
instance : Fun Tryz.prog 209 := ⟨by kernel_rfl⟩
instance : Fun Tryz.prog 210 := ⟨by kernel_rfl⟩
instance : Fun Tryz.prog 211 := ⟨by kernel_rfl⟩
instance : Fun Tryz.prog 212 := ⟨by kernel_rfl⟩
instance : Fun Tryz.prog 213 := ⟨by kernel_rfl⟩
instance : Fun Tryz.prog 214 := ⟨by kernel_rfl⟩
instance : Fun Tryz.prog 215 := ⟨by kernel_rfl⟩
instance : Fun Tryz.prog 216 := ⟨by kernel_rfl⟩
instance : Fun Tryz.prog 217 := ⟨by kernel_rfl⟩
instance : Fun Tryz.prog 218 := ⟨by kernel_rfl⟩
instance : Fun Tryz.prog 219 := ⟨by kernel_rfl⟩
instance : Fun Tryz.prog 220 := ⟨by kernel_rfl⟩
instance : Fun Tryz.prog 221 := ⟨by kernel_rfl⟩
instance : Fun Tryz.prog 222 := ⟨by kernel_rfl⟩
instance : Fun Tryz.prog 223 := ⟨by kernel_rfl⟩
instance : Fun Tryz.prog 224 := ⟨by kernel_rfl⟩
instance : Fun Tryz.prog 225 := ⟨by kernel_rfl⟩
instance : Fun Tryz.prog 226 := ⟨by kernel_rfl⟩
instance : Fun Tryz.prog 227 := ⟨by kernel_rfl⟩
instance : Fun Tryz.prog 228 := ⟨by kernel_rfl⟩
instance : Fun Tryz.prog 229 := ⟨by kernel_rfl⟩
instance : Fun Tryz.prog 230 := ⟨by kernel_rfl⟩
instance : Fun Tryz.prog 231 := ⟨by kernel_rfl⟩
instance : Fun Tryz.prog 232 := ⟨by kernel_rfl⟩
instance : Fun Tryz.prog 233 := ⟨by kernel_rfl⟩
instance : Fun Tryz.prog 234 := ⟨by kernel_rfl⟩
instance : Fun Tryz.prog 235 := ⟨by kernel_rfl⟩
instance : Fun Tryz.prog 236 := ⟨by kernel_rfl⟩
instance : Fun Tryz.prog 237 := ⟨by kernel_rfl⟩
instance : Fun Tryz.prog 238 := ⟨by kernel_rfl⟩
instance : Fun Tryz.prog 241 := ⟨by kernel_rfl⟩
instance : Fun Tryz.prog 242 := ⟨by kernel_rfl⟩
instance : Fun Tryz.prog 243 := ⟨by kernel_rfl⟩
instance : Fun Tryz.prog 244 := ⟨by kernel_rfl⟩
instance : Fun Tryz.prog 245 := ⟨by kernel_rfl⟩
instance : Fun Tryz.prog 246 := ⟨by kernel_rfl⟩
instance : Fun Tryz.prog 247 := ⟨by kernel_rfl⟩
instance : Fun Tryz.prog 248 := ⟨by kernel_rfl⟩
instance : Fun Tryz.prog 249 := ⟨by kernel_rfl⟩
instance : Fun Tryz.prog 250 := ⟨by kernel_rfl⟩
instance : Fun Tryz.prog 251 := ⟨by kernel_rfl⟩
instance : Fun Tryz.prog 252 := ⟨by kernel_rfl⟩
instance : Fun Tryz.prog 254 := ⟨by kernel_rfl⟩
instance : Fun Tryz.prog 255 := ⟨by kernel_rfl⟩
instance : Fun Tryz.prog 256 := ⟨by kernel_rfl⟩
instance : Fun Tryz.prog 257 := ⟨by kernel_rfl⟩
instance : Fun Tryz.prog 258 := ⟨by kernel_rfl⟩
instance : Fun Tryz.prog 259 := ⟨by kernel_rfl⟩
instance : Fun Tryz.prog 260 := ⟨by kernel_rfl⟩
instance : Fun Tryz.prog 261 := ⟨by kernel_rfl⟩
instance : Fun Tryz.prog 262 := ⟨by kernel_rfl⟩
instance : Fun Tryz.prog 263 := ⟨by kernel_rfl⟩
instance : Fun Tryz.prog 264 := ⟨by kernel_rfl⟩
instance : Fun Tryz.prog 265 := ⟨by kernel_rfl⟩
instance : Fun Tryz.prog 266 := ⟨by kernel_rfl⟩
instance : Fun Tryz.prog 267 := ⟨by kernel_rfl⟩
instance : Fun Tryz.prog 268 := ⟨by kernel_rfl⟩
instance : Fun Tryz.prog 270 := ⟨by kernel_rfl⟩
instance : Fun Tryz.prog 271 := ⟨by kernel_rfl⟩
instance : Fun Tryz.prog 272 := ⟨by kernel_rfl⟩
instance : Fun Tryz.prog 273 := ⟨by kernel_rfl⟩
instance : Fun Tryz.prog 274 := ⟨by kernel_rfl⟩
instance : Fun Tryz.prog 275 := ⟨by kernel_rfl⟩
instance : Fun Tryz.prog 277 := ⟨by kernel_rfl⟩
instance : Fun Tryz.prog 278 := ⟨by kernel_rfl⟩
instance : Fun Tryz.prog 295 := ⟨by kernel_rfl⟩
instance : Fun Tryz.prog 296 := ⟨by kernel_rfl⟩
instance : Fun Tryz.prog 297 := ⟨by kernel_rfl⟩
instance : Fun Tryz.prog 298 := ⟨by kernel_rfl⟩
instance : Fun Tryz.prog 299 := ⟨by kernel_rfl⟩
instance : Fun Tryz.prog 300 := ⟨by kernel_rfl⟩
instance : Fun Tryz.prog 301 := ⟨by kernel_rfl⟩
instance : Fun Tryz.prog 302 := ⟨by kernel_rfl⟩
instance : Fun Tryz.prog 303 := ⟨by kernel_rfl⟩
instance : Fun Tryz.prog 304 := ⟨by kernel_rfl⟩
end Go.Proofs.YtaokfeonmgpjcaaGreatDoor
namespace Go.Proofs.YtaokfeonmgpjcaaGreatDoor
open Go.JW Go.RowKit

def isDigit (c : Int) : Bool := decide (48 ≤ c) && decide (c ≤ 57)
def isLetter (c : Int) : Bool := (decide (97 ≤ c) && decide (c ≤ 122)) || (decide (945 ≤ c) && decide (c ≤ 969))
theorem digit_c (c : Int) (w : World) : Calls Tryz.prog 136 #[.int .i32 c] w fun e w' => e = .returned (.bool (isDigit c)) ∧ Below w.heap.size w w' := by
  refine RS.enter Tryz.func136 Tryz.ntmps136 rfl rfl ?_
  refine zN ?_; refine asB ?_; refine LS.done ?_
  refine zN ?_; refine mvI ?_; refine geI ?_; refine mvB ?_; refine LS.part 5 (fun g5 => ?_) (fun g5 => ?_) <;> first | (cases g5; done) | (refine LS.on ?_; refine mvI ?_; refine LS.on ?_; refine JW.leI ?_; refine pk (v := .bool _) ?_; refine asB ?_; refine LS.done ?_) | (refine LS.off ?_; refine LS.off ?_; refine pk (v := .bool _) ?_; refine asB ?_; refine LS.done ?_)
  all_goals (refine zN ?_; refine RS.ret1 (v := .bool _) Tryz.func136 fun w hw => ?_; exact ⟨by clear hw; simp_all [isDigit] <;> omega, hw.below⟩)
theorem letter_c (c : Int) (w : World) : Calls Tryz.prog 135 #[.int .i32 c] w fun e w' => e = .returned (.bool (isLetter c)) ∧ Below w.heap.size w w' := by
  refine RS.enter Tryz.func135 Tryz.ntmps135 rfl rfl ?_
  refine zN ?_; refine asB ?_; refine LS.done ?_
  refine zN ?_; refine mvI ?_; refine geI ?_; refine mvB ?_; refine LS.part 5 (fun g5 => ?_) (fun g5 => ?_) <;> first | (cases g5; done) | (refine LS.on ?_; refine mvI ?_; refine LS.on ?_; refine JW.leI ?_; refine pk (v := .bool _) ?_; refine mvB ?_; refine LS.part 9 (fun g9 => ?_) (fun g9 => ?_) <;> first | (cases g9; done) | (refine LS.off ?_; refine LS.off ?_; refine LS.off ?_; refine LS.offU ?_; refine LS.offU ?_; refine LS.off ?_; refine pk (v := .bool _) ?_; refine asB ?_; refine LS.done ?_) | (refine LS.on ?_; refine mvI ?_; refine LS.on ?_; refine geI ?_; refine LS.on ?_; refine mvB ?_; refine LS.part 12 (fun g12 => ?_) (fun g12 => ?_) <;> first | (cases g12; done) | (refine LS.on ?_; refine mvI ?_; refine LS.on ?_; refine JW.leI ?_; refine LS.on ?_; refine pk (v := .bool _) ?_; refine pk (v := .bool _) ?_; refine asB ?_; refine LS.done ?_) | (refine LS.off ?_; refine LS.off ?_; refine LS.on ?_; refine pk (v := .bool _) ?_; refine pk (v := .bool _) ?_; refine asB ?_; refine LS.done ?_))) | (refine LS.off ?_; refine LS.off ?_; refine pk (v := .bool _) ?_; refine mvB ?_; refine LS.part 9 (fun g9 => ?_) (fun g9 => ?_) <;> first | (cases g9; done) | (refine LS.off ?_; refine LS.off ?_; refine LS.off ?_; refine LS.offU ?_; refine LS.offU ?_; refine LS.off ?_; refine pk (v := .bool _) ?_; refine asB ?_; refine LS.done ?_) | (refine LS.on ?_; refine mvI ?_; refine LS.on ?_; refine geI ?_; refine LS.on ?_; refine mvB ?_; refine LS.part 12 (fun g12 => ?_) (fun g12 => ?_) <;> first | (cases g12; done) | (refine LS.on ?_; refine mvI ?_; refine LS.on ?_; refine JW.leI ?_; refine LS.on ?_; refine pk (v := .bool _) ?_; refine pk (v := .bool _) ?_; refine asB ?_; refine LS.done ?_) | (refine LS.off ?_; refine LS.off ?_; refine LS.on ?_; refine pk (v := .bool _) ?_; refine pk (v := .bool _) ?_; refine asB ?_; refine LS.done ?_)))
  all_goals (refine zN ?_; refine RS.ret1 (v := .bool _) Tryz.func135 fun w hw => ?_; exact ⟨by clear hw; simp_all [isLetter] <;> omega, hw.below⟩)

def runesAt (s : ByteArray) : Nat → Nat → List (Nat × Int)
  | 0, _ => []
  | b + 1, pos => if pos < s.size then (pos, ((Utf8.decode s pos).1 : Int)) :: runesAt s b (pos + (Utf8.decode s pos).2) else []
def runes (s : ByteArray) : List (Nat × Int) := runesAt s s.size 0
theorem width_pos (s : ByteArray) (pos : Nat) (h : pos < s.size) : 1 ≤ (Utf8.decode s pos).2 := by
  by_cases ha : (s[pos]'h).toNat < 128
  · rw [decode_ascii s pos h ha]; exact Nat.le_refl _
  · exact (decode_high s pos h (by omega)).2
theorem runesAt_more (s : ByteArray) : ∀ (b b' pos : Nat), s.size ≤ pos + b → s.size ≤ pos + b' → runesAt s b pos = runesAt s b' pos := by
  intro b
  induction b with
  | zero => intro b' pos h h'; cases b' <;> simp [runesAt]; omega
  | succ b ih =>
    intro b' pos h h'
    cases b' with
    | zero => simp [runesAt]; omega
    | succ b' =>
      simp only [runesAt]
      by_cases hp : pos < s.size
      · rw [if_pos hp, if_pos hp, ih b' _ (by have := width_pos s pos hp; omega) (by have := width_pos s pos hp; omega)]
      · rw [if_neg hp, if_neg hp]
def left (s : ByteArray) (pos : Nat) : List (Nat × Int) := runesAt s (s.size - pos) pos
theorem left_step (s : ByteArray) (pos : Nat) (h : pos < s.size) : left s pos = (pos, ((Utf8.decode s pos).1 : Int)) :: left s (pos + (Utf8.decode s pos).2) := by
  unfold left
  obtain ⟨b, hb⟩ : ∃ b, s.size - pos = b + 1 := ⟨s.size - pos - 1, by omega⟩
  rw [hb, runesAt, if_pos h, runesAt_more s b (s.size - (pos + (Utf8.decode s pos).2))]
  · have := width_pos s pos h; omega
  · omega
theorem left_end (s : ByteArray) (pos : Nat) (h : ¬ pos < s.size) : left s pos = [] := by
  unfold left; rw [show s.size - pos = 0 by omega]; rfl
theorem left_length (s : ByteArray) : ∀ b pos, (runesAt s b pos).length ≤ b := by
  intro b
  induction b with
  | zero => intro pos; simp [runesAt]
  | succ b ih => intro pos; simp only [runesAt]; split <;> simp; exact ih _
theorem runes_le (s : ByteArray) : (runes s).length ≤ s.size := left_length s _ _
theorem runesN_c (s : ByteArray) (hs : s.size ≤ 9223372036854775806) (w : World) : Calls Tryz.prog 137 #[.string s] w fun e w' => e = .returned (.int .i64 (runes s).length) ∧ Below w.heap.size w w' := by
  have hrs := runes_le s
  refine RS.enter Tryz.func137 Tryz.ntmps137 rfl rfl ?_
  refine zN ?_; refine asI ?_; refine LS.done ?_
  refine zN ?_; refine asI ?_; refine LS.done ?_
  refine zN ?_; refine mvS ?_; refine rngS (fun b5 => ?_); refine LS.done ?_
  refine zN ?_
  refine RS.loopF (X := Nat × Nat) 3 11 (fun x => (runes s).length = x.2 + (left s x.1).length) (fun x => [(3, .int .i64 x.2), (5, .pointer (some ⟨b5, 0, none⟩))]) (fun _ => hp w) (fun x => [blk b5 (.stringIter s x.1)]) (fun x => s.size - x.1) (0, 0) (by simp [left, runes]) ⟨rfl, rfl, trivial⟩ rfl inferInstance ?_
  rintro ⟨pos, k⟩ g h1 ih
  dsimp only at h1
  refine zN ?_
  by_cases hp : pos < s.size
  · have hw := width_pos s pos hp
    rw [left_step s pos hp, List.length_cons] at h1
    refine nxtS hp ?_
    refine extr (v := .bool _) ?_; refine LS.done ?_
    refine zN ?_
    refine RS.condT ?_
    refine zN ?_; refine mvI ?_; (first | refine addN ?_ | refine addI ?_); refine asI ?_; refine LS.done ?_
    refine zN ?_
    exact ih (pos + (Utf8.decode s pos).2, k + 1) (by dsimp only; omega) (by dsimp only; omega) ⟨rfl, rfl, trivial⟩ (by repeat (first | with_reducible exact Out.refl _ _ _ | exact Out.hv | refine Out.upd ?_ | refine Out.hvIn ?_)) inferInstance rfl
  · refine nxtSEnd hp ?_
    refine extr (v := .bool _) ?_; refine LS.done ?_
    refine zN ?_
    refine RS.condF ?_
    refine zN ?_; refine mvI ?_; refine asI ?_; refine LS.done ?_
    refine zN ?_
    refine RS.ret1 (v := .int _ _) Tryz.func137 fun w hw => ?_
    rw [left_end s pos hp] at h1
    exact ⟨by rw [h1]; rfl, hw.below⟩

def nameRunes (l : List (Nat × Int)) : Bool := l.all fun p => isLetter p.2 || (isDigit p.2 && !decide (p.1 = 0))
def isName (s : ByteArray) : Bool := nameRunes (runes s) && (decide (s.size ≠ 0) && decide ((runes s).length ≤ 8))
theorem name_c (s : ByteArray) (hs : s.size ≤ 9223372036854775806) (w : World) : Calls Tryz.prog 116 #[.string s] w fun e w' => e = .returned (.bool (isName s)) ∧ Below w.heap.size w w' := by
  refine RS.enter Tryz.func116 Tryz.ntmps116 rfl rfl ?_
  refine zN ?_; refine asB ?_; refine LS.done ?_
  refine zN ?_; refine mvS ?_; refine rngS (fun b6 => ?_); refine LS.done ?_
  refine zN ?_
  refine RS.loopF (X := Nat) 3 23 (fun x => nameRunes (runes s) = nameRunes (left s x)) (fun x => [(6, .pointer (some ⟨b6, 0, none⟩))]) (fun _ => hp w) (fun x => [blk b6 (.stringIter s x)]) (fun x => s.size - x) 0 (by simp [left, runes]) ⟨rfl, trivial⟩ rfl inferInstance ?_
  rintro pos g h1 ih
  refine zN ?_
  by_cases hp : pos < s.size
  · have hw := width_pos s pos hp
    rw [left_step s pos hp] at h1
    simp only [nameRunes, List.all_cons] at h1
    refine nxtS hp ?_
    refine extr (v := .bool _) ?_; refine LS.done ?_
    refine zN ?_
    refine RS.condT ?_
    refine zN ?_; refine extr (v := .int _ _) ?_; refine extr (v := .int _ _) ?_; refine asI ?_; refine asI ?_; refine LS.done ?_
    refine zN ?_; refine mvI ?_
    refine callP ?_ (hc := fun w _ => letter_c _ w)
    refine not_ ?_; refine mvB ?_
    refine LS.part 14 (fun gl => ?_) (fun gl => ?_)
    · refine LS.on ?_; refine mvI ?_; refine LS.on ?_
      refine callP ?_ (hc := fun w _ => digit_c _ w)
      refine LS.on ?_; refine not_ ?_; refine LS.on ?_; refine mvB ?_; refine LS.part 18 (fun g18 => ?_) (fun g18 => ?_) <;> first | (cases g18; done) | (refine LS.off ?_; refine LS.off ?_; refine LS.on ?_; refine pk (v := .bool _) ?_; refine pk (v := .bool _) ?_; refine LS.done ?_) | (refine LS.on ?_; refine mvI ?_; refine LS.on ?_; refine eqI ?_; refine LS.on ?_; refine pk (v := .bool _) ?_; refine pk (v := .bool _) ?_; refine LS.done ?_)
      · refine zN ?_
        refine RS.condT ?_
        refine zN ?_; refine asB ?_; refine LS.done ?_; refine zN ?_; refine RS.ret1 (v := .bool _) Tryz.func116 fun w hw => ?_
        exact ⟨retB (by clear hw; simp_all [isName, nameRunes]), hw.below⟩
      · refine zN ?_
        refine RS.cond (fun c22 => ?_) (fun c22 => ?_)
        · refine zN ?_; refine asB ?_; refine LS.done ?_; refine zN ?_; refine RS.ret1 (v := .bool _) Tryz.func116 fun w hw => ?_
          refine ⟨retB ?_, hw.below⟩
          clear hw
          simp at gl g18 c22
          have : pos = 0 := by omega
          rw [this] at gl
          simp [isName, nameRunes, h1, gl, this]
        · refine zN ?_
          simp at gl g18 c22
          have : ¬ pos = 0 := by omega
          exact ih (pos + (Utf8.decode s pos).2) (by simp [nameRunes, h1, gl, g18, this]) (by omega) ⟨rfl, trivial⟩ (by repeat (first | with_reducible exact Out.refl _ _ _ | exact Out.hv | refine Out.upd ?_ | refine Out.hvIn ?_)) inferInstance rfl
    · refine LS.off ?_; refine LS.off ?_; refine LS.off ?_; refine LS.off ?_; refine LS.offU ?_; refine LS.offU ?_; refine LS.off ?_; refine pk (v := .bool _) ?_; refine LS.done ?_
      refine zN ?_
      refine RS.condF ?_
      refine zN ?_
      simp at gl
      exact ih (pos + (Utf8.decode s pos).2) (by simp [nameRunes, h1, gl]) (by omega) ⟨rfl, trivial⟩ (by repeat (first | with_reducible exact Out.refl _ _ _ | exact Out.hv | refine Out.upd ?_ | refine Out.hvIn ?_)) inferInstance rfl
  · refine nxtSEnd hp ?_
    refine extr (v := .bool _) ?_; refine LS.done ?_
    refine zN ?_
    refine RS.condF ?_
    rw [left_end s pos hp] at h1
    have hn : nameRunes (runes s) = true := h1
    refine zN ?_; refine mvS ?_; refine neS ?_; refine mvB ?_
    refine LS.part 25 (fun g => ?_) (fun g => ?_)
    · refine LS.on ?_; refine mvS ?_; refine LS.on ?_
      refine callP ?_ (hc := fun w _ => runesN_c _ hs w)
      refine LS.on ?_; refine JW.leI ?_; refine pk (v := .bool _) ?_; refine asB ?_; refine LS.done ?_
      refine zN ?_; refine RS.ret1 (v := .bool _) Tryz.func116 fun w hw => ?_
      refine ⟨retB ?_, hw.below⟩
      clear hw
      simp at g
      have h0 : s.size ≠ 0 := fun h => g (by cases s with | mk d => simp [ByteArray.size] at h; rw [h])
      rw [isName, hn]
      simp [h0]
      omega
    · refine LS.off ?_; refine LS.off ?_; refine LS.off ?_; refine pk (v := .bool _) ?_; refine asB ?_; refine LS.done ?_
      refine zN ?_; refine RS.ret1 (v := .bool _) Tryz.func116 fun w hw => ?_
      refine ⟨retB ?_, hw.below⟩
      clear hw
      simp at g
      subst g; rfl
end Go.Proofs.YtaokfeonmgpjcaaGreatDoor
namespace Go.Proofs.YtaokfeonmgpjcaaGreatDoor
open Go.JW Go.RowKit

structure PodD where
  name : ByteArray
  shard : Int
  cpu : Int
  mem : Int
  picks : List ByteArray
  bears : List ByteArray
  alone : Bool
structure NodeD where
  name : ByteArray
  cpu : Int
  mem : Int
  marks : List ByteArray
  taints : List ByteArray
  closed : Bool
structure PlaceD where
  pod : ByteArray
  node : ByteArray
  cpu : Int
  mem : Int
  alone : Bool
structure GangD where
  id : Int
  pods : List PodD
def podC (p : PodD) (vp vb : Value) : List Value := [.string p.name, .int .i64 p.shard, .int .i64 p.cpu, .int .i64 p.mem, vp, vb, .bool p.alone]
def nodeC (p : NodeD) (vm vt : Value) : List Value := [.string p.name, .int .i64 p.cpu, .int .i64 p.mem, vm, vt, .bool p.closed]
instance : Rep PodD where
  sz := 7
  rep σ cs p := ∃ vp vb, cs = podC p vp vb ∧ p.name.size ≤ 140737488355328 ∧ I64 p.shard ∧ I64 p.cpu ∧ I64 p.mem ∧ RepL σ vp p.picks ∧ RepL σ vb p.bears
  len h := by obtain ⟨_, _, rfl, _⟩ := h; rfl
  one h := by obtain ⟨_, _, rfl, _, _, _, _, h1, h2⟩ := h; obtain ⟨_, _, rfl⟩ := h1.form; obtain ⟨_, _, rfl⟩ := h2.form; rfl
  mono h hs := let ⟨a, b, e, h1, h2, h3, h4, h5, h6⟩ := h; ⟨a, b, e, h1, h2, h3, h4, h5.mono hs, h6.mono hs⟩
instance : Rep NodeD where
  sz := 6
  rep σ cs p := ∃ vp vb, cs = nodeC p vp vb ∧ p.name.size ≤ 140737488355328 ∧ I64 p.cpu ∧ I64 p.mem ∧ RepL σ vp p.marks ∧ RepL σ vb p.taints
  len h := by obtain ⟨_, _, rfl, _⟩ := h; rfl
  one h := by obtain ⟨_, _, rfl, _, _, _, h1, h2⟩ := h; obtain ⟨_, _, rfl⟩ := h1.form; obtain ⟨_, _, rfl⟩ := h2.form; rfl
  mono h hs := let ⟨a, b, e, h1, h3, h4, h5, h6⟩ := h; ⟨a, b, e, h1, h3, h4, h5.mono hs, h6.mono hs⟩
def placeC (p : PlaceD) : List Value := [.string p.pod, .string p.node, .int .i64 p.cpu, .int .i64 p.mem, .bool p.alone]
instance : Rep PlaceD where
  sz := 5
  rep _ cs p := cs = placeC p ∧ p.pod.size ≤ 140737488355328 ∧ p.node.size ≤ 140737488355328 ∧ I64 p.cpu ∧ I64 p.mem
  len h := by obtain ⟨rfl, _⟩ := h; rfl
  one h := by obtain ⟨rfl, _⟩ := h; rfl
  mono h _ := h
instance : Rep GangD where
  sz := 2
  rep σ cs g := ∃ v, cs = [.int .i64 g.id, v] ∧ I64 g.id ∧ RepL σ v g.pods
  len h := by obtain ⟨_, rfl, _⟩ := h; rfl
  one h := by obtain ⟨_, rfl, _, h1⟩ := h; obtain ⟨_, _, rfl⟩ := h1.form; rfl
  mono h hs := let ⟨a, e, h1, h2⟩ := h; ⟨a, e, h1, h2.mono hs⟩

def setAtI (l : List ByteArray) (i : Nat) : Bool := isName (l.getD i ⟨#[]⟩) && (decide (i = 0) || sLt (l.getD (i - 1) ⟨#[]⟩) (l.getD i ⟨#[]⟩))
def setTo (l : List ByteArray) (k : Nat) : Bool := (List.range k).all (setAtI l)
def isSet (l : List ByteArray) : Bool := setTo l l.length && decide (l.length ≤ 4)
theorem setTo_succ (l : List ByteArray) (k : Nat) : setTo l (k + 1) = (setTo l k && setAtI l k) := by simp [setTo, List.range_succ]
theorem setTo_not {l : List ByteArray} {k n : Nat} (hk : k < n) (h : setAtI l k = false) : setTo l n = false := by
  rw [Bool.eq_false_iff]
  intro hs
  simp only [setTo, List.all_eq_true, List.mem_range] at hs
  rw [hs k hk] at h; cases h
def size1 (n : Int) : Bool := decide (0 ≤ n) && decide (n ≤ 1099511627776)
def sizeOk (c m : Int) : Bool := size1 c && size1 m
def podErr (p : PodD) (s : Int) : Int :=
  if isName p.name = false then 1 else if (decide (p.shard < 1) || decide (s < p.shard) || !sizeOk p.cpu p.mem) = true then 2 else if (!isSet p.picks || !isSet p.bears) = true then 1 else 0
def nodeErr (p : NodeD) : Int :=
  if isName p.name = false then 1 else if sizeOk p.cpu p.mem = false then 2 else if (!isSet p.marks || !isSet p.taints) = true then 1 else 0
end Go.Proofs.YtaokfeonmgpjcaaGreatDoor
namespace Go.Proofs.YtaokfeonmgpjcaaGreatDoor
open Go.JW Go.RowKit

theorem part_c (c : Int) (w : World) : Calls Tryz.prog 138 #[.int .i64 c] w fun e w' => e = .returned (.bool (size1 c)) ∧ Below w.heap.size w w' := by
  refine RS.enter Tryz.func138 Tryz.ntmps138 rfl rfl ?_
  refine zN ?_; refine asB ?_; refine LS.done ?_
  refine zN ?_; refine mvI ?_; refine geI ?_; refine mvB ?_; refine LS.part 5 (fun g5 => ?_) (fun g5 => ?_) <;> first | (cases g5; done) | (refine LS.on ?_; refine mvI ?_; refine LS.on ?_; refine JW.leI ?_; refine pk (v := .bool _) ?_; refine asB ?_; refine LS.done ?_) | (refine LS.off ?_; refine LS.off ?_; refine pk (v := .bool _) ?_; refine asB ?_; refine LS.done ?_)
  all_goals (refine zN ?_; refine RS.ret1 (v := .bool _) Tryz.func138 fun w hw => ?_; exact ⟨retB (by clear hw; simp_all [size1] <;> omega), hw.below⟩)
theorem room_c (c m : Int) (w : World) : Calls Tryz.prog 117 #[.agg #[.int .i64 c, .int .i64 m]] w fun e w' => e = .returned (.bool (sizeOk c m)) ∧ Below w.heap.size w w' := by
  refine RS.enter Tryz.func117 Tryz.ntmps117 rfl rfl ?_
  refine zN ?_; refine box_ (v := .agg _) (cs := [_, _]) (fun b1 => ?_); refine asB ?_; refine LS.done ?_
  refine zN ?_; refine fld ?_; refine ld1 (v := .int _ _) ?_
  refine callP ?_ (hc := fun w _ => part_c _ w)
  refine mvB ?_
  refine LS.part 6 (fun g => ?_) (fun g => ?_)
  · refine LS.on ?_; refine fld ?_; refine LS.on ?_; refine ld1 (v := .int _ _) ?_; refine LS.on ?_
    refine callP ?_ (hc := fun w _ => part_c _ w)
    refine pk (v := .bool _) ?_; refine asB ?_; refine LS.done ?_
    refine zN ?_; refine RS.ret1 (v := .bool _) Tryz.func117 fun w hw => ?_
    exact ⟨retB (by rw [sizeOk, g]; rfl), hw.below⟩
  · refine LS.off ?_; refine LS.off ?_; refine LS.off ?_; refine pk (v := .bool _) ?_; refine asB ?_; refine LS.done ?_
    refine zN ?_; refine RS.ret1 (v := .bool _) Tryz.func117 fun w hw => ?_
    exact ⟨retB (by rw [sizeOk, g]; rfl), hw.below⟩
theorem getD_of {l : List ByteArray} {i : Nat} (h : i < l.length) : l.getD i ⟨#[]⟩ = l[i] := by simp [List.getD_eq_getElem?_getD, h]
theorem set_c (l : List ByteArray) (v : Value) (w : World) (h : RepL (hp w) v l) : Calls Tryz.prog 118 #[v] w fun e w' => e = .returned (.bool (isSet l)) ∧ Below w.heap.size w w' := by
  obtain ⟨a, cap, rfl⟩ := h.form
  have hlen : l.length ≤ 140737488355328 := h.1
  refine RS.enter Tryz.func118 Tryz.ntmps118 rfl rfl ?_
  refine zN ?_; refine asB ?_; refine LS.done ?_
  refine zN ?_; refine mvL ?_; refine lenL ?_; refine mvI ?_; refine LS.done ?_
  refine zN ?_
  refine RS.loopF (X := Nat) 3 29 (fun k => k ≤ l.length ∧ setTo l k = true) (fun k => [(5, .slice a l.length cap), (6, .int .i64 l.length), (7, .int .i64 k)]) (fun _ => hp w) (fun _ => []) (fun k => l.length - k) 0 ⟨by omega, rfl⟩ ⟨rfl, rfl, rfl, trivial⟩ rfl inferInstance ?_
  rintro k g ⟨hk, hs⟩ ih
  refine zN ?_; refine ltI ?_; refine LS.done ?_
  refine zN ?_
  by_cases hlt : k < l.length
  · refine RS.condT ?_ (h := by simp; exact hlt)
    obtain ⟨b, o, rfl, hr⟩ := h.addr (fun h => by simp [h] at hlt)
    obtain ⟨hc, hsz⟩ := hr.str k hlt
    refine zN ?_; refine mvI ?_; refine idx ?_; refine ldS hc ?_; refine asI ?_; refine asS ?_; refine LS.done ?_
    refine zN ?_; refine mvS ?_
    refine callP ?_ (hc := fun w _ => name_c _ (by omega) w)
    refine not_ ?_; refine mvB ?_
    refine LS.cut 14 28 [(27, .bool (!setAtI l k))] (fun g => ?_) (fun J => ?_)
    · refine zN ?_
      refine RS.cond (fun c => ?_) (fun c => ?_)
      · refine zN ?_; refine asB ?_; refine LS.done ?_; refine zN ?_; refine RS.ret1 (v := .bool _) Tryz.func118 fun w hw => ?_
        exact ⟨retB (by simp at c; rw [isSet, setTo_not hlt c]; rfl), hw.below⟩
      · refine zN ?_; (first | refine addN ?_ | refine addI ?_); refine mvI ?_; refine LS.done ?_; refine zN ?_
        simp at c
        exact ih (k + 1) ⟨hlt, by rw [setTo_succ, hs, c]; rfl⟩ (by omega) ⟨rfl, rfl, rfl, trivial⟩ (by repeat (first | with_reducible exact Out.refl _ _ _ | exact Out.hv | refine Out.upd ?_ | refine Out.hvIn ?_)) inferInstance rfl
    · refine LS.part 15 (fun gn => ?_) (fun gn => ?_)
      · refine LS.off ?_; refine LS.off ?_; refine LS.off ?_; refine LS.offU ?_; refine LS.offU ?_; refine LS.offU ?_; refine LS.offU ?_; refine LS.offU ?_; refine LS.offU ?_; refine LS.offU ?_; refine LS.off ?_; refine pk (v := .bool _) ?_; refine LS.done ?_
        refine J ⟨boolV ?_, trivial⟩ (by repeat (first | with_reducible exact Out.refl _ _ _ | exact Out.hv | refine Out.upd ?_ | refine Out.hvIn ?_))
        simp at gn; rw [setAtI, getD_of hlt, gn]; rfl
      · refine LS.on ?_; refine mvI ?_; refine LS.on ?_; refine gtI ?_; refine LS.on ?_; refine mvB ?_
        refine LS.part 18 (fun g0 => ?_) (fun g0 => ?_)
        · have g0' : 0 < k := by simp at g0; omega
          have hc' := (hr.str (k - 1) (by omega)).1
          refine LS.on ?_; refine mvL ?_; refine LS.on ?_; refine mvI ?_; refine LS.on ?_; (first | refine subN ?_ | refine subI ?_); refine LS.on ?_; refine idx (i := k - 1) ?_ (hj := by omega); refine LS.on ?_; refine ldS hc' ?_; refine LS.on ?_; refine mvS ?_; refine LS.on ?_; refine geS ?_; refine LS.on ?_; refine pk (v := .bool _) ?_; refine pk (v := .bool _) ?_; refine LS.done ?_
          refine J ⟨boolV ?_, trivial⟩ (by repeat (first | with_reducible exact Out.refl _ _ _ | exact Out.hv | refine Out.upd ?_ | refine Out.hvIn ?_))
          simp at gn
          rw [setAtI, getD_of hlt, getD_of (by omega), gn]; simp; omega
        · refine LS.off ?_; refine LS.off ?_; refine LS.off ?_; refine LS.off ?_; refine LS.off ?_; refine LS.off ?_; refine LS.off ?_; refine LS.on ?_; refine pk (v := .bool _) ?_; refine pk (v := .bool _) ?_; refine LS.done ?_
          refine J ⟨boolV ?_, trivial⟩ (by repeat (first | with_reducible exact Out.refl _ _ _ | exact Out.hv | refine Out.upd ?_ | refine Out.hvIn ?_))
          simp at gn g0
          rw [setAtI, getD_of hlt, gn]; simp; omega
  · refine RS.condF ?_ (h := by simp; omega)
    obtain rfl : k = l.length := by omega
    refine zN ?_; refine mvL ?_; refine lenL ?_; refine JW.leI ?_; refine asB ?_; refine LS.done ?_; refine zN ?_; refine RS.ret1 (v := .bool _) Tryz.func118 fun w hw => ?_
    exact ⟨retB (by rw [isSet, hs]; simp; omega), hw.below⟩

end Go.Proofs.YtaokfeonmgpjcaaGreatDoor
namespace Go.Proofs.YtaokfeonmgpjcaaGreatDoor
open Go.JW Go.RowKit

theorem pod_c (cs : List Value) (p : PodD) (s : Int) (w : World) (h : Rep.rep (hp w) cs p) : Calls Tryz.prog 82 #[.agg cs.toArray, .int .i64 s] w fun e w' => e = .returned (.int .i64 (podErr p s)) ∧ Below w.heap.size w w' := by
  obtain ⟨vp, vb, rfl, hn, hs, hc, hm, hp, hb⟩ := h
  unfold podC
  obtain ⟨ap, cp, rfl⟩ := hp.form
  obtain ⟨ab, cb, rfl⟩ := hb.form
  refine RS.enter Tryz.func82 Tryz.ntmps82 rfl rfl ?_
  refine zN ?_; refine box_ (v := .agg _) (cs := [_, _, _, _, _, _, _]) (fun b2 => ?_); refine asI ?_; refine LS.done ?_
  refine zN ?_; refine fld ?_; refine ld1 (v := .string _) ?_
  refine callP ?_ (hc := fun w _ => name_c _ (by omega) w)
  refine not_ ?_; refine asB ?_; refine LS.done ?_; refine zN ?_
  refine RS.cond (fun c1 => ?_) (fun c1 => ?_)
  · refine zN ?_; refine asI ?_; refine LS.done ?_; refine zN ?_; refine RS.ret1 (v := .int _ _) Tryz.func82 fun w hw => ?_
    exact ⟨retI (by simp at c1; simp [podErr, c1]), hw.below⟩
  · simp at c1
    refine zN ?_
    refine LS.cut 10 26 [(10, .bool (decide (p.shard < 1) || decide (s < p.shard) || !sizeOk p.cpu p.mem))] (fun g => ?_) (fun J => ?_)
    · refine RS.cond (fun c2 => ?_) (fun c2 => ?_)
      · refine zN ?_; refine asI ?_; refine LS.done ?_; refine zN ?_; refine RS.ret1 (v := .int _ _) Tryz.func82 fun w hw => ?_
        exact ⟨retI (by rw [podErr, c1, if_neg (by simp), if_pos c2]), hw.below⟩
      · refine zN ?_; refine fld ?_; refine ld1 (v := .slice _ _ _) ?_
        refine callP ?_ (hc := fun w hw => set_c p.picks _ w (hp.mono hw.imm))
        refine not_ ?_; refine mvB ?_
        refine LS.part 31 (fun g3 => ?_) (fun g3 => ?_)
        · refine LS.off ?_; refine LS.off ?_; refine LS.off ?_; refine LS.off ?_; refine pk (v := .bool _) ?_; refine asB ?_; refine LS.done ?_; refine zN ?_
          refine RS.condT ?_
          refine zN ?_; refine asI ?_; refine LS.done ?_; refine zN ?_; refine RS.ret1 (v := .int _ _) Tryz.func82 fun w hw => ?_
          exact ⟨retI (by simp at g3; rw [podErr, c1, if_neg (by simp), if_neg (by rw [c2]; simp), g3]; rfl), hw.below⟩
        · refine LS.on ?_; refine fld ?_; refine LS.on ?_; refine ld1 (v := .slice _ _ _) ?_; refine LS.on ?_
          refine callP ?_ (hc := fun w hw => set_c p.bears _ w (hb.mono hw.imm))
          refine LS.on ?_; refine not_ ?_; refine pk (v := .bool _) ?_; refine asB ?_; refine LS.done ?_; refine zN ?_
          refine RS.cond (fun c4 => ?_) (fun c4 => ?_)
          · refine zN ?_; refine asI ?_; refine LS.done ?_; refine zN ?_; refine RS.ret1 (v := .int _ _) Tryz.func82 fun w hw => ?_
            exact ⟨retI (by simp at g3 c4; rw [podErr, c1, if_neg (by simp), if_neg (by rw [c2]; simp), g3, c4]; rfl), hw.below⟩
          · refine zN ?_; refine asI ?_; refine LS.done ?_; refine zN ?_; refine RS.ret1 (v := .int _ _) Tryz.func82 fun w hw => ?_
            exact ⟨retI (by simp at g3 c4; rw [podErr, c1, if_neg (by simp), if_neg (by rw [c2]; simp), g3, c4]; rfl), hw.below⟩
    · refine fld ?_; refine ld1 (v := .int _ _) ?_; refine ltI ?_; refine mvB ?_
      refine LS.part 14 (fun g1 => ?_) (fun g1 => ?_)
      all_goals skip
      · refine LS.off ?_; refine LS.off ?_; refine LS.off ?_; refine LS.off ?_; refine pk (v := .bool _) ?_; refine mvB ?_
        refine LS.part 20 (fun g2 => ?_) (fun g2 => ?_)
        · refine LS.off ?_; refine LS.off ?_; refine LS.off ?_; refine LS.off ?_; refine pk (v := .bool _) ?_; refine asB ?_; refine LS.done ?_
          exact J ⟨boolV (by rw [g1]; rfl), trivial⟩ (by repeat (first | with_reducible exact Out.refl _ _ _ | exact Out.hv | refine Out.upd ?_ | refine Out.hvIn ?_))
        · simp at g2
      · refine LS.on ?_; refine fld ?_; refine LS.on ?_; refine ld1 (v := .int _ _) ?_; refine LS.on ?_; refine mvI ?_; refine LS.on ?_; refine gtI ?_; refine pk (v := .bool _) ?_; refine mvB ?_
        refine LS.part 20 (fun g2 => ?_) (fun g2 => ?_)
        · refine LS.off ?_; refine LS.off ?_; refine LS.off ?_; refine LS.off ?_; refine pk (v := .bool _) ?_; refine asB ?_; refine LS.done ?_
          exact J ⟨boolV (by rw [g2]; simp), trivial⟩ (by repeat (first | with_reducible exact Out.refl _ _ _ | exact Out.hv | refine Out.upd ?_ | refine Out.hvIn ?_))
        · refine LS.on ?_; refine fld ?_; refine LS.on ?_; refine ldA [_, _] ?_; refine LS.on ?_
          refine callP ?_ (hc := fun w _ => room_c _ _ w)
          refine LS.on ?_; refine not_ ?_; refine pk (v := .bool _) ?_; refine asB ?_; refine LS.done ?_
          exact J ⟨boolV (by rw [g1, g2]; rfl), trivial⟩ (by repeat (first | with_reducible exact Out.refl _ _ _ | exact Out.hv | refine Out.upd ?_ | refine Out.hvIn ?_))
end Go.Proofs.YtaokfeonmgpjcaaGreatDoor
namespace Go.Proofs.YtaokfeonmgpjcaaGreatDoor
open Go.JW Go.RowKit

theorem tmod_ge {a n : Int} (hn : 0 < n) (h : 0 ≤ a.tmod n) : a.tmod n = a % n := by
  have h1 := Int.mul_tdiv_add_tmod a n
  have h2 := Int.tmod_lt_of_pos a hn
  have h3 : a % n = (a.tmod n + n * a.tdiv n) % n := by congr 1; omega
  rw [h3, Int.add_mul_emod_self_left, Int.emod_eq_of_lt h h2]
theorem tmod_lt {a n : Int} (hn : 0 < n) (h : a.tmod n < 0) : a.tmod n + n = a % n := by
  have h1 := Int.mul_tdiv_add_tmod a n
  have h2 : -n < a.tmod n := by
    have := Int.tmod_lt_of_pos (-a) hn
    rw [Int.neg_tmod] at this; omega
  have h3 : a % n = (a.tmod n + n * a.tdiv n) % n := by congr 1; omega
  rw [h3, Int.add_mul_emod_self_left, ← Int.add_emod_right, Int.emod_eq_of_lt (by omega) (by omega)]
theorem w11_c (a n : Int) (hn : 0 < n) (hn' : n ≤ 9223372036854775807) (w : World) : Calls Tryz.prog 17 #[.int .i64 a, .int .i64 n] w fun e w' => e = .returned (.int .i64 (a % n)) ∧ Below w.heap.size w w' := by
  refine RS.enter Tryz.func17 Tryz.ntmps17 rfl rfl ?_
  refine zN ?_; refine asI ?_; refine LS.done ?_
  refine zN ?_; refine mvI ?_; refine mvI ?_; refine remI ?_; refine asI ?_; refine LS.done ?_
  refine zN ?_; refine mvI ?_; refine ltI ?_; refine LS.done ?_
  have h2 : -n < a.tmod n := by
    have := Int.tmod_lt_of_pos (-a) hn
    rw [Int.neg_tmod] at this; omega
  refine zN ?_
  refine RS.cond (fun c => ?_) (fun c => ?_)
  · simp at c
    refine zN ?_; refine mvI ?_; refine mvI ?_; (first | refine addN ?_ | refine addI ?_); refine asI ?_; refine LS.done ?_; refine zN ?_; refine mvI ?_; refine asI ?_; refine LS.done ?_; refine zN ?_; refine RS.ret1 (v := .int _ _) Tryz.func17 fun w hw => ?_
    exact ⟨retI (tmod_lt hn c), hw.below⟩
  · simp at c
    refine zN ?_; refine mvI ?_; refine asI ?_; refine LS.done ?_; refine zN ?_; refine RS.ret1 (v := .int _ _) Tryz.func17 fun w hw => ?_
    exact ⟨retI (tmod_ge hn c), hw.below⟩
def few (l : List ByteArray) : Bool := l.all (fun s => decide (s.size ≤ 60)) && decide (l.length ≤ 10)
end Go.Proofs.YtaokfeonmgpjcaaGreatDoor
namespace Go.Proofs.YtaokfeonmgpjcaaGreatDoor
open Go.JW Go.RowKit

end Go.Proofs.YtaokfeonmgpjcaaGreatDoor
namespace Go.Proofs.YtaokfeonmgpjcaaGreatDoor
open Go.JW Go.RowKit

theorem cellsStr (τ : PH) : ∀ {l : List ByteArray}, (∀ s ∈ l, s.size ≤ 140737488355328) → CellsL τ (l.map Value.string) l := by
  intro l
  induction l with
  | nil => intro _; rfl
  | cons s l ih => intro h; exact ⟨[.string s], l.map Value.string, rfl, ⟨rfl, h s (by simp)⟩, ih fun x hx => h x (by simp [hx])⟩
end Go.Proofs.YtaokfeonmgpjcaaGreatDoor
namespace Go.Proofs.YtaokfeonmgpjcaaGreatDoor
open Go.JW Go.RowKit

end Go.Proofs.YtaokfeonmgpjcaaGreatDoor
namespace Go.Proofs.YtaokfeonmgpjcaaGreatDoor
open Go.JW Go.RowKit

end Go.Proofs.YtaokfeonmgpjcaaGreatDoor
namespace Go.Proofs.YtaokfeonmgpjcaaGreatDoor
open Go.JW Go.RowKit

end Go.Proofs.YtaokfeonmgpjcaaGreatDoor
namespace Go.Proofs.YtaokfeonmgpjcaaGreatDoor
open Go.JW Go.RowKit

def firstErr (s : Int) : List PodD → Int
  | [] => 0
  | p :: l => if podErr p s ≠ 0 then podErr p s else firstErr s l
theorem firstErr_take {s : Int} {l : List PodD} {k : Nat} (hk : k < l.length) (h : firstErr s (l.take k) = 0) (hall : ∀ i (hi : i < k), podErr (l[i]'(by omega)) s = 0) (he : podErr l[k] s ≠ 0) : firstErr s l = podErr l[k] s := by
  induction l generalizing k with
  | nil => simp at hk
  | cons p l ih =>
    cases k with
    | zero => simp only [firstErr, List.getElem_cons_zero] at he ⊢; rw [if_pos he]
    | succ k =>
      have h0 := hall 0 (by omega)
      simp only [List.getElem_cons_zero] at h0
      simp only [firstErr, List.getElem_cons_succ] at he ⊢
      rw [if_neg (by simp [h0])]
      simp only [List.take_succ_cons, firstErr] at h
      rw [if_neg (by simp [h0])] at h
      exact ih (by simpa using hk) h (fun i hi => by have := hall (i + 1) (by omega); simpa using this) he
theorem firstErr_zero {s : Int} {l : List PodD} (hall : ∀ i (hi : i < l.length), podErr l[i] s = 0) : firstErr s l = 0 := by
  induction l with
  | nil => rfl
  | cons p l ih =>
    have h0 := hall 0 (by simp)
    simp only [List.getElem_cons_zero] at h0
    simp only [firstErr]
    rw [if_neg (by simp [h0])]
    exact ih fun i hi => by have := hall (i + 1) (by simp; omega); simpa using this
def Dup (l : List PodD) (k : Nat) : Prop := ∃ i j, j < i ∧ i < k ∧ ∃ (hi : i < l.length) (hj : j < l.length), l[i].name = l[j].name
open Classical in
noncomputable def gangErr (g : GangD) (s : Int) : Int :=
  if g.id < 1 ∨ 999999 < g.id then 2 else if g.pods.length < 1 ∨ 8 < g.pods.length then 3 else if firstErr s g.pods ≠ 0 then firstErr s g.pods else if Dup g.pods g.pods.length then 4 else 0
theorem RowAt.pod {σ : PH} {b o : Nat} {l : List PodD} (h : RowAt σ b o l) (i : Nat) (hi : i < l.length) : ∃ vs, Rep.rep σ vs l[i] ∧ vs.length = 7 ∧ ∀ j, j < 7 → σ.cell b (o + i * 7 + j) = vs[j]? := by
  obtain ⟨vs, h1, h2⟩ := h i hi
  exact ⟨vs, h2, Rep.len h2, h1⟩
end Go.Proofs.YtaokfeonmgpjcaaGreatDoor
namespace Go.JW
section
variable {P : Program} {q : Bool} {ops : Array Oper} {f : FuncId} {R : Ending → World → Prop} {k : List Item} {n : Nat} {fr : Nat → Value} {w0 : World} {M : Nat → Prop} {σ : PH} {K K' : List HP}
variable {rest : List Oper} {d : Nat} {ty : TypeId} {pos : String} {aft : Array Edge} {x y z : Operand} {t t' : TypeId}
theorem mkF {fn : Fn} {cap : Array Operand} (cs : List Value) (h : LS P q ops f R k rest n (upd fr d (.func fn #[] cs.toArray)) w0 M σ K) (hx : cap.toList.map (ev n fr) = cs := by rfl) :
    LS P q ops f R k (⟨some d, .makeFunc fn #[] cap, ty, pos, aft, none⟩ :: rest) n fr w0 M σ K :=
  LS.val rfl rfl (fun w _ => by
    have e : cap.map (ev n fr) = cs.toArray := by rw [← hx]; cases cap; simp
    simp [execOp, Instr.makeFunc, e]) h
theorem exec_callV {g : FuncId} {xs : Array Operand} {ts : Array TypeId} {cf : Operand} {args caps : List Value} {dd : Option Tmp} {gd : Option (Nat × Bool)} (h : callable P g = true) (hf : ev n fr cf = .func (.func g) #[] caps.toArray) (hx : xs.toList.map (ev n fr) = args) (w : World) :
    (execOp (ev n fr) ⟨dd, .call ⟨.value cf, xs, ts⟩, ty, pos, aft, gd⟩).run P w = .ok (.enter g (args ++ caps).toArray) w := by
  have e : xs.map (ev n fr) = args.toArray := by rw [← hx]; cases xs; simp
  have e2 : (args ++ caps).toArray = args.toArray ++ caps.toArray := by simp
  simp [execOp, resolve, hf, Deferred.ofValue, invoke, e, run_callFunc h]
theorem callVP {g : FuncId} {xs : Array Operand} {ts : Array TypeId} {cf : Operand} {args caps : List Value} {v : Value} [i : Fun P g]
    (h : LS P q ops f R k rest n (upd fr d v) w0 M σ K) (hx : xs.toList.map (ev n fr) = args := by rfl) (hf : ev n fr cf = .func (.func g) #[] caps.toArray := by rfl)
    (hc : ∀ w, Sat w0 M σ K w → Calls P g (args ++ caps).toArray w fun e w' => e = .returned v ∧ RowKit.Below w.heap.size w w') :
    LS P q ops f R k (⟨some d, .call ⟨.value cf, xs, ts⟩, ty, pos, aft, none⟩ :: rest) n fr w0 M σ K :=
  LS.enterP rfl rfl (fun w _ => exec_callV i.eq hf hx w) (fun w hw => (hc w hw).mono fun _ _ ⟨he, hb⟩ => ⟨he, hw.ext hb⟩) h
theorem eqA {b : Bool} {us1 us2 : List Value} (heq : ∀ w, (Op.equalIn 10000 t (.agg us1.toArray) (.agg us2.toArray)).run P w = .ok b w) (hg : P.eqGuardType P.depth t = false) (h : LS P q ops f R k rest n (upd fr d (.bool b)) w0 M σ K)
    (hx : ev n fr x = .agg us1.toArray := by rfl) (hy : ev n fr y = .agg us2.toArray := by rfl) : LS P q ops f R k (⟨some d, .binOp .eql t x y t', ty, pos, aft, none⟩ :: rest) n fr w0 M σ K :=
  LS.val rfl rfl (fun w _ => by
    simp only [execOp, hx, hy, Sem.run_bind, run_eqGuard_agg w .eql t x y _ _ hg, Result.andThen_ok, run_eql_struct, heq]
    rfl) h
end
end Go.JW
namespace Go.Proofs.YtaokfeonmgpjcaaGreatDoor
open Go.JW Go.RowKit

theorem compact_mem (zs : List Int) (x : Int) : x ∈ Lib.compact zs ↔ x ∈ zs := by
  unfold Lib.compact Lib.compactUpTo
  simp only [List.mem_map, List.mem_filter, List.mem_range]
  constructor
  · rintro ⟨j, ⟨h1, _⟩, rfl⟩
    rw [getElem!_pos zs.toArray j (by simpa using h1)]; simp
  · intro hx
    obtain ⟨j, hj, rfl⟩ := List.mem_iff_getElem.1 hx
    have key : ∀ j, (hj : j < zs.length) → ∃ a, (a < zs.length ∧ Lib.keeps zs.toArray a = true) ∧ zs.toArray[a]! = zs[j] := by
      intro j
      induction j using Nat.strongRecOn with
      | _ j ih =>
        intro hj
        have hg : zs.toArray[j]! = zs[j] := by rw [getElem!_pos zs.toArray j (by simpa using hj)]; simp
        by_cases hk : Lib.keeps zs.toArray j = true
        · exact ⟨j, ⟨hj, hk⟩, hg⟩
        · simp only [Lib.keeps, decide_eq_true_eq, not_or, Classical.not_not] at hk
          obtain ⟨a, ha, he⟩ := ih (j - 1) (by omega) (by omega)
          refine ⟨a, ha, ?_⟩
          rw [he, ← hg, hk.2, getElem!_pos zs.toArray (j - 1) (by simp; omega)]; simp
    exact key j hj
theorem compact_rising {zs : List Int} (h : zs.Pairwise (· ≤ ·)) : Rising (Lib.compact zs) := by
  unfold Rising Lib.compact Lib.compactUpTo
  rw [List.pairwise_map]
  refine List.Pairwise.imp_of_mem (R := (· < ·)) (fun {a b} ha hb hab => ?_) ((List.pairwise_lt_range (n := zs.length)).filter _)
  simp only [List.mem_filter, List.mem_range] at ha hb
  have hk := hb.2
  simp only [Lib.keeps, decide_eq_true_eq] at hk
  have hge : ∀ i j, (hi : i < zs.length) → (hj : j < zs.length) → i ≤ j → zs[i] ≤ zs[j] := fun i j hi hj hij => by
    rcases Nat.lt_or_eq_of_le hij with h' | h'
    · exact List.pairwise_iff_getElem.1 h i j hi hj h'
    · subst h'; exact Int.le_refl _
  have e : ∀ i, (hi : i < zs.length) → zs.toArray[i]! = zs[i] := fun i hi => by rw [getElem!_pos zs.toArray i (by simpa using hi)]; simp
  rw [e a ha.1, e b hb.1]
  rcases hk with hk | hk
  · omega
  · rw [e b hb.1, e (b - 1) (by omega)] at hk
    have h1 := hge a (b - 1) ha.1 (by omega) (by omega)
    have h2 := hge (b - 1) b (by omega) hb.1 (by omega)
    omega
theorem compact_len (zs : List Int) : (Lib.compact zs).length ≤ zs.length := by
  unfold Lib.compact Lib.compactUpTo
  rw [List.length_map]
  exact Nat.le_trans (List.length_filter_le _ _) (by simp)
def shardL (l : List PodD) : List Int := l.map PodD.shard
def shardsOf (l : List PodD) : List Int := Lib.compact ((shardL l).mergeSort fun x y => decide (x ≤ y))
theorem mem_shards (l : List PodD) (x : Int) : x ∈ shardsOf l ↔ x ∈ shardL l := by
  rw [shardsOf, compact_mem]; exact (List.mergeSort_perm _ _).mem_iff
theorem shards_rising (l : List PodD) : Rising (shardsOf l) := by
  refine compact_rising ?_
  have := List.pairwise_mergeSort (le := fun (x y : Int) => decide (x ≤ y)) (fun a b c h1 h2 => by simp at *; omega) (fun a b => by simp; omega) (shardL l)
  simpa using this
theorem shards_len (l : List PodD) : (shardsOf l).length ≤ l.length := by
  refine Nat.le_trans (compact_len _) ?_
  simp [shardL]
theorem RowAt.podShard {σ : PH} {b o : Nat} {l : List PodD} (h : RowAt σ b o l) (i : Nat) (hi : i < l.length) : σ.cell b (o + i * 7 + 1) = some (.int .i64 l[i].shard) ∧ I64 l[i].shard := by
  obtain ⟨vs, h1, _, h2⟩ := RowAt.pod h i hi
  obtain ⟨vp, vb, rfl, _, hs, _⟩ := h1
  exact ⟨h2 1 (by omega), hs⟩
theorem shards64 {σ : PH} {v : Value} {l : List PodD} (h : RepL σ v l) : ∀ z ∈ shardsOf l, I64 z := fun z hz => by
  rw [mem_shards] at hz
  obtain ⟨p, hp, rfl⟩ := List.mem_map.1 hz
  obtain ⟨i, hi, rfl⟩ := List.mem_iff_getElem.1 hp
  obtain ⟨a, c, rfl⟩ := h.form
  obtain ⟨b, o, _, hrow⟩ := h.addr (fun h0 => by simp [h0] at hi)
  exact (RowAt.podShard hrow i hi).2
theorem shards_c (cs : List Value) (g : GangD) (w : World) (hr : Rep.rep (hp w) cs g) (hb : g.pods.length ≤ 1000) : Calls Tryz.prog 41 #[.agg cs.toArray] w fun e w' => ∃ v, e = .returned v ∧ Below w.heap.size w w' ∧ RepL (since w w') v (shardsOf g.pods) := by
  obtain ⟨v, rfl, hid, hl⟩ := hr
  obtain ⟨a, cap, rfl⟩ := hl.form
  have hlen : g.pods.length ≤ 140737488355328 := hl.1
  refine RS.enter Tryz.func41 Tryz.ntmps41 rfl rfl ?_
  refine zN ?_; refine box_ (v := .agg _) (cs := [_, _]) (fun b1 => ?_); refine asL ?_; refine LS.done ?_
  refine zN ?_; refine asL ?_; refine LS.done ?_
  refine zN ?_; refine fld ?_; refine ld1 (v := .slice _ _ _) ?_; refine lenL ?_; refine mvI ?_; refine LS.done ?_
  refine RS.nilRow 3 1 ?_
  refine zN ?_
  refine RS.loopF (X := Nat × Value) 3 19 (fun x => x.1 ≤ g.pods.length) (fun x => [(9, .int .i64 x.1), (3, x.2), (7, .slice a g.pods.length cap), (8, .int .i64 g.pods.length)]) (fun _ => hp w) (fun x => [rowH 3 1 x.2 x.1 ((shardL (g.pods.take x.1)).map (Value.int .i64)), blk b1 (.cells (List.toArray [.int .i64 g.id, .slice a g.pods.length cap]) 28 (0, 0))]) (fun x => g.pods.length - x.1) (0, .slice none 0 0) (by simp) ⟨rfl, rfl, rfl, rfl, trivial⟩ rfl ⟨fun h => h⟩ ?_
  rintro ⟨i, v⟩ gg hi ih
  simp only at hi ih ⊢
  refine zN ?_; refine ltI ?_; refine LS.done ?_
  refine zN ?_
  by_cases hlt : i < g.pods.length
  · refine RS.condT ?_ (h := by simp; omega)
    obtain ⟨b, o, rfl, hrow⟩ := hl.addr (fun h => by simp [h] at hlt)
    obtain ⟨vs, hvr, hvl, hvc⟩ := RowAt.pod hrow i hlt
    obtain ⟨vp, vb, rfl, _, hs64, _, _, hvp, hvb⟩ := hvr
    obtain ⟨ap, cp, rfl⟩ := hvp.form
    obtain ⟨ab, cb, rfl⟩ := hvb.form
    refine zN ?_; refine idx (i := i) ?_; refine ldSA (vs := podC g.pods[i] (.slice ap g.pods[i].picks.length cp) (.slice ab g.pods[i].bears.length cb)) hvl hvc ?_; refine alloc_ (fun b5 => ?_); refine st (.agg _) _ ?_; refine LS.done ?_
    refine zN ?_; refine mv (v := v) ?_; refine fld ?_; refine ld1 (v := .int _ _) ?_; refine bldS [.int _ _] [.int _ _] (fun b16 => ?_); refine appR (v := v) (kk := 1) (vy := .slice (some ⟨b16, 0, none⟩) 1 1) (news := [.int _ _]) (fun w hw => srcB hw (TSlice.eq (P := Tryz.prog))) (fun v17 => ?_); refine as_ (v := v17) ?_; refine LS.done ?_
    refine zN ?_; (first | refine addN ?_ | refine addI ?_); refine mvI ?_; refine LS.done ?_; refine zN ?_
    have e1 : (shardL (g.pods.take (i + 1))).map (Value.int .i64) = (shardL (g.pods.take i)).map (Value.int .i64) ++ [.int .i64 g.pods[i].shard] := by rw [List.take_add_one, List.getElem?_eq_getElem hlt]; simp only [shardL, Option.toList_some, List.map_append, List.map_cons, List.map_nil]
    exact ih (i + 1, v17) hlt (by omega) ⟨rfl, rfl, rfl, rfl, trivial⟩ (by repeat (first | with_reducible exact Out.refl _ _ _ | exact Out.hv | refine Out.upd ?_ | refine Out.hvIn ?_)) ⟨fun h => by simp only [e1]; exact h.tail.tail⟩ rfl
  · refine RS.condF ?_ (h := by simp; omega)
    obtain rfl : i = g.pods.length := by omega
    clear ih hlt
    rw [List.take_length]
    have hsl : (shardL g.pods).length = g.pods.length := by simp [shardL]
    refine zN ?_; refine mv (v := v) ?_
    refine callX (X := Unit) (fun _ => .tuple #[]) (fun _ => hp w) (fun _ => [rowH 3 1 v g.pods.length (((shardL g.pods).mergeSort fun x y => decide (x ≤ y)).map (Value.int .i64)), blk b1 (.cells (List.toArray [.int .i64 g.id, .slice a g.pods.length cap]) 28 (0, 0))]) (fun _ => True) (fun _ _ => ?_) (fun w' hw => (sort_c (v := v) hw hsl.symm (by omega)).mono fun e w' h => ⟨(), h.1, h.2, trivial⟩)
    refine LS.done ?_
    refine zN ?_; refine mv (v := v) ?_
    refine callX (X := Value) (fun v => v) (fun _ => hp w) (fun v2 => [rowH 3 1 v2 (shardsOf g.pods).length ((shardsOf g.pods).map (Value.int .i64)), blk b1 (.cells (List.toArray [.int .i64 g.id, .slice a g.pods.length cap]) 28 (0, 0))]) (fun _ => True) (fun v2 _ => ?_) (fun w' hw => (compact_c (v := v) (m := g.pods.length) (zs := (shardL g.pods).mergeSort fun x y => decide (x ≤ y)) hw (by simp [hsl]) (compact_len _)))
    refine as_ (v := v2) ?_; refine LS.done ?_
    refine RS.closeD w.heap.size (shardsOf g.pods) (v := v2) inferInstance (CellsL.ofInts _ (shards64 hl)) ?_
    have hsl2 := shards_len g.pods
    refine RS.freezeD (l := shardsOf g.pods) v2 (fun σ2 hle2 hrep => ?_)
    obtain ⟨a2, c2, rfl⟩ := hrep.form
    have hc2 := hrep.cap
    refine zN ?_; refine mvL ?_; refine mvL ?_; refine lenL ?_; refine mvL ?_; refine lenL ?_; refine slcCut (shardsOf g.pods).length ?_; refine asL ?_; refine LS.done ?_
    refine zN ?_; refine RS.ret1 (v := .slice _ _ _) Tryz.func41 fun w hw => ?_
    refine ⟨_, rfl, hw.below, (hrep.recap (Nat.le_refl _)).mono hw.since_le⟩
end Go.Proofs.YtaokfeonmgpjcaaGreatDoor
namespace Go.Proofs.YtaokfeonmgpjcaaGreatDoor
open Go.JW Go.RowKit

theorem ins_rising {o : List Int} (h : Rising o) {k : Nat} {x : Int} (hk : k ≤ o.length) (h1 : ∀ j (_ : j < k) (hj' : j < o.length), o[j] < x) (h2 : k = o.length ∨ o.getD k 0 ≠ x) (h3 : ¬ (k < o.length ∧ o.getD k 0 < x)) : Rising (o.take k ++ [x] ++ o.drop k) := by
  unfold Rising at *
  rw [List.append_assoc, List.pairwise_append]
  refine ⟨h.take, ?_, ?_⟩
  · rw [List.singleton_append, List.pairwise_cons]
    refine ⟨fun y hy => ?_, h.drop⟩
    obtain ⟨j, hj, rfl⟩ := List.mem_iff_getElem.1 hy
    rw [List.length_drop] at hj
    rw [List.getElem_drop]
    have hkl : k < o.length := by omega
    have e : o.getD k 0 = o[k] := by simp [List.getD_eq_getElem?_getD, hkl]
    rw [e] at h2 h3
    have h4 : x < o[k] := by
      rcases h2 with h2 | h2
      · omega
      · have : ¬ (o[k] < x) := fun h => h3 ⟨hkl, h⟩
        omega
    rcases Nat.eq_zero_or_pos j with h0 | h0
    · subst h0; simpa using h4
    · have := List.pairwise_iff_getElem.1 h k (k + j) hkl (by omega) (by omega)
      omega
  · intro a ha b hb
    obtain ⟨j, hj, rfl⟩ := List.mem_iff_getElem.1 ha
    rw [List.length_take] at hj
    rw [List.getElem_take]
    have hjx := h1 j (by omega) (by omega)
    rcases List.mem_append.1 hb with hb | hb
    · simp at hb; subst hb; exact hjx
    · obtain ⟨i, hi, rfl⟩ := List.mem_iff_getElem.1 hb
      rw [List.length_drop] at hi
      rw [List.getElem_drop]
      exact List.pairwise_iff_getElem.1 h j (k + i) (by omega) (by omega) (by omega)
theorem ins_mem {o : List Int} {k : Nat} {x y : Int} : y ∈ o.take k ++ [x] ++ o.drop k ↔ y ∈ o ∨ y = x := by
  rw [List.mem_append, List.mem_append, List.mem_singleton]
  conv => rhs; rw [← List.take_append_drop k o, List.mem_append]
  constructor
  · rintro ((h | h) | h)
    · exact .inl (.inl h)
    · exact .inr h
    · exact .inl (.inr h)
  · rintro ((h | h) | h)
    · exact .inl (.inl h)
    · exact .inr h
    · exact .inl (.inr h)
theorem rshards_c (cs : List Value) (g : GangD) (w : World) (hr : Rep.rep (hp w) cs g) (hb : g.pods.length ≤ 1000) : Calls Tryz.prog 21 #[.agg cs.toArray] w fun e w' => ∃ v, e = .returned v ∧ Below w.heap.size w w' ∧ RepL (since w w') v (shardsOf g.pods) := by
  obtain ⟨v, rfl, hid, hl⟩ := hr
  obtain ⟨a, cap, rfl⟩ := hl.form
  have hlen : g.pods.length ≤ 140737488355328 := hl.1
  refine RS.enter Tryz.func21 Tryz.ntmps21 rfl rfl ?_
  refine zN ?_; refine box_ (v := .agg _) (cs := [_, _]) (fun b1 => ?_); refine asL ?_; refine LS.done ?_
  refine zN ?_; refine asL ?_; refine LS.done ?_
  refine zN ?_; refine asI ?_; refine LS.done ?_
  refine zN ?_
  refine RS.loopF (X := Nat × Value × List Int × PH) 3 66 (fun x => x.1 ≤ g.pods.length ∧ PH.le (hp w) x.2.2.2 ∧ RepL (fromN w.heap.size x.2.2.2) x.2.1 x.2.2.1 ∧ Rising x.2.2.1 ∧ (∀ y, y ∈ x.2.2.1 ↔ y ∈ shardL (g.pods.take x.1)) ∧ x.2.2.1.length ≤ x.1) (fun x => [(4, .int .i64 x.1), (3, x.2.1)]) (fun x => x.2.2.2) (fun _ => [blk b1 (.cells (List.toArray [.int .i64 g.id, .slice a g.pods.length cap]) 28 (0, 0))]) (fun x => g.pods.length - x.1) (0, .slice none 0 0, [], hp w) ⟨by omega, PH.le_refl _, RepL.nil _ _ _, List.Pairwise.nil, by simp [shardL], by simp⟩ ⟨rfl, rfl, trivial⟩ rfl ⟨fun h => h⟩ ?_
  rintro ⟨i, ov, o, σ⟩ gg ⟨hi, hle, hrep, hris, hmem, hol⟩ ih
  simp only at hi hle hrep hris hmem hol ih ⊢
  obtain ⟨ao, co, rfl⟩ := hrep.form
  refine zN ?_; refine mvI ?_; refine fld ?_; refine ld1 (v := .slice _ _ _) ?_; refine lenL ?_; refine ltI ?_; refine LS.done ?_
  refine zN ?_
  by_cases hlt : i < g.pods.length
  · refine RS.condT ?_ (h := by simp; omega)
    obtain ⟨b, off, rfl, hrow⟩ := hl.addr (fun h => by simp [h] at hlt)
    obtain ⟨hcell, h64⟩ := RowAt.podShard (hrow.mono hle) i hlt
    obtain ⟨x, hx⟩ : ∃ x, x = g.pods[i].shard := ⟨_, rfl⟩
    rw [← hx] at hcell h64
    have hok : ∀ k, k < o.length → ∃ b o', ao = some ⟨b, o', none⟩ ∧ σ.cell b (o' + k * 1) = some (.int .i64 (o.getD k 0)) := fun k hk => by
      obtain ⟨b', o', e, r⟩ := hrep.addr (fun h => by simp [h] at hk)
      obtain ⟨h1, _⟩ := r.int k hk
      exact ⟨b', o', e, by rw [show o.getD k 0 = o[k] from by simp [List.getD_eq_getElem?_getD, hk]]; exact PH.cell_mono (fromN_le _ _) h1⟩
    refine zN ?_; refine asI ?_; refine LS.done ?_
    refine zN ?_
    refine RS.loopF (X := Nat) 5 32 (fun k => k ≤ o.length ∧ ∀ j (hj : j < k) (hj' : j < o.length), o[j] < x) (fun k => [(5, .int .i64 k)]) (fun _ => σ) (fun _ => [blk b1 (.cells (List.toArray [.int .i64 g.id, .slice (some ⟨b, off, none⟩) g.pods.length cap]) 28 (0, 0))]) (fun k => o.length - k) 0 ⟨by omega, fun j hj => by omega⟩ ⟨rfl, trivial⟩ rfl ⟨fun h => h⟩ ?_
    rintro k gk ⟨hk, hlts⟩ ihk
    refine zN ?_
    refine LS.cut 13 30 [(29, .bool (decide (k < o.length ∧ o.getD k 0 < x)))] (fun gc => ?_) (fun J => ?_)
    rotate_left
    · refine mvI ?_; refine mvL ?_; refine lenL ?_; refine ltI ?_; refine mvB ?_
      refine LS.part 17 (fun g1 => ?_) (fun g1 => ?_)
      · simp only [decide_eq_true_eq] at g1
        obtain ⟨b', o', e', hc'⟩ := hok k (by omega)
        subst e'
        refine LS.on ?_; refine mvL ?_; refine LS.on ?_; refine mvI ?_; refine LS.on ?_; refine idx (i := k) ?_; refine LS.on ?_; refine ldS hc' ?_; refine LS.on ?_; refine fld ?_; refine LS.on ?_; refine ld1 (v := .slice _ _ _) ?_; refine LS.on ?_; refine mvI ?_; refine LS.on ?_; refine idx (i := i) ?_; refine LS.on ?_; refine fld ?_; refine LS.on ?_; refine ldS hcell ?_; refine LS.on ?_; refine ltI ?_; refine pk (v := .bool _) ?_; refine LS.done ?_
        exact J ⟨boolV (decide_eq_decide.2 (by omega)), trivial⟩ (by repeat (first | with_reducible exact Out.refl _ _ _ | exact Out.hv | refine Out.upd ?_ | refine Out.hvIn ?_))
      · simp only [decide_eq_false_iff_not] at g1
        refine LS.off ?_; refine LS.off ?_; refine LS.off ?_; refine LS.off ?_; refine LS.off ?_; refine LS.off ?_; refine LS.off ?_; refine LS.off ?_; refine LS.off ?_; refine LS.off ?_; refine LS.off ?_; refine pk (v := .bool _) ?_; refine LS.done ?_
        exact J ⟨boolV (by symm; exact decide_eq_false (by omega)), trivial⟩ (by repeat (first | with_reducible exact Out.refl _ _ _ | exact Out.hv | refine Out.upd ?_ | refine Out.hvIn ?_))
    refine zN ?_
    refine RS.cond (fun c => ?_) (fun c => ?_)
    · simp only [decide_eq_true_eq] at c
      refine zN ?_; refine mvI ?_; (first | refine addN ?_ | refine addI ?_); refine asI ?_; refine LS.done ?_; refine zN ?_
      refine ihk (k + 1) ⟨by omega, fun j hj hj' => ?_⟩ (by omega) ⟨rfl, trivial⟩ (by repeat (first | with_reducible exact Out.refl _ _ _ | exact Out.hv | refine Out.upd ?_ | refine Out.hvIn ?_)) ⟨fun h => h⟩ rfl
      rcases Nat.lt_or_ge j k with h | h
      · exact hlts j h hj'
      · obtain rfl : j = k := by omega
        have := c.2
        rwa [show o.getD j 0 = o[j] from by simp [List.getD_eq_getElem?_getD, hj']] at this
    · simp only [decide_eq_false_iff_not] at c
      clear ihk
      refine zN ?_
      refine LS.cut 32 49 [(48, .bool (decide (k = o.length ∨ o.getD k 0 ≠ x)))] (fun gc => ?_) (fun J => ?_)
      rotate_left
      · refine mvI ?_; refine mvL ?_; refine lenL ?_; refine eqI ?_; refine mvB ?_
        refine LS.part 36 (fun g1 => ?_) (fun g1 => ?_)
        · simp only [decide_eq_true_eq] at g1
          refine LS.off ?_; refine LS.off ?_; refine LS.off ?_; refine LS.off ?_; refine LS.off ?_; refine LS.off ?_; refine LS.off ?_; refine LS.off ?_; refine LS.off ?_; refine LS.off ?_; refine LS.off ?_; refine pk (v := .bool _) ?_; refine LS.done ?_
          exact J ⟨boolV (by symm; exact decide_eq_true (by omega)), trivial⟩ (by repeat (first | with_reducible exact Out.refl _ _ _ | exact Out.hv | refine Out.upd ?_ | refine Out.hvIn ?_))
        · simp only [decide_eq_false_iff_not] at g1
          obtain ⟨b', o', e', hc'⟩ := hok k (by omega)
          subst e'
          refine LS.on ?_; refine mvL ?_; refine LS.on ?_; refine mvI ?_; refine LS.on ?_; refine idx (i := k) ?_; refine LS.on ?_; refine ldS hc' ?_; refine LS.on ?_; refine fld ?_; refine LS.on ?_; refine ld1 (v := .slice _ _ _) ?_; refine LS.on ?_; refine mvI ?_; refine LS.on ?_; refine idx (i := i) ?_; refine LS.on ?_; refine fld ?_; refine LS.on ?_; refine ldS hcell ?_; refine LS.on ?_; refine neI ?_; refine pk (v := .bool _) ?_; refine LS.done ?_
          exact J ⟨boolV (by rw [← decide_not]; exact decide_eq_decide.2 (by omega)), trivial⟩ (by repeat (first | with_reducible exact Out.refl _ _ _ | exact Out.hv | refine Out.upd ?_ | refine Out.hvIn ?_))
      have hmem' : ∀ y, y ∈ shardL (g.pods.take (i + 1)) ↔ y ∈ o ∨ y = x := fun y => by
        rw [List.take_add_one, List.getElem?_eq_getElem hlt, shardL, List.map_append, List.mem_append, hmem y]
        simp [shardL, hx]
      refine zN ?_
      refine RS.cond (fun d => ?_) (fun d => ?_)
      · simp only [decide_eq_true_eq] at d
        obtain ⟨o1, ho1⟩ : ∃ o1, o1 = o.take k := ⟨_, rfl⟩
        obtain ⟨o2, ho2⟩ : ∃ o2, o2 = o.drop k := ⟨_, rfl⟩
        have hl1 : o1.length = k := by rw [ho1, List.length_take]; omega
        have hl2 : o2.length = o.length - k := by rw [ho2, List.length_drop]
        have hr1 : RepL (fromN w.heap.size σ) (.slice ao k co) o1 := by rw [ho1]; exact hrep.take k hk
        have hr2 := hrep.drop k hk
        rw [← ho2] at hr2
        refine zD ?_; refine RS.drawK [.ex, .free, .free, .free, .eff, .free, .ex, .free, .free, .free, .ex, .ex, .eff, .free, .free, .free, .eff, .eff] ?_ (by kernel_rfl) (by kernel_rfl); refine D.lit0 ?_; refine D.mvL ?_; refine D.mvI ?_; refine D.slcHi k ?_ (hl := by have := hrep.cap; omega); refine D.app0 49 w.heap.size o1 (vy := fun _ => .slice ao k co) ?_ (fun us σ' hle hf => ⟨hf.1, _, hr1, fromN_up hle⟩); refine D.fld ?_; refine D.ld1 (v := .slice _ _ _) ?_; refine D.mvI ?_; refine D.idx (i := i) ?_; refine D.fld ?_; refine D.ldS hcell ?_
        refine D.litT w.heap.size [x] (vs := fun us => [.int .i64 x]) ?_ (fun us σ' hle hf => by exact ⟨⟨rfl, h64⟩, trivial⟩)
        refine D.appU 53 [x] (vy := fun us => us 60) ?_ (fun us σ' hle hf => ⟨_, hf.1, PH.le_refl _⟩)
        refine D.mvL ?_; refine D.mvI ?_; refine D.slcLo k ?_; refine D.appU 61 o2 (vy := fun _ => _) ?_ (fun us σ' hle hf => ⟨_, hr2, fromN_up hle⟩) (hb := by simp; omega) (hm := by simp; omega); refine D.mvD 65 ?_; refine D.done (fun us σ1 hle1 hfs => ?_)
        refine RS.to (K' := [rowD w.heap.size 3 (us 3) (o1 ++ [x] ++ o2), blk b1 (.cells (List.toArray [.int .i64 g.id, .slice (some ⟨b, off, none⟩) g.pods.length cap]) 28 (0, 0))]) ?_ ⟨fun h => h⟩
        refine RS.freezeD (l := o1 ++ [x] ++ o2) (us 3) (fun σ2 hle2 hrep2 => ?_) (hl := by simp; omega)
        rw [ho1, ho2] at hrep2
        refine zN ?_; refine mvI ?_; (first | refine addN ?_ | refine addI ?_); refine asI ?_; refine LS.done ?_; refine zN ?_
        exact ih (i + 1, us 3, o.take k ++ [x] ++ o.drop k, σ2) ⟨by omega, PH.le_trans hle (PH.le_trans hle1 hle2), hrep2, ins_rising hris hk hlts d c, fun y => by rw [ins_mem, hmem'], by simp; omega⟩ (by omega) ⟨rfl, rfl, trivial⟩ (by repeat (first | with_reducible exact Out.refl _ _ _ | exact Out.hv | refine Out.upd ?_ | refine Out.hvIn ?_)) ⟨fun h => h⟩ rfl
      · simp only [decide_eq_false_iff_not, not_or, Classical.not_not] at d
        refine zN ?_; refine mvI ?_; (first | refine addN ?_ | refine addI ?_); refine asI ?_; refine LS.done ?_; refine zN ?_
        refine ih (i + 1, .slice ao o.length co, o, σ) ⟨by omega, hle, hrep, hris, fun y => ?_, Nat.le_succ_of_le hol⟩ (by omega) ⟨rfl, rfl, trivial⟩ (by repeat (first | with_reducible exact Out.refl _ _ _ | exact Out.hv | refine Out.upd ?_ | refine Out.hvIn ?_)) ⟨fun h => h⟩ rfl
        rw [hmem']
        have hxo : x ∈ o := by
          have e : o.getD k 0 = o[k]'(by omega) := by simp [List.getD_eq_getElem?_getD, show k < o.length by omega]
          rw [e] at d; rw [← d.2]; exact List.getElem_mem _
        exact ⟨.inl, fun h => h.elim id fun h => h ▸ hxo⟩
  · refine RS.condF ?_ (h := by simp; omega)
    obtain rfl : i = g.pods.length := by omega
    rw [List.take_length] at hmem
    have eo : o = shardsOf g.pods := hris.ext (shards_rising _) fun y => by rw [hmem, mem_shards]
    refine zN ?_; refine mvL ?_; refine asL ?_; refine LS.done ?_; refine zN ?_; refine RS.ret1 (v := .slice _ _ _) Tryz.func21 fun w hw => ?_
    refine ⟨_, rfl, hw.below, ?_⟩
    rw [← eo]
    exact hrep.mono hw.since_le
end Go.Proofs.YtaokfeonmgpjcaaGreatDoor
namespace Go.Proofs.YtaokfeonmgpjcaaGreatDoor
open Go.JW Go.RowKit

theorem rsame_c (va vb : Value) (l : List ByteArray) (w : World) (ha : RepL (hp w) va l) (hb : RepL (hp w) vb l) : Calls Tryz.prog 50 #[va, vb] w fun e w' => e = .returned (.bool true) ∧ Below w.heap.size w w' := by
  obtain ⟨aa, ca, rfl⟩ := ha.form
  obtain ⟨ab, cb, rfl⟩ := hb.form
  have hlen : l.length ≤ 140737488355328 := ha.1
  refine RS.enter Tryz.func50 Tryz.ntmps50 rfl rfl ?_
  refine zN ?_; refine asB ?_; refine LS.done ?_
  refine zN ?_; refine mvL ?_; refine lenL ?_; refine mvL ?_; refine lenL ?_; refine neI ?_; refine LS.done ?_
  refine zN ?_; refine RS.condF ?_ (h := by simp)
  refine zN ?_; refine asI ?_; refine LS.done ?_
  refine zN ?_
  refine RS.loopF (X := Nat) 5 26 (fun k => k ≤ l.length) (fun k => [(5, .int .i64 k)]) (fun _ => hp w) (fun _ => []) (fun k => l.length - k) 0 (by omega) ⟨rfl, trivial⟩ rfl inferInstance ?_
  rintro k g hk ih
  refine zN ?_; refine mvI ?_; refine mvL ?_; refine lenL ?_; refine ltI ?_; refine LS.done ?_
  refine zN ?_
  by_cases hlt : k < l.length
  · refine RS.condT ?_ (h := by simp; omega)
    obtain ⟨b1, o1, rfl, r1⟩ := ha.addr (fun h => by simp [h] at hlt)
    obtain ⟨b2, o2, rfl, r2⟩ := hb.addr (fun h => by simp [h] at hlt)
    obtain ⟨h1, _⟩ := r1.str k hlt
    obtain ⟨h2, _⟩ := r2.str k hlt
    refine zN ?_; refine mvL ?_; refine mvI ?_; refine idx (i := k) ?_; refine ldS h1 ?_; refine mvL ?_; refine mvI ?_; refine idx (i := k) ?_; refine ldS h2 ?_; refine neS ?_; refine LS.done ?_
    refine zN ?_; refine RS.condF ?_ (h := by simp)
    refine zN ?_; refine mvI ?_; (first | refine addN ?_ | refine addI ?_); refine asI ?_; refine LS.done ?_; refine zN ?_
    exact ih (k + 1) hlt (by omega) ⟨rfl, trivial⟩ (by repeat (first | with_reducible exact Out.refl _ _ _ | exact Out.hv | refine Out.upd ?_ | refine Out.hvIn ?_)) ⟨fun h => h⟩ rfl
  · refine RS.condF ?_ (h := by simp; omega)
    refine zN ?_; refine asB ?_; refine LS.done ?_; refine zN ?_; refine RS.ret1 (v := .bool _) Tryz.func50 fun w hw => ?_
    exact ⟨rfl, hw.below⟩
theorem eq_vec (c m c' m' : Int) (w : World) : (Op.equalIn 10000 32 (.agg (List.toArray [.int .i64 c, .int .i64 m])) (.agg (List.toArray [.int .i64 c', .int .i64 m']))).run Tryz.prog w = .ok (c == c' && m == m') w := by
  have ht : Tryz.prog.underlying 32 = some (.struct (Tryz.prog.fieldsOf 32)) := by kernel_rfl
  have hf : (Tryz.prog.fieldsOf 32).toList = [⟨"Cpu", 3, 0, false, "", "", 0⟩, ⟨"Mem", 3, 1, false, "", "", 8⟩] := by kernel_rfl
  have hi : Tryz.prog.underlying 3 = some (.int .i64) := TInt.eq
  have hag := fun w => run_agg (P := Tryz.prog) (t := 3) w TOne.agg
  rw [run_equalIn_agg w 9999 _ _ _ ht (by kernel_rfl), hf]
  simp [Op.eqFields, part, hag, run_equalIn_int _ 9998 3 .i64 .i64 _ _ hi]
  by_cases h : c = c' <;> by_cases h2 : m = m' <;> simp [h, h2]
theorem rpods_c (va vb : Value) (l : List PodD) (w : World) (ha : RepL (hp w) va l) (hb : RepL (hp w) vb l) : Calls Tryz.prog 23 #[va, vb] w fun e w' => e = .returned (.bool true) ∧ Below w.heap.size w w' := by
  obtain ⟨aa, ca, rfl⟩ := ha.form
  obtain ⟨ab, cb, rfl⟩ := hb.form
  have hlen : l.length ≤ 140737488355328 := ha.1
  refine RS.enter Tryz.func23 Tryz.ntmps23 rfl rfl ?_
  refine zN ?_; refine asB ?_; refine LS.done ?_
  refine zN ?_; refine mvL ?_; refine lenL ?_; refine mvL ?_; refine lenL ?_; refine neI ?_; refine LS.done ?_
  refine zN ?_; refine RS.condF ?_ (h := by simp)
  refine zN ?_; refine asI ?_; refine LS.done ?_
  refine zN ?_
  refine RS.loopF (X := Nat × PH) 5 69 (fun x => x.1 ≤ l.length ∧ PH.le (hp w) x.2) (fun x => [(5, .int .i64 x.1)]) (fun x => x.2) (fun _ => []) (fun x => l.length - x.1) (0, hp w) ⟨by omega, PH.le_refl _⟩ ⟨rfl, trivial⟩ rfl inferInstance ?_
  rintro ⟨k, σ⟩ g ⟨hk, hle0⟩ ih
  simp only at hk hle0 ih ⊢
  refine zN ?_; refine mvI ?_; refine mvL ?_; refine lenL ?_; refine ltI ?_; refine LS.done ?_
  refine zN ?_
  by_cases hlt : k < l.length
  · refine RS.condT ?_ (h := by simp; omega)
    obtain ⟨b1, o1, rfl, r1⟩ := ha.addr (fun h => by simp [h] at hlt)
    obtain ⟨b2, o2, rfl, r2⟩ := hb.addr (fun h => by simp [h] at hlt)
    obtain ⟨vs1, hr1, hl1, hc1⟩ := RowAt.pod (r1.mono hle0) k hlt
    obtain ⟨vs2, hr2, hl2, hc2⟩ := RowAt.pod (r2.mono hle0) k hlt
    obtain ⟨vp1, vb1, rfl, _, _, _, _, hp1, hb1⟩ := hr1
    obtain ⟨vp2, vb2, rfl, _, _, _, _, hp2, hb2⟩ := hr2
    obtain ⟨ap1, cp1, rfl⟩ := hp1.form
    obtain ⟨ab1, cb1, rfl⟩ := hb1.form
    obtain ⟨ap2, cp2, rfl⟩ := hp2.form
    obtain ⟨ab2, cb2, rfl⟩ := hb2.form
    refine zD ?_; refine RS.drawK [.free, .free, .free, .free, .free, .free, .free, .free, .own, .own, .st, .st] ?_ (by kernel_rfl) (by kernel_rfl); refine D.mvL ?_; refine D.mvI ?_; refine D.idx (i := k) ?_; refine D.ldSAf (vs := podC l[k] (.slice ap1 l[k].picks.length cp1) (.slice ab1 l[k].bears.length cb1)) hl1 hc1 ?_; refine D.mvL ?_; refine D.mvI ?_; refine D.idx (i := k) ?_; refine D.ldSAf (vs := podC l[k] (.slice ap2 l[k].picks.length cp2) (.slice ab2 l[k].bears.length cb2)) hl2 hc2 ?_; refine D.alloc_ ?_; refine D.alloc_ ?_
    refine D.stO2 (podC l[k] (.slice ap1 l[k].picks.length cp1) (.slice ab1 l[k].bears.length cb1)) ?_
    refine D.stK (podC l[k] (.slice ap2 l[k].picks.length cp2) (.slice ab2 l[k].bears.length cb2)) ?_
    refine D.done (fun us σ1 hle1 hfs => ?_)
    refine RS.openOwn (fun b7 h7 => ?_); refine RS.as 7 (.pointer (some ⟨b7, 0, none⟩)) h7 ?_
    refine RS.to (K' := [ownHP (us 6) (.cells (List.toArray (podC l[k] (.slice ap1 l[k].picks.length cp1) (.slice ab1 l[k].bears.length cb1))) 35 (0, 0)), blk b7 (.cells (List.toArray (podC l[k] (.slice ap2 l[k].picks.length cp2) (.slice ab2 l[k].bears.length cb2))) 35 (0, 0))]) ?_ ⟨fun h => h.swap⟩
    refine RS.openOwn (fun b6 h6 => ?_); refine RS.as 6 (.pointer (some ⟨b6, 0, none⟩)) h6 ?_
    refine zN ?_; refine fld ?_; refine ld1 (v := .string _) ?_; refine fld ?_; refine ld1 (v := .string _) ?_; refine neS ?_; refine mvB ?_
    refine LS.part 32 (fun g32 => ?_) (fun g32 => ?_)
    · exfalso; simp at g32
    refine LS.on ?_; refine fld ?_; refine LS.on ?_; refine ld1 (v := .int _ _) ?_; refine LS.on ?_; refine fld ?_; refine LS.on ?_; refine ld1 (v := .int _ _) ?_; refine LS.on ?_; refine neI ?_; refine pk (v := .bool _) ?_; refine mvB ?_
    refine LS.part 39 (fun g39 => ?_) (fun g39 => ?_)
    · exfalso; simp at g39
    refine LS.on ?_; refine fld ?_; refine LS.on ?_; refine ldA [_, _] ?_; refine LS.on ?_; refine fld ?_; refine LS.on ?_; refine ldA [_, _] ?_; refine LS.on ?_; refine neqA (us1 := [.int .i64 _, .int .i64 _]) (us2 := [.int .i64 _, .int .i64 _]) (eq_vec _ _ _ _) (by kernel_rfl) ?_; refine pk (v := .bool _) ?_; refine mvB ?_
    refine LS.part 46 (fun g46 => ?_) (fun g46 => ?_)
    · exfalso; simp at g46
    refine LS.on ?_; refine fld ?_; refine LS.on ?_; refine ld1 (v := .bool _) ?_; refine LS.on ?_; refine fld ?_; refine LS.on ?_; refine ld1 (v := .bool _) ?_; refine LS.on ?_; refine bin_neq_B ?_; refine pk (v := .bool _) ?_; refine mvB ?_
    refine LS.part 53 (fun g53 => ?_) (fun g53 => ?_)
    · exfalso; simp at g53
    refine LS.on ?_; refine fld ?_; refine LS.on ?_; refine ld1 (v := .slice _ _ _) ?_; refine LS.on ?_; refine fld ?_; refine LS.on ?_; refine ld1 (v := .slice _ _ _) ?_; refine LS.on ?_
    refine callP ?_ (hc := fun w hw => rsame_c _ _ l[k].picks w ((hp1.mono hle1).mono hw.imm) ((hp2.mono hle1).mono hw.imm))
    refine LS.on ?_; refine not_ ?_; refine pk (v := .bool _) ?_; refine mvB ?_
    refine LS.part 61 (fun g61 => ?_) (fun g61 => ?_)
    · exfalso; simp at g61
    refine LS.on ?_; refine fld ?_; refine LS.on ?_; refine ld1 (v := .slice _ _ _) ?_; refine LS.on ?_; refine fld ?_; refine LS.on ?_; refine ld1 (v := .slice _ _ _) ?_; refine LS.on ?_
    refine callP ?_ (hc := fun w hw => rsame_c _ _ l[k].bears w ((hb1.mono hle1).mono hw.imm) ((hb2.mono hle1).mono hw.imm))
    refine LS.on ?_; refine not_ ?_; refine pk (v := .bool _) ?_; refine LS.done ?_
    refine zN ?_; refine RS.condF ?_ (h := by simp)
    refine zN ?_; refine mvI ?_; (first | refine addN ?_ | refine addI ?_); refine asI ?_; refine LS.done ?_; refine zN ?_
    exact ih (k + 1, σ1) ⟨hlt, PH.le_trans hle0 hle1⟩ (by omega) ⟨rfl, trivial⟩ (by repeat (first | with_reducible exact Out.refl _ _ _ | exact Out.hv | refine Out.upd ?_ | refine Out.hvIn ?_)) inferInstance rfl
  · refine RS.condF ?_ (h := by simp; omega)
    refine zN ?_; refine asB ?_; refine LS.done ?_; refine zN ?_; refine RS.ret1 (v := .bool _) Tryz.func23 fun w hw => ?_
    exact ⟨rfl, hw.below⟩
end Go.Proofs.YtaokfeonmgpjcaaGreatDoor
namespace Go.Proofs.YtaokfeonmgpjcaaGreatDoor
open Go.JW Go.RowKit

theorem clone_post {w w' : World} {v : Value} {l : List ByteArray} (N : Nat) (h : w'.ownsRow w.heap.size 9 1 v l.length (l.map Value.string)) (hb : Below w.heap.size w w') (hl : ∀ s ∈ l, s.size ≤ 140737488355328) : Post (fun _ => none) [rowD N 9 v l] w w' := by
  obtain ⟨h1, h2⟩ := h
  refine ⟨hb, fun _ _ => rfl, fun b o h => (by cases h), ?_⟩
  have hcl : CellsL (fromN N (fun _ => none)) (l.map Value.string) l := cellsStr _ hl
  have h47 : l.length ≤ l.length := Nat.le_refl _
  rcases h2 with ⟨rfl, h3⟩ | ⟨g, cap, cur, rfl, h3, h4, h5, h6, h7, h8⟩
  · exact ⟨fun _ => False, ⟨_, hcl, hcl.len, hcl.one, none, 0, by rw [h3], by omega, by omega, .inl ⟨h3, rfl⟩⟩, fun _ h => h.elim, trivial⟩
  · refine ⟨fun b => b = g, ⟨_, hcl, hcl.len, hcl.one, _, cap, rfl, h5, by simpa [maxLen] using h6, .inr ⟨g, cur.toList, rfl, rfl, by show hp w' g = _; rw [Array.toArray_toList]; exact h4, by rw [Array.length_toList, h7]; exact Nat.le_refl _, h8⟩⟩, ?_, trivial⟩
    rintro b rfl
    exact ⟨h3, hp_lt h4, rfl⟩
theorem RepL.strs {σ : PH} {v : Value} {l : List ByteArray} (h : RepL σ v l) : ∀ s ∈ l, s.size ≤ 140737488355328 := fun s hs => by
  obtain ⟨i, hi, rfl⟩ := List.mem_iff_getElem.1 hs
  obtain ⟨a, c, rfl⟩ := h.form
  obtain ⟨b, o, _, r⟩ := h.addr (fun h0 => by simp [h0] at hi)
  exact (r.str i hi).2
theorem clone_c (l : List ByteArray) (v : Value) (N : Nat) (w : World) (h : RepL (hp w) v l) (hb : l.length ≤ 1000000) : Calls Tryz.prog 122 #[v] w fun r w' => ∃ v' τ, r = .returned v' ∧ Post τ [rowD N 9 v' l] w w' ∧ True := by
  have hs := RepL.strs h
  obtain ⟨a, c, rfl⟩ := h.form
  cases a with
  | none =>
    have hn : l = [] := Classical.byContradiction fun hn => by obtain ⟨b, o, e, _⟩ := h.addr hn; cases e
    subst hn
    refine (Tryz.slices_Clone_string_nil 0 c w).mono fun r w' ⟨h1, h2⟩ => ⟨_, (fun _ => none), h1, ?_, trivial⟩
    subst h2
    exact clone_post N ⟨rfl, .inl ⟨rfl, rfl⟩⟩ (Below.refl _ _) hs
  | some ad =>
    by_cases hn : l = []
    · subst hn
      refine (Tryz.slices_Clone_string_zero ad c w).mono fun r w' ⟨v', h1, h2, _, h3⟩ => ⟨v', _, h1, clone_post N h2 h3 hs, trivial⟩
    · obtain ⟨b, o, e, hr⟩ := h.addr hn
      injection e with e; subst e
      refine (Tryz.slices_Clone_string b o l.length c l w (Nat.le_refl _) (by omega) fun j hj => ?_).mono fun r w' ⟨v', h1, h2, _, h3⟩ => ⟨v', _, h1, clone_post N (by rw [List.take_length] at h2; exact h2) h3 hs, trivial⟩
      have := (hr.str j hj).1
      rw [← PH.cell_world, List.getD_eq_getElem?_getD, List.getElem?_eq_getElem hj]; simpa using this
end Go.Proofs.YtaokfeonmgpjcaaGreatDoor
namespace Go.Proofs.YtaokfeonmgpjcaaGreatDoor
open Go.JW Go.RowKit

theorem own_c (cs : List Value) (p : PodD) (N : Nat) (w : World) (hr : Rep.rep (hp w) cs p) (hb : p.picks.length ≤ 1000 ∧ p.bears.length ≤ 1000) : Calls Tryz.prog 87 #[.agg cs.toArray] w fun e w' =>
    ∃ (x : Value × Value) (τ : PH), e = .returned (.agg (List.toArray (podC p x.1 x.2))) ∧ Post τ [rowD N 9 x.1 p.picks, rowD N 9 x.2 p.bears] w w' ∧ True := by
  obtain ⟨vp, vb, rfl, hn, hs, hc, hm, hp1, hb1⟩ := hr
  obtain ⟨ap, cp, rfl⟩ := hp1.form
  obtain ⟨ab, cb, rfl⟩ := hb1.form
  refine RS.enter Tryz.func87 Tryz.ntmps87 rfl rfl ?_
  refine zN ?_; refine box_ (v := .agg _) (cs := [_, _, _, _, _, _, _]) (fun b1 => ?_); refine alloc_ (fun b2 => ?_); refine LS.done ?_
  refine zD ?_; refine RS.drawK [.free, .ex, .eff, .free, .ex, .eff, .free, .st, .free, .st] ?_ (by kernel_rfl) (by kernel_rfl); refine D.fld ?_; refine D.ld1 (v := .slice _ _ _) ?_
  refine D.callD N 9 p.picks ?_ (hc := fun _ _ w hle _ hw => clone_c _ _ N w (hp1.mono (PH.le_trans hle hw.imm)) (by omega))
  refine D.fld ?_; refine D.ld1 (v := .slice _ _ _) ?_
  refine D.callD N 9 p.bears ?_ (hc := fun _ _ w hle _ hw => clone_c _ _ N w (hb1.mono (PH.le_trans hle hw.imm)) (by omega))
  refine D.fld ?_
  refine D.stV 5 (fun _ => podC p (.slice ap p.picks.length cp) (.slice ab p.bears.length cb)) (fun us => podC p (us 5) (.slice ab p.bears.length cb)) ?_
  refine D.fld ?_
  refine D.stV 8 (fun us => podC p (us 5) (.slice ab p.bears.length cb)) (fun us => podC p (us 5) (us 8)) ?_
  refine D.done (fun us σ1 hle1 hfs => ?_)
  refine RS.to (K' := [rowD N 9 (us 5) p.picks, rowD N 9 (us 8) p.bears, blk b2 (.cells (List.toArray [.string ⟨#[]⟩, .int .i64 0, .int .i64 0, .int .i64 0, .slice none 0 0, .slice none 0 0, .bool false]) 35 (0, 0)), blk b1 (.cells (List.toArray (podC p (us 5) (us 8))) 35 (0, 0))]) ?_ ⟨fun h => h.swap⟩
  generalize us 5 = v5
  generalize us 8 = v8
  refine RS.formD v5 (fun a5 c5 e5 _ => ?_); subst e5
  refine RS.formD v8 (fun a8 c8 e8 _ => ?_); subst e8
  refine zN ?_; refine ldA [_, _, _, _, _, _, _] ?_; refine st (.agg _) _ ?_; refine LS.done ?_; refine zN ?_; refine RS.retC (ty := 35) Tryz.func87 [_, _, _, _, _, _, _] fun w hw => ?_
  refine ⟨(_, _), (fun _ => none), rfl, ?_, trivial⟩
  refine Sat.post hw (fun _ _ => rfl) (fun b o h => (by cases h)) fun F hF => ?_
  obtain ⟨F1, h1, h2, F2, h3, h4, _⟩ := hF
  exact ⟨F1, rowD_str h1 (fun _ _ => rfl), h2, F2, rowD_str h3 (fun _ _ => rfl), h4, trivial⟩
end Go.Proofs.YtaokfeonmgpjcaaGreatDoor
namespace Go.JW

theorem SepIn.intoGroup {g : VH} {A B : HP} {R K : List HP} {F : Nat → Prop} (h : SepIn g (A :: B :: groupHP R :: K) F) : SepIn g (groupHP (R ++ [A, B]) :: K) F := by
  have h1 : SepIn g (groupHP R :: A :: B :: K) F := (SepIn.swap (SepIn.cons_sub (fun _ h => SepIn.swap h) h))
  have h2 := SepIn.append h1
  have e : R ++ A :: B :: K = (R ++ [A, B]) ++ K := by simp
  rw [e] at h2
  exact SepIn.group h2
theorem SepIn.nilGroup {g : VH} {K : List HP} {F : Nat → Prop} (h : SepIn g K F) : SepIn g (groupHP [] :: K) F := ⟨fun _ => False, trivial, fun _ h => h.elim, h.mono fun _ hb => ⟨hb, fun h => h⟩⟩
theorem SepIn.map {g g' : VH} : ∀ {R : List HP} {F : Nat → Prop}, SepIn g R F → (∀ A ∈ R, ∀ F, A.h g F → A.h g' F) → SepIn g' R F := by
  intro R
  induction R with
  | nil => intro F _ _; trivial
  | cons A R ih => rintro F ⟨F1, h1, h2, h3⟩ h; exact ⟨F1, h A (by simp) _ h1, h2, ih h3 fun B hB => h B (by simp [hB])⟩
section
variable {P : Program} {f : FuncId} {R : Ending → World → Prop} {k : List Item} {n : Nat} {fr : Nat → Value} {w0 : World} {M : Nat → Prop} {σ : PH} {K K' : List HP}
theorem RS.formRc {v : Value} {e s m : Nat} {cs : List Value} {put : HP → List HP} (hf : FindR v K e s m cs put K') (h : ∀ a cap, v = .slice a m cap → m ≤ cap → RS P f R k n fr w0 M σ K) : RS P f R k n fr w0 M σ K :=
  ⟨fun w hw => by
    obtain ⟨F, ⟨_, _, a, cap, e, h2, _⟩, _⟩ := hw.getR (i := hf)
    exact (h a cap e h2).out w hw⟩
theorem RS.cutCap {e s m cap : Nat} {a : Option Addr} {cs : List Value} {put : HP → List HP} (hf : FindR (.slice a m cap) K e s m cs put K') (h : RS P f R k n fr w0 M σ (rowH e s (.slice a m m) m cs :: K')) : RS P f R k n fr w0 M σ K :=
  ⟨fun w hw => h.out w (hw.weak fun F hF => by
    obtain ⟨F1, ⟨h1, h2, a', cap', e1, h3, h4, h5⟩, h6, h7⟩ := hf.get hF
    injection e1 with e1 _ e3
    subst e1; subst e3
    refine ⟨F1, ⟨h1, h2, a, m, rfl, Nat.le_refl _, by omega, ?_⟩, h6, h7⟩
    rcases h5 with ⟨h8, _⟩ | ⟨b, c0, k1, k2, k3, k4, k5⟩
    · exact .inl ⟨h8, h8⟩
    · exact .inr ⟨b, c0, k1, k2, k3, Nat.le_trans (Nat.mul_le_mul_right _ h3) k4, k5⟩)⟩
end
end Go.JW
namespace Go.Proofs.YtaokfeonmgpjcaaGreatDoor
open Go.JW Go.RowKit

abbrev OwnP := PodD × Value × Value
def cellsO (L : List OwnP) : List Value := L.flatMap fun x => podC x.1 x.2.1 x.2.2
def rowsO (N : Nat) (L : List OwnP) : List HP := L.flatMap fun x => [rowD N 9 x.2.1 x.1.picks, rowD N 9 x.2.2 x.1.bears]
def podsO (L : List OwnP) : List PodD := L.map (·.1)
def sliceOf (l : List PodD) (s : Int) : List PodD := l.filter fun p => decide (p.shard = s)
def OkP (p : PodD) : Prop := p.name.size ≤ 140737488355328 ∧ I64 p.shard ∧ I64 p.cpu ∧ I64 p.mem
theorem cellsO_snoc (L : List OwnP) (x : OwnP) : cellsO (L ++ [x]) = cellsO L ++ podC x.1 x.2.1 x.2.2 := by simp [cellsO]
theorem rowsO_snoc (N : Nat) (L : List OwnP) (x : OwnP) : rowsO N (L ++ [x]) = rowsO N L ++ [rowD N 9 x.2.1 x.1.picks, rowD N 9 x.2.2 x.1.bears] := by simp [rowsO]
theorem rowsO_any {N : Nat} {g g' : VH} (hc : g'.cur = g.cur) {L : List OwnP} {F : Nat → Prop} (h : SepIn g (rowsO N L) F) : SepIn g' (rowsO N L) F := h.map fun A hA F hF => by
  simp only [rowsO, List.mem_flatMap] at hA
  obtain ⟨x, _, hx⟩ := hA
  simp only [List.mem_cons, List.mem_nil_iff, or_false] at hx
  rcases hx with rfl | rfl <;> exact rowD_str hF (fun _ _ => by rw [hc])
theorem slice_c (cs : List Value) (g : GangD) (s : Int) (N : Nat) (w : World) (hr : Rep.rep (hp w) cs g) (hb : g.pods.length ≤ 1000) (hbb : ∀ p ∈ g.pods, p.picks.length ≤ 1000 ∧ p.bears.length ≤ 1000) :
    Calls Tryz.prog 42 #[.agg cs.toArray, .int .i64 s] w fun e w' => ∃ (x : Value × List OwnP) (τ : PH), e = .returned x.1 ∧ Post τ [rowH 35 7 x.1 x.2.length (cellsO x.2), groupHP (rowsO N x.2)] w w' ∧ (podsO x.2 = sliceOf g.pods s ∧ ∀ p ∈ podsO x.2, OkP p) := by
  obtain ⟨v, rfl, hid, hl⟩ := hr
  obtain ⟨a, cap, rfl⟩ := hl.form
  have hlen : g.pods.length ≤ 140737488355328 := hl.1
  refine RS.enter Tryz.func42 Tryz.ntmps42 rfl rfl ?_
  refine zN ?_; refine box_ (v := .agg _) (cs := [_, _]) (fun b2 => ?_); refine asL ?_; refine LS.done ?_
  refine zN ?_; refine asL ?_; refine LS.done ?_
  refine zN ?_; refine fld ?_; refine ld1 (v := .slice _ _ _) ?_; refine lenL ?_; refine mvI ?_; refine LS.done ?_
  refine RS.nilRow 35 7 ?_
  refine RS.to (K' := [rowH 35 7 (.slice none 0 0) 0 [], groupHP (rowsO N []), blk b2 (.cells (List.toArray [.int .i64 g.id, .slice a g.pods.length cap]) 28 (0, 0))]) ?_ ⟨fun h => SepIn.cons_sub (fun _ h => SepIn.nilGroup h) h⟩
  refine zN ?_
  refine RS.loopF (X := Nat × Value × List OwnP × PH) 5 25 (fun x => x.1 ≤ g.pods.length ∧ PH.le (hp w) x.2.2.2 ∧ podsO x.2.2.1 = sliceOf (g.pods.take x.1) s ∧ x.2.2.1.length ≤ x.1 ∧ ∀ p ∈ podsO x.2.2.1, OkP p) (fun x => [(11, .int .i64 x.1), (5, x.2.1), (9, .slice a g.pods.length cap), (10, .int .i64 g.pods.length)]) (fun x => x.2.2.2) (fun x => [rowH 35 7 x.2.1 x.2.2.1.length (cellsO x.2.2.1), groupHP (rowsO N x.2.2.1), blk b2 (.cells (List.toArray [.int .i64 g.id, .slice a g.pods.length cap]) 28 (0, 0))]) (fun x => g.pods.length - x.1) (0, .slice none 0 0, [], hp w) ⟨by omega, PH.le_refl _, by simp [podsO, sliceOf], by simp, by simp [podsO]⟩ ⟨rfl, rfl, rfl, rfl, trivial⟩ rfl ⟨fun h => h⟩ ?_
  rintro ⟨i, v, L, σ⟩ gg ⟨hi, hle, hpo, hLl, hok⟩ ih
  simp only at hi hle hpo hLl hok ih ⊢
  refine zN ?_; refine ltI ?_; refine LS.done ?_
  refine zN ?_
  by_cases hlt : i < g.pods.length
  · refine RS.condT ?_ (h := by simp; omega)
    obtain ⟨b, o, rfl, hrow⟩ := hl.addr (fun h => by simp [h] at hlt)
    obtain ⟨vs, hvr, hvl, hvc⟩ := RowAt.pod (hrow.mono hle) i hlt
    have hvr0 := hvr
    obtain ⟨vp, vb, rfl, hnm, hs64, hc64, hm64, hvp, hvb⟩ := hvr
    obtain ⟨ap, cp, rfl⟩ := hvp.form
    obtain ⟨ab, cb, rfl⟩ := hvb.form
    have hpb := hbb g.pods[i] (List.getElem_mem _)
    have htk : sliceOf (g.pods.take (i + 1)) s = sliceOf (g.pods.take i) s ++ (if g.pods[i].shard = s then [g.pods[i]] else []) := by
      rw [List.take_add_one, List.getElem?_eq_getElem hlt, sliceOf, List.filter_append]; simp [sliceOf, List.filter_cons]
    refine zN ?_; refine idx (i := i) ?_; refine ldSA (vs := podC g.pods[i] (.slice ap g.pods[i].picks.length cp) (.slice ab g.pods[i].bears.length cb)) hvl hvc ?_; refine alloc_ (fun b7 => ?_); refine st (.agg _) _ ?_; refine LS.done ?_
    refine zN ?_; refine fld ?_; refine ld1 (v := .int _ _) ?_; refine mvI ?_; refine eqI ?_; refine LS.done ?_
    refine zN ?_
    refine RS.cond (fun c => ?_) (fun c => ?_)
    · simp only [decide_eq_true_eq] at c
      refine zN ?_; refine mv (v := v) ?_; refine ldA [_, _, _, _, _, _, _] ?_
      refine callO (fun x => .agg (List.toArray (podC g.pods[i] x.1 x.2))) (fun (x : Value × Value) => [rowD N 9 x.1 g.pods[i].picks, rowD N 9 x.2 g.pods[i].bears]) (fun _ _ => True) (fun x τ1 σ2 _ hN1 hle2 hτ1 => ?_) (fun w' hw => own_c _ g.pods[i] N w' (Rep.mono hvr0 hw.imm) hpb)
      obtain ⟨v1, v2⟩ := x
      refine LS.to (K' := [rowD N 9 v1 g.pods[i].picks, rowD N 9 v2 g.pods[i].bears, rowH 35 7 v L.length (cellsO L), groupHP (rowsO N L), blk b2 (.cells (List.toArray [.int .i64 g.id, .slice (some ⟨b, o, none⟩) g.pods.length cap]) 28 (0, 0))]) ?_ ⟨fun h => SepIn.cons_sub (fun _ h => SepIn.cons_sub (fun _ h => SepIn.tail h) h) h⟩
      refine LS.formD v1 (fun a1 c1 e1 _ => ?_); subst e1
      refine LS.formD v2 (fun a2 c2 e2 _ => ?_); subst e2
      refine bldS [.agg (List.toArray (podC g.pods[i] (.slice a1 g.pods[i].picks.length c1) (.slice a2 g.pods[i].bears.length c2)))] (podC g.pods[i] (.slice a1 g.pods[i].picks.length c1) (.slice a2 g.pods[i].bears.length c2)) (fun b22 => ?_); refine appR (v := v) (kk := 1) (vy := .slice (some ⟨b22, 0, none⟩) 1 1) (news := podC g.pods[i] (.slice a1 g.pods[i].picks.length c1) (.slice a2 g.pods[i].bears.length c2)) (fun w hw => srcB hw TSlice.eq) (fun v23 => ?_); refine as_ (v := v23) ?_; refine LS.done ?_
      refine zN ?_; (first | refine addN ?_ | refine addI ?_); refine mvI ?_; refine LS.done ?_; refine zN ?_
      have eC := cellsO_snoc L (g.pods[i], .slice a1 g.pods[i].picks.length c1, .slice a2 g.pods[i].bears.length c2)
      have eR := rowsO_snoc N L (g.pods[i], .slice a1 g.pods[i].picks.length c1, .slice a2 g.pods[i].bears.length c2)
      have eP : podsO (L ++ [(g.pods[i], .slice a1 g.pods[i].picks.length c1, .slice a2 g.pods[i].bears.length c2)]) = podsO L ++ [g.pods[i]] := by simp [podsO]
      refine ih (i + 1, v23, L ++ [(g.pods[i], .slice a1 g.pods[i].picks.length c1, .slice a2 g.pods[i].bears.length c2)], σ2) ⟨hlt, PH.le_trans hle hle2, ?_, ?_, ?_⟩ (by omega) ⟨rfl, rfl, rfl, rfl, trivial⟩ (by repeat (first | with_reducible exact Out.refl _ _ _ | exact Out.hv | refine Out.upd ?_ | refine Out.hvIn ?_)) ⟨fun h => ?_⟩ rfl
      · rw [htk, if_pos c, ← hpo]; exact eP
      · show (L ++ [_]).length ≤ i + 1; simp; omega
      · show ∀ p ∈ podsO (L ++ [_]), OkP p
        rw [eP]; intro p hp
        rcases List.mem_append.1 hp with hp | hp
        · exact hok p hp
        · simp at hp; subst hp; exact ⟨hnm, hs64, hc64, hm64⟩
      · simp only [eC, eR, List.length_append, List.length_singleton]
        exact (SepIn.intoGroup (SepIn.cons_sub (fun _ h => SepIn.cons_sub (fun _ h => SepIn.swap h) h) h.tail)).swap
    · simp only [decide_eq_false_iff_not] at c
      refine zN ?_; (first | refine addN ?_ | refine addI ?_); refine mvI ?_; refine LS.done ?_; refine zN ?_
      exact ih (i + 1, v, L, σ) ⟨hlt, hle, by rw [htk, if_neg c, List.append_nil]; exact hpo, Nat.le_succ_of_le hLl, hok⟩ (by omega) ⟨rfl, rfl, rfl, rfl, trivial⟩ (by repeat (first | with_reducible exact Out.refl _ _ _ | exact Out.hv | refine Out.upd ?_ | refine Out.hvIn ?_)) ⟨fun h => h.tail⟩ rfl
  · refine RS.condF ?_ (h := by simp; omega)
    obtain rfl : i = g.pods.length := by omega
    rw [List.take_length] at hpo
    clear ih hlt
    refine RS.formRc (v := v) inferInstance (fun av cv ev hcv => ?_); subst ev
    refine zN ?_; refine mvL ?_; refine mvL ?_; refine lenL ?_; refine mvL ?_; refine lenL ?_; refine slcCut L.length ?_; refine asL ?_; refine LS.done ?_
    refine RS.cutCap (a := av) (m := L.length) (cap := cv) inferInstance ?_
    refine zN ?_; refine RS.ret1 (v := .slice _ _ _) Tryz.func42 fun w hw => ?_
    refine ⟨(_, L), fun _ => none, rfl, ?_, hpo, hok⟩
    refine Sat.post hw (fun _ _ => rfl) (fun b o h => (by cases h)) fun F hF => ?_
    obtain ⟨F1, h1, h2, F2, h3, h4, _⟩ := hF
    exact ⟨F1, h1, h2, F2, (rowsO_any (N := N) (L := L) (show (⟨fun _ => none, hp w⟩ : VH).cur = (⟨σ, hp w⟩ : VH).cur from rfl) h3), h4, trivial⟩
end Go.Proofs.YtaokfeonmgpjcaaGreatDoor
namespace Go.Proofs.YtaokfeonmgpjcaaGreatDoor
open Go.JW Go.RowKit
abbrev Bs := List UInt8
def B (l : Bs) : ByteArray := ⟨l.toArray⟩
def bs (s : ByteArray) : Bs := s.data.toList
theorem B_size (l : Bs) : (B l).size = l.length := by simp [B, ByteArray.size]
theorem B_app (a b : Bs) : B (a ++ b) = B a ++ B b := by
  apply ByteArray.ext; simp [B]
theorem B_bs (s : ByteArray) : B (bs s) = s := by simp [B, bs]
structure RecD where
  kind : Int
  gang : Int
  peers : List Int
  places : List PlaceD
  node : NodeD
def node0 : NodeD := ⟨⟨#[]⟩, 0, 0, [], [], false⟩
def rec0 : RecD := ⟨0, 0, [], [], node0⟩
def digF : Nat → Nat → Bs
  | 0, _ => []
  | f + 1, n => if n < 10 then [UInt8.ofNat (48 + n)] else digF f (n / 10) ++ [UInt8.ofNat (48 + n % 10)]
def digN (n : Nat) : Bs := digF 20 n
def isD (c : UInt8) : Bool := decide (48 ≤ c.toNat) && decide (c.toNat ≤ 57)
def valD (ds : Bs) : Nat := ds.foldl (fun n c => n * 10 + (c.toNat - 48)) 0
theorem dig_nat {d : Nat} (h : d < 10) : (UInt8.ofNat (48 + d)).toNat = 48 + d := by simp [UInt8.toNat_ofNat']; omega
end Go.Proofs.YtaokfeonmgpjcaaGreatDoor
namespace Go.Proofs.YtaokfeonmgpjcaaGreatDoor
open Go.JW Go.RowKit
def np (c : UInt8) : Bool := !(decide (c = 32) || decide (c = 58) || decide (c = 44) || decide (c = 43) || decide (c = 126) || decide (c = 33) || decide (c = 62) || decide (c = 64))
structure St where
  s : Bs
  no : Bool
def nameR (st : St) : Bs × St := (st.s.takeWhile np, ⟨st.s.dropWhile np, st.no || (st.s.takeWhile np).isEmpty⟩)
def signR (c : UInt8) : St → Bool × St
  | ⟨b :: t, no⟩ => if b = c then (true, ⟨t, no⟩) else (false, ⟨b :: t, no⟩)
  | ⟨[], no⟩ => (false, ⟨[], no⟩)
def mustR (c : UInt8) (st : St) : St := ⟨(signR c st).2.s, !(signR c st).1 || st.no⟩
def numBad (ds : Bs) : Bool := decide (15 < ds.length) || (decide (1 < ds.length) && decide (ds.head? = some 48))
def numR (st : St) : Int × St :=
  let ds := st.s.takeWhile isD
  if numBad ds = true then (0, ⟨st.s, true⟩) else ((valD ds : Int), ⟨st.s.dropWhile isD, st.no || ds.isEmpty⟩)
def vecR (st : St) : (Int × Int) × St :=
  let a := numR st
  let b := numR (mustR 44 a.2)
  ((a.1, b.1), b.2)
def signedF (c : UInt8) : Nat → St → List Bs × St
  | 0, st => ([], st)
  | f + 1, st => match signR c st with
    | (true, st1) => let x := nameR st1; let l := signedF c f x.2; (x.1 :: l.1, l.2)
    | (false, st1) => ([], st1)
def signedR (c : UInt8) (st : St) : List Bs × St := signedF c (st.s.length + 1) st
def nodeR (st : St) : NodeD × St :=
  let n := nameR st
  let v := vecR (mustR 58 n.2)
  let m := signedR 43 v.2
  let t := signedR 126 m.2
  let c := signR 33 t.2
  (⟨B n.1, v.1.1, v.1.2, m.1.map B, t.1.map B, c.1⟩, c.2)
def placeR (st : St) : PlaceD × St :=
  let p := nameR st
  let n := nameR (mustR 62 p.2)
  let v := vecR (mustR 58 n.2)
  let a := signR 33 v.2
  (⟨B p.1, B n.1, v.1.1, v.1.2, a.1⟩, a.2)
def peersF : Nat → St → List Int × St
  | 0, st => ([], st)
  | f + 1, st => match signR 44 st with
    | (true, st1) => let x := numR st1; let l := peersF f x.2; (x.1 :: l.1, l.2)
    | (false, st1) => ([], st1)
def peersR (st : St) : List Int × St :=
  let x := numR st
  let l := peersF (x.2.s.length + 1) x.2
  (x.1 :: l.1, l.2)
def endR (st : St) : Bool := !st.no && st.s.isEmpty
def vecT (c m : Int) : Bs := digN c.toNat ++ 44 :: digN m.toNat
def signedT (c : UInt8) : List Bs → Bs
  | [] => []
  | x :: l => c :: x ++ signedT c l
def flagT (is : Bool) : Bs := if is then [33] else []
def nodeT (n : NodeD) : Bs := bs n.name ++ 58 :: vecT n.cpu n.mem ++ signedT 43 (n.marks.map bs) ++ signedT 126 (n.taints.map bs) ++ flagT n.closed
def placeT (p : PlaceD) : Bs := bs p.pod ++ 62 :: bs p.node ++ 58 :: vecT p.cpu p.mem ++ flagT p.alone
def commaT : List Int → Bs
  | [] => []
  | x :: l => 44 :: digN x.toNat ++ commaT l
def peersT : List Int → Bs
  | [] => []
  | x :: l => digN x.toNat ++ commaT l
def okName (x : Bs) : Prop := x ≠ [] ∧ ∀ c ∈ x, np c = true
def vecOk (c m : Int) : Prop := (0 ≤ c ∧ c < 1000000000000000) ∧ (0 ≤ m ∧ m < 1000000000000000)
structure OkNode (n : NodeD) : Prop where
  name : okName (bs n.name)
  vec : vecOk n.cpu n.mem
  marks : ∀ x ∈ n.marks, okName (bs x)
  taints : ∀ x ∈ n.taints, okName (bs x)
structure OkPlace (p : PlaceD) : Prop where
  pod : okName (bs p.pod)
  node : okName (bs p.node)
  vec : vecOk p.cpu p.mem
end Go.Proofs.YtaokfeonmgpjcaaGreatDoor
namespace Go.Proofs.YtaokfeonmgpjcaaGreatDoor
open Go.JW Go.RowKit
def splitB : Bs → List Bs
  | [] => [[]]
  | b :: t => if b = 32 then [] :: splitB t else match splitB t with | [] => [[b]] | w :: ws => (b :: w) :: ws
def joinB : List Bs → Bs
  | [] => []
  | [w] => w
  | w :: v :: ws => w ++ 32 :: joinB (v :: ws)
def wordsP (s : Bs) : List Bs := if (splitB s).any (·.isEmpty) then [] else splitB s
def bareP (n : NodeD) : Bool := decide (n.cpu = 0) && decide (n.mem = 0) && n.marks.isEmpty && n.taints.isEmpty && !n.closed
def gangsP (k : Int) : Bool := decide (3 ≤ k) && decide (k ≤ 7)
def peeredP (k : Int) : Bool := decide (k = 3) || decide (k = 7)
def moreP (r : RecD) : Bool :=
  if ((!gangsP r.kind && !decide (r.gang = 0)) || (!peeredP r.kind && !r.peers.isEmpty) || (!decide (r.kind = 3) && !r.places.isEmpty)) = true then true
  else if r.kind = 1 then false
  else !bareP r.node || (!decide (r.kind = 2) && decide (r.node.name.size ≠ 0))
def riseAt (l : List Int) (i : Nat) : Bool := decide (1 ≤ l.getD i 0) && decide (l.getD i 0 ≤ 4) && (decide (i = 0) || decide (l.getD (i - 1) 0 < l.getD i 0))
def risingP (l : List Int) : Bool := (List.range l.length).all (riseAt l) && decide (0 < l.length)
def placeE (p : PlaceD) : Int := if isName p.pod = false ∨ isName p.node = false then 1 else if sizeOk p.cpu p.mem = false then 2 else 0
def placesBad (l : List PlaceD) : Int := ((l.map placeE).find? fun e => decide (e ≠ 0)).getD 0
def dupP (l : List PlaceD) : Bool := !decide ((l.map (·.pod)).Nodup)
def placesE (l : List PlaceD) : Int := if l.length < 1 ∨ 8 < l.length then 3 else if placesBad l ≠ 0 then placesBad l else if dupP l = true then 4 else 0
def checkP (r : RecD) : Int :=
  if (decide (r.kind < 1) || decide (7 < r.kind) || moreP r) = true then 2
  else if r.kind = 1 then nodeErr r.node
  else if r.kind = 2 then (if isName r.node.name = false then 1 else 0)
  else if r.gang < 1 ∨ 999999 < r.gang ∨ (peeredP r.kind = true ∧ risingP r.peers = false) then 2
  else if r.kind = 3 then placesE r.places
  else 0
def verbT (k : Int) : Bs :=
  if k = 1 then [110, 111, 100, 101] else if k = 2 then [103, 111, 110, 101] else if k = 3 then [112, 114, 101, 112, 97, 114, 101] else if k = 4 then [99, 111, 109, 109, 105, 116]
  else if k = 5 then [97, 98, 111, 114, 116] else if k = 6 then [114, 101, 108, 101, 97, 115, 101] else if k = 7 then [103, 97, 110, 103] else []
def kindP (w : Bs) : Int :=
  if w = verbT 1 then 1 else if w = verbT 2 then 2 else if w = verbT 3 then 3 else if w = verbT 4 then 4 else if w = verbT 5 then 5 else if w = verbT 6 then 6 else if w = verbT 7 then 7 else 0
def textW (r : RecD) : List Bs :=
  if r.kind = 1 then [verbT 1, nodeT r.node]
  else if r.kind = 2 then [verbT 2, bs r.node.name]
  else verbT r.kind :: digN r.gang.toNat :: ((if peeredP r.kind = true then [peersT r.peers] else []) ++ (if r.kind = 3 then r.places.map placeT else []))
def textP (r : RecD) : Bs := joinB (textW r)
def okO {α : Type} (x : α × St) : Option α := if endR x.2 = true then some x.1 else none
def nodeO (w : Bs) : Option NodeD := okO (nodeR ⟨w, false⟩)
def nameO (w : Bs) : Option Bs := okO (nameR ⟨w, false⟩)
def numO (w : Bs) : Option Int := okO (numR ⟨w, false⟩)
def peersO (w : Bs) : Option (List Int) := okO (peersR ⟨w, false⟩)
def placeO (w : Bs) : Option PlaceD := okO (placeR ⟨w, false⟩)
def placesO : List Bs → Option (List PlaceD)
  | [] => some []
  | w :: ws => (placeO w).bind fun p => (placesO ws).map fun l => p :: l
def readO : List Bs → Option RecD
  | w0 :: w1 :: rest =>
    if kindP w0 = 0 then none
    else if kindP w0 = 1 then (if rest = [] then (nodeO w1).map fun n => { rec0 with kind := 1, node := n } else none)
    else if kindP w0 = 2 then (if rest = [] then (nameO w1).map fun n => { rec0 with kind := 2, node := { node0 with name := B n } } else none)
    else if kindP w0 = 3 then
      match rest with
      | [] => none
      | w2 :: rest2 => match numO w1, peersO w2, placesO rest2 with
        | some g, some p, some l => some { rec0 with kind := 3, gang := g, peers := p, places := l }
        | _, _, _ => none
    else if kindP w0 = 7 then
      match rest with
      | [w2] => match numO w1, peersO w2 with
        | some g, some p => some { rec0 with kind := 7, gang := g, peers := p }
        | _, _ => none
      | _ => none
    else (if rest = [] then (numO w1).map fun g => { rec0 with kind := kindP w0, gang := g } else none)
  | _ => none
def parseP (s : Bs) : RecD × Int := match readO (wordsP s) with
  | none => (rec0, 8)
  | some r => if checkP r = 0 then (r, 0) else (rec0, checkP r)
end Go.Proofs.YtaokfeonmgpjcaaGreatDoor
namespace Go.Proofs.YtaokfeonmgpjcaaGreatDoor
open Go.JW Go.RowKit
structure MsgD where
  kind : Int
  frm : Int
  dst : Int
  gang : Int
  pods : List PodD
  peers : List Int
  yes : Bool
structure GgD where
  id : Int
  at_ : Int
  age : Int
  pods : List PodD
  peers : List Int
  waits : List Int
structure CoD where
  gs : List GgD
  rs : List RecD
def turnP (at_ : Int) (g : GgD) : GgD := { g with at_ := at_, waits := g.peers }
def askedP (g : GgD) (d : Int) : MsgD :=
  if g.at_ = 1 then ⟨1, 0, d, g.id, sliceOf g.pods d, [], false⟩
  else if g.at_ = 2 then ⟨3, 0, d, g.id, [], g.peers, false⟩
  else if g.at_ = 3 then ⟨5, 0, d, g.id, [], [], true⟩
  else if g.at_ = 4 then ⟨5, 0, d, g.id, [], [], false⟩
  else if g.at_ = 5 then ⟨9, 0, d, g.id, [], [], false⟩
  else ⟨0, 0, d, g.id, [], [], false⟩
def allP (g : GgD) : List MsgD := g.waits.map (askedP g)
def findP (gs : List GgD) (id : Int) : Option GgD := gs.find? fun g => decide (g.id = id)
def putP : List GgD → GgD → List GgD
  | [], g => [g]
  | x :: l, g => if x.id < g.id then x :: putP l g else g :: x :: l
def modP (gs : List GgD) (id : Int) (f : GgD → GgD) : List GgD := gs.map fun g => if g.id = id then f g else g
def recP (kind id : Int) (peers : List Int) : RecD := { rec0 with kind := kind, gang := id, peers := peers }
noncomputable def submitP (n : Int) (c : CoD) (g : GangD) : CoD × List MsgD × Int :=
  if gangErr g n ≠ 0 then (c, [], gangErr g n)
  else if (findP c.gs g.id).isSome = true then (c, [], 4)
  else (⟨putP c.gs ⟨g.id, 1, 0, g.pods, shardsOf g.pods, shardsOf g.pods⟩, c.rs ++ [recP 7 g.id (shardsOf g.pods)]⟩, allP ⟨g.id, 1, 0, g.pods, shardsOf g.pods, shardsOf g.pods⟩, 0)
def openP (g : GgD) : Prop := g.at_ = 1 ∨ g.at_ = 2
instance (g : GgD) : Decidable (openP g) := inferInstanceAs (Decidable (_ ∨ _))
def doneP (who : Int) (g : GgD) : GgD := { g with waits := g.waits.filter fun x => !decide (x = who) }
def answeredP (g : GgD) (m : MsgD) : GgD × List RecD × List MsgD :=
  if m.yes = false then (turnP 4 g, [], allP (turnP 4 g))
  else if (doneP m.frm g).waits.length ≠ 0 then (doneP m.frm g, [], [])
  else if g.at_ = 1 then (turnP 2 g, [], allP (turnP 2 g))
  else (turnP 3 g, [recP 4 g.id []], allP (turnP 3 g))
def getG (g : GgD) (m : MsgD) : GgD × List RecD × List MsgD :=
  if m.kind = 2 then (if g.at_ = 1 then answeredP g m else (g, [], []))
  else if m.kind = 4 then (if g.at_ = 2 then answeredP g m else if g.at_ = 3 ∨ g.at_ = 4 then (g, [], [askedP g m.frm]) else (g, [], []))
  else if m.kind = 6 then (if g.at_ = 3 ∨ g.at_ = 4 then (doneP m.frm g, [], []) else (g, [], []))
  else if m.kind = 10 then (if g.at_ = 5 then (doneP m.frm g, [], []) else (g, [], []))
  else (g, [], [])
def tellP (m : MsgD) (yes : Bool) : MsgD := ⟨8, 0, m.frm, m.gang, [], [], yes⟩
def askP (c : CoD) (m : MsgD) : List MsgD :=
  match findP c.gs m.gang with
  | none => [tellP m false]
  | some g => if openP g then [] else [tellP m (!decide (g.at_ = 4))]
def getP (c : CoD) (m : MsgD) : CoD × List MsgD :=
  if m.kind = 7 then (c, askP c m)
  else match findP c.gs m.gang with
    | none => (c, [])
    | some g => if m.frm ∈ g.peers then (⟨modP c.gs m.gang fun g => (getG g m).1, c.rs ++ (getG g m).2.1⟩, (getG g m).2.2) else (c, [])
def tickG (g : GgD) : GgD := if openP g then (if g.age + 1 < 8 then { g with age := g.age + 1 } else turnP 4 { g with age := g.age + 1 }) else g
def tickP (c : CoD) : CoD × List MsgD := (⟨c.gs.map tickG, c.rs⟩, (c.gs.map tickG).flatMap allP)
def stateP (gs : List GgD) (id : Int) : Int := match findP gs id with | none => 0 | some g => g.at_
def newS (gs : List GgD) (r : RecD) : List GgD :=
  if r.kind = 7 then putP gs ⟨r.gang, 4, 0, [], r.peers, r.peers⟩
  else if r.kind = 4 then modP gs r.gang (turnP 3)
  else if r.kind = 6 then modP gs r.gang (turnP 5)
  else gs
def newP (rs : List RecD) : List GgD := rs.foldl newS []
def backG (g : GgD) : GgD := ⟨g.id, if g.at_ = 3 then 3 else if g.at_ = 5 then 5 else 4, 0, [], g.peers, g.peers⟩

structure GgOk (g : GgD) : Prop where
  id : 1 ≤ g.id ∧ g.id ≤ 999999
  at_ : 1 ≤ g.at_ ∧ g.at_ ≤ 5
  age : 0 ≤ g.age ∧ g.age ≤ 8
  young : openP g → g.age ≤ 7
  pods : g.pods.length ≤ 8
  few : ∀ p ∈ g.pods, p.picks.length ≤ 1000 ∧ p.bears.length ≤ 1000
  rise : Rising g.peers
  few2 : 1 ≤ g.peers.length ∧ g.peers.length ≤ 8
  ends : ∀ p ∈ g.peers, 1 ≤ p ∧ p ≤ 4
  waits : g.waits.Sublist g.peers
structure CoOk (c : CoD) : Prop where
  ids : c.gs.Pairwise fun a b => a.id < b.id
  gs : ∀ g ∈ c.gs, GgOk g
  back : newP c.rs = c.gs.map backG
end Go.Proofs.YtaokfeonmgpjcaaGreatDoor
namespace Go.Proofs.YtaokfeonmgpjcaaGreatDoor
open Go.JW Go.RowKit
variable {gs a b : List GgD} {g x : GgD} {id id' : Int} {f : GgD → GgD}
abbrev Ids (gs : List GgD) : Prop := gs.Pairwise fun a b => a.id < b.id
theorem find_some (h : findP gs id = some g) : ∃ a b, gs = a ++ g :: b ∧ g.id = id ∧ ∀ x ∈ a, x.id ≠ id := by
  unfold findP at h
  obtain ⟨h1, a, b, e, h2⟩ := List.find?_eq_some_iff_append.1 h
  exact ⟨a, b, e, of_decide_eq_true h1, fun x hx hh => by have := h2 x hx; simp [hh] at this⟩
theorem find_none : findP gs id = none ↔ ∀ x ∈ gs, x.id ≠ id := by simp [findP, List.find?_eq_none]
theorem find_mem (h : findP gs id = some g) : g ∈ gs ∧ g.id = id := by
  obtain ⟨a, b, rfl, e, _⟩ := find_some h
  exact ⟨by simp, e⟩
theorem Ids.around (h : Ids (a ++ g :: b)) : (∀ x ∈ a, x.id < g.id) ∧ ∀ x ∈ b, g.id < x.id := by
  obtain ⟨_, h2, h3⟩ := List.pairwise_append.1 h
  exact ⟨fun x hx => h3 x hx g (by simp), (List.pairwise_cons.1 h2).1⟩
theorem mod_same (h : ∀ x ∈ gs, x.id ≠ id) : modP gs id f = gs := by
  unfold modP
  conv => rhs; rw [← List.map_id gs]
  exact List.map_congr_left fun x hx => if_neg (h x hx)
theorem mod_split (h : Ids (a ++ g :: b)) : modP (a ++ g :: b) g.id f = a ++ f g :: b := by
  obtain ⟨h1, h2⟩ := h.around
  have ea := mod_same (f := f) (gs := a) (id := g.id) fun x hx => by have := h1 x hx; omega
  have eb := mod_same (f := f) (gs := b) (id := g.id) fun x hx => by have := h2 x hx; omega
  unfold modP at ea eb ⊢
  rw [List.map_append, List.map_cons, if_pos rfl, ea, eb]
theorem find_split (h : Ids (a ++ g :: b)) : findP (a ++ g :: b) g.id = some g := by
  obtain ⟨h1, _⟩ := h.around
  unfold findP
  rw [List.find?_append, List.find?_eq_none.2 (fun x hx => by have := h1 x hx; simp; omega)]
  simp
theorem map_ids (hf : ∀ g, (f g).id = g.id) (h : Ids gs) : Ids (gs.map f) := by
  unfold Ids
  rw [List.pairwise_map]
  exact h.imp fun hab => by rw [hf, hf]; exact hab
theorem mod_ids (hf : ∀ g, (f g).id = g.id) (h : Ids gs) : Ids (modP gs id f) := map_ids (fun g => by split <;> simp [hf]) h
theorem put_perm : ∀ (gs : List GgD) (g : GgD), (putP gs g).Perm (g :: gs)
  | [], g => List.Perm.refl _
  | x :: l, g => by
    unfold putP
    split
    · exact ((put_perm l g).cons x).trans (List.Perm.swap g x l)
    · exact List.Perm.refl _
theorem put_mem : x ∈ putP gs g ↔ x = g ∨ x ∈ gs := by rw [(put_perm gs g).mem_iff, List.mem_cons]
theorem put_ids : ∀ {gs : List GgD}, Ids gs → (∀ x ∈ gs, x.id ≠ g.id) → Ids (putP gs g)
  | [], _, _ => by simp [putP, Ids]
  | y :: l, h, hn => by
    obtain ⟨h1, h2⟩ := List.pairwise_cons.1 h
    unfold putP
    split
    · rename_i hlt
      refine List.pairwise_cons.2 ⟨fun z hz => ?_, put_ids h2 fun x hx => hn x (by simp [hx])⟩
      rcases put_mem.1 hz with rfl | hz
      · exact hlt
      · exact h1 z hz
    · rename_i hlt
      have hy := hn y (by simp)
      refine List.pairwise_cons.2 ⟨fun z hz => ?_, h⟩
      rcases List.mem_cons.1 hz with rfl | hz
      · omega
      · have := h1 z hz; omega
theorem put_map (hf : ∀ g, (f g).id = g.id) : ∀ (gs : List GgD) (g : GgD), (putP gs g).map f = putP (gs.map f) (f g)
  | [], g => rfl
  | x :: l, g => by
    rw [List.map_cons]
    unfold putP
    rw [hf, hf]
    split
    · rw [List.map_cons, put_map hf l g]
    · rfl
theorem back_id (g : GgD) : (backG g).id = g.id := rfl
theorem answered_id (g : GgD) (m : MsgD) : (answeredP g m).1.id = g.id := by
  unfold answeredP
  split
  · rfl
  · split
    · rfl
    · split <;> rfl
theorem getG_id (m : MsgD) (g : GgD) : (getG g m).1.id = g.id := by
  unfold getG
  repeat' split
  all_goals first | rfl | exact answered_id g m
theorem tick_id (g : GgD) : (tickG g).id = g.id := by
  unfold tickG
  split
  · split <;> rfl
  · rfl
theorem back_back (g : GgD) : backG (backG g) = backG g := by
  unfold backG
  by_cases h : g.at_ = 3
  · simp [h]
  · by_cases h5 : g.at_ = 5
    · simp [h5]
    · simp [h, h5]
theorem GgOk.turn (h : GgOk g) (k : Int) (hk : 1 ≤ k ∧ k ≤ 5) (hy : k ≤ 2 → g.age ≤ 7) : GgOk (turnP k g) :=
  ⟨h.id, hk, h.age, fun ho => hy (by rcases ho with ho | ho <;> (have ho : k = _ := ho; omega)), h.pods, h.few, h.rise, h.few2, h.ends, List.Sublist.refl _⟩
theorem GgOk.done (h : GgOk g) (w : Int) : GgOk (doneP w g) := ⟨h.id, h.at_, h.age, h.young, h.pods, h.few, h.rise, h.few2, h.ends, List.filter_sublist.trans h.waits⟩
theorem back_at (g : GgD) : (backG g).at_ = 3 ∨ (backG g).at_ = 4 ∨ (backG g).at_ = 5 := by
  unfold backG
  by_cases h : g.at_ = 3
  · simp [h]
  · by_cases h5 : g.at_ = 5 <;> simp [h, h5]
theorem GgOk.back (h : GgOk g) : GgOk (backG g) :=
  ⟨h.id, by have := back_at g; omega, ⟨Int.le_refl _, by show (0 : Int) ≤ 8; omega⟩, fun _ => by show (0 : Int) ≤ 7; omega, Nat.zero_le _, fun p hp => absurd hp (List.not_mem_nil), h.rise, h.few2, h.ends, List.Sublist.refl _⟩
theorem GgOk.answered (h : GgOk g) (m : MsgD) : GgOk (answeredP g m).1 := by
  unfold answeredP
  split
  · exact h.turn 4 (by omega) (by omega)
  · split
    · exact h.done _
    · split
      · rename_i h1; exact h.turn 2 (by omega) (fun _ => h.young (.inl h1))
      · exact h.turn 3 (by omega) (by omega)
theorem GgOk.get (h : GgOk g) (m : MsgD) : GgOk (getG g m).1 := by
  unfold getG
  repeat' split
  all_goals first | exact h | exact h.answered m | exact h.done _
theorem GgOk.tick (h : GgOk g) : GgOk (tickG g) := by
  have ha := h.age
  unfold tickG
  split
  · rename_i ho
    have hy := h.young ho
    split
    · rename_i h8
      exact ⟨h.id, h.at_, ⟨by show 0 ≤ g.age + 1; omega, by show g.age + 1 ≤ 8; omega⟩, fun _ => by show g.age + 1 ≤ 7; omega, h.pods, h.few, h.rise, h.few2, h.ends, h.waits⟩
    · exact ⟨h.id, ⟨by show (1 : Int) ≤ 4; omega, by show (4 : Int) ≤ 5; omega⟩, ⟨by show 0 ≤ g.age + 1; omega, by show g.age + 1 ≤ 8; omega⟩, fun ho => (by rcases ho with ho | ho <;> (have ho : (4 : Int) = _ := ho; omega)), h.pods, h.few, h.rise, h.few2, h.ends, List.Sublist.refl _⟩
  · exact h
end Go.Proofs.YtaokfeonmgpjcaaGreatDoor
namespace Go.Proofs.YtaokfeonmgpjcaaGreatDoor
open Go.JW Go.RowKit
variable {gs a b : List GgD} {g g' x : GgD} {rs ex : List RecD} {c : CoD} {f : GgD → GgD} {id n : Int}
theorem new_snoc (rs : List RecD) (r : RecD) : newP (rs ++ [r]) = newS (newP rs) r := by unfold newP; rw [List.foldl_append]; rfl
theorem CoOk.put1 (h : CoOk ⟨a ++ g :: b, rs⟩) (hid : g'.id = g.id) (hok : GgOk g') (hx : (ex = [] ∧ backG g' = backG g) ∨ (ex = [recP 4 g.id []] ∧ backG g' = turnP 3 (backG g)) ∨ (ex = [recP 6 g.id []] ∧ backG g' = turnP 5 (backG g))) : CoOk ⟨a ++ g' :: b, rs ++ ex⟩ := by
  have hm : Ids ((a ++ g :: b).map backG) := map_ids back_id h.ids
  rw [List.map_append, List.map_cons] at hm
  refine ⟨?_, fun x hx => ?_, ?_⟩
  · have h2 : ∀ y : GgD, (if y.id = g.id then g' else y).id = y.id := fun y => by
      split
      · rename_i e; rw [hid, e]
      · rfl
    have := mod_ids (id := g.id) (f := fun y => if y.id = g.id then g' else y) h2 h.ids
    rw [mod_split h.ids, if_pos rfl] at this
    exact this
  · rcases List.mem_append.1 hx with hx | hx
    · exact h.gs x (by simp [hx])
    · rcases List.mem_cons.1 hx with rfl | hx
      · exact hok
      · exact h.gs x (by simp [hx])
  · have h3 : newP rs = (a ++ g :: b).map backG := h.back
    show newP (rs ++ ex) = (a ++ g' :: b).map backG
    rw [List.map_append, List.map_cons] at h3 ⊢
    rcases hx with ⟨rfl, e⟩ | ⟨rfl, e⟩ | ⟨rfl, e⟩
    · rw [List.append_nil, h3, e]
    · rw [new_snoc, h3, e]; exact mod_split (g := backG g) (f := turnP 3) hm
    · rw [new_snoc, h3, e]; exact mod_split (g := backG g) (f := turnP 5) hm
theorem back_open (h : openP g) (k : Int) (hk : k = 1 ∨ k = 2 ∨ k = 4) : backG (turnP k g) = backG g := by
  rcases h with h | h <;> rcases hk with rfl | rfl | rfl <;> simp [backG, turnP, h]
theorem back_commit (h : openP g) : backG (turnP 3 g) = turnP 3 (backG g) := by rcases h with h | h <;> simp [backG, turnP, h]
theorem answered_back (h : openP g) (m : MsgD) : ((answeredP g m).2.1 = [] ∧ backG (answeredP g m).1 = backG g) ∨ ((answeredP g m).2.1 = [recP 4 g.id []] ∧ backG (answeredP g m).1 = turnP 3 (backG g)) := by
  unfold answeredP
  split
  · exact .inl ⟨rfl, back_open h 4 (by omega)⟩
  · split
    · exact .inl ⟨rfl, rfl⟩
    · split
      · exact .inl ⟨rfl, back_open h 2 (by omega)⟩
      · exact .inr ⟨rfl, back_commit h⟩
theorem get_back (g : GgD) (m : MsgD) : ((getG g m).2.1 = [] ∧ backG (getG g m).1 = backG g) ∨ ((getG g m).2.1 = [recP 4 g.id []] ∧ backG (getG g m).1 = turnP 3 (backG g)) := by
  unfold getG
  split
  · split
    · rename_i h; exact answered_back (.inl h) m
    · exact .inl ⟨rfl, rfl⟩
  · split
    · split
      · rename_i h; exact answered_back (.inr h) m
      · split <;> exact .inl ⟨rfl, rfl⟩
    · split
      · split <;> exact .inl ⟨rfl, rfl⟩
      · split
        · split <;> exact .inl ⟨rfl, rfl⟩
        · exact .inl ⟨rfl, rfl⟩
theorem tick_back (g : GgD) : backG (tickG g) = backG g := by
  unfold tickG
  split
  · rename_i h
    split
    · rfl
    · exact back_open (g := { g with age := g.age + 1 }) h 4 (by omega)
  · rfl
theorem CoOk.tick (h : CoOk c) : CoOk (tickP c).1 := by
  refine ⟨map_ids tick_id h.ids, fun x hx => ?_, ?_⟩
  · obtain ⟨y, hy, rfl⟩ := List.mem_map.1 hx
    exact (h.gs y hy).tick
  · show newP c.rs = (c.gs.map tickG).map backG
    rw [h.back, List.map_map]
    exact List.map_congr_left fun g _ => (tick_back g).symm
theorem CoOk.new (h : CoOk c) : CoOk ⟨newP c.rs, c.rs⟩ := by
  refine ⟨?_, fun x hx => ?_, ?_⟩
  · show Ids (newP c.rs); rw [h.back]; exact map_ids back_id h.ids
  · have hx : x ∈ newP c.rs := hx
    rw [h.back] at hx
    obtain ⟨y, hy, rfl⟩ := List.mem_map.1 hx
    exact (h.gs y hy).back
  · show newP c.rs = (newP c.rs).map backG
    rw [h.back, List.map_map]
    exact List.map_congr_left fun g _ => (back_back g).symm
theorem CoOk.nil : CoOk ⟨[], []⟩ := ⟨List.Pairwise.nil, fun _ h => absurd h (List.not_mem_nil), rfl⟩
theorem CoOk.get (h : CoOk c) (m : MsgD) : CoOk (getP c m).1 := by
  unfold getP
  split
  · exact h
  · cases hf : findP c.gs m.gang with
    | none => exact h
    | some g =>
      dsimp only
      split
      · obtain ⟨a, b, e, hid, _⟩ := find_some hf
        obtain ⟨gs, rs⟩ := c
        dsimp only at e h ⊢
        subst e
        rw [← hid, mod_split h.ids]
        exact h.put1 (getG_id m g) ((h.gs g (by simp)).get m) ((get_back g m).elim .inl fun h => .inr (.inl h))
      · exact h
theorem pod_ok {p : PodD} (h : podErr p n = 0) : (1 ≤ p.shard ∧ p.shard ≤ n) ∧ p.picks.length ≤ 4 ∧ p.bears.length ≤ 4 := by
  unfold podErr at h
  split at h
  · omega
  · split at h
    · omega
    · rename_i h1
      split at h
      · omega
      · rename_i h2
        simp only [Bool.or_eq_true, Bool.not_eq_true', decide_eq_true_eq, not_or, Bool.not_eq_false] at h1 h2
        have k1 := h2.1; have k2 := h2.2
        simp only [isSet, Bool.and_eq_true, decide_eq_true_eq] at k1 k2
        omega
theorem first_ok : ∀ {l : List PodD}, firstErr n l = 0 → ∀ p ∈ l, podErr p n = 0
  | [], _, p, hp => absurd hp (List.not_mem_nil)
  | x :: l, h, p, hp => by
    unfold firstErr at h
    split at h
    · omega
    · rename_i h0
      rcases List.mem_cons.1 hp with rfl | hp
      · omega
      · exact first_ok h p hp
theorem gang_ok {g : GangD} (h : gangErr g n = 0) : (1 ≤ g.id ∧ g.id ≤ 999999) ∧ (1 ≤ g.pods.length ∧ g.pods.length ≤ 8) ∧ ∀ p ∈ g.pods, podErr p n = 0 := by
  unfold gangErr at h
  split at h
  · omega
  · split at h
    · omega
    · split at h
      · omega
      · rename_i h1 h2 h3
        exact ⟨by omega, by omega, first_ok (by omega)⟩
theorem GgOk.of {g : GangD} (h : gangErr g n = 0) (hn : n ≤ 4) : GgOk ⟨g.id, 1, 0, g.pods, shardsOf g.pods, shardsOf g.pods⟩ := by
  obtain ⟨h1, h2, h3⟩ := gang_ok h
  have hl := shards_len g.pods
  refine ⟨h1, ⟨by show (1 : Int) ≤ 1; omega, by show (1 : Int) ≤ 5; omega⟩, ⟨by show (0 : Int) ≤ 0; omega, by show (0 : Int) ≤ 8; omega⟩, fun _ => by show (0 : Int) ≤ 7; omega, h2.2, fun p hp => ?_, shards_rising _, ⟨?_, by show (shardsOf g.pods).length ≤ 8; omega⟩, fun s hs => ?_, List.Sublist.refl _⟩
  · have := pod_ok (h3 p hp); omega
  · show 1 ≤ (shardsOf g.pods).length
    cases hg : g.pods with
    | nil => rw [hg] at h2; simp at h2
    | cons p l =>
      have hm : p.shard ∈ shardsOf (p :: l) := (mem_shards _ _).2 (by simp [shardL])
      cases hs : shardsOf (p :: l) with
      | nil => rw [hs] at hm; exact absurd hm (List.not_mem_nil)
      | cons _ _ => simp
  · have hs : s ∈ shardL g.pods := (mem_shards _ _).1 hs
    obtain ⟨p, hp, rfl⟩ := List.mem_map.1 hs
    have := pod_ok (h3 p hp); omega
theorem CoOk.submit (h : CoOk c) (hn : n ≤ 4) (g : GangD) : CoOk (submitP n c g).1 := by
  unfold submitP
  split
  · exact h
  · split
    · exact h
    · rename_i h1 h2
      have hf : ∀ x ∈ c.gs, x.id ≠ g.id := by
        rw [← find_none]
        cases hh : findP c.gs g.id with
        | none => rfl
        | some y => rw [hh] at h2; simp at h2
      have hg := GgOk.of (g := g) (Decidable.not_not.1 h1) hn
      refine ⟨put_ids h.ids hf, fun x hx => ?_, ?_⟩
      · rcases put_mem.1 hx with rfl | hx
        · exact hg
        · exact h.gs x hx
      · show newP (c.rs ++ [_]) = (putP c.gs _).map backG
        rw [new_snoc, h.back, put_map back_id]
        rfl
theorem rec_more (k : Int) (id : Int) (l : List Int) (hk : 3 ≤ k ∧ k ≤ 7) (hl : peeredP k = true ∨ l = []) : moreP (recP k id l) = false := by
  have h1 : gangsP k = true := by simp [gangsP, hk]
  have h2 : bareP rec0.node = true := by decide
  have h3 : rec0.node.name.size = 0 := rfl
  have h4 : (recP k id l).places = [] := rfl
  unfold moreP
  rw [if_neg, if_neg (by show ¬ k = 1; omega)]
  · show (!bareP rec0.node || _) = false
    rw [h2]
    simp only [Bool.not_true, Bool.false_or, Bool.and_eq_false_iff]
    exact .inr (by simp [h3, show (recP k id l).node = rec0.node from rfl])
  · show ¬ ((!gangsP k && _) || (!peeredP k && !l.isEmpty) || (!decide (k = 3) && !(recP k id l).places.isEmpty)) = true
    rw [h1, h4]
    rcases hl with hl | hl
    · rw [hl]; simp
    · rw [hl]; simp
theorem rec_ok46 (k : Int) (hk : k = 4 ∨ k = 6) (id : Int) (h : 1 ≤ id ∧ id ≤ 999999) : checkP (recP k id []) = 0 := by
  have hm := rec_more k id [] (by omega) (.inr rfl)
  have hp : peeredP k = false := by rcases hk with rfl | rfl <;> decide
  have e1 : (recP k id []).kind = k := rfl
  have e2 : (recP k id []).gang = id := rfl
  unfold checkP
  rw [hm, e1, e2, hp, if_neg (by simp; omega), if_neg (by omega), if_neg (by omega), if_neg (by simp; omega), if_neg (by omega)]
theorem peers_rise {l : List Int} (h : Rising l) (h1 : 1 ≤ l.length) (he : ∀ p ∈ l, 1 ≤ p ∧ p ≤ 4) : risingP l = true := by
  unfold risingP
  simp only [Bool.and_eq_true, List.all_eq_true, List.mem_range, decide_eq_true_eq]
  refine ⟨fun i hi => ?_, h1⟩
  have gd : ∀ j, (hj : j < l.length) → l.getD j 0 = l[j] := fun j hj => by simp [List.getD_eq_getElem?_getD, hj]
  unfold riseAt
  rw [gd i hi]
  have := he l[i] (List.getElem_mem _)
  simp only [Bool.and_eq_true, Bool.or_eq_true, decide_eq_true_eq]
  refine ⟨this, ?_⟩
  by_cases hi0 : i = 0
  · exact .inl hi0
  · right
    rw [gd (i - 1) (by omega)]
    exact List.pairwise_iff_getElem.1 h (i - 1) i (by omega) hi (by omega)
theorem rec_ok7 (h : GgOk g) : checkP (recP 7 g.id g.peers) = 0 := by
  have hm := rec_more 7 g.id g.peers (by omega) (.inl (by decide))
  have hr := peers_rise h.rise h.few2.1 h.ends
  have hid := h.id
  have e1 : (recP 7 g.id g.peers).kind = 7 := rfl
  have e2 : (recP 7 g.id g.peers).gang = g.id := rfl
  have e3 : (recP 7 g.id g.peers).peers = g.peers := rfl
  unfold checkP
  rw [hm, e1, e2, e3, hr, if_neg (by simp), if_neg (by omega), if_neg (by omega), if_neg (by simp; omega), if_neg (by omega)]
end Go.Proofs.YtaokfeonmgpjcaaGreatDoor
namespace Go.JW
section
variable {κ α : Type} [KeyT κ]
theorem eqb_self (k : κ) : KeyT.eqb k k = true := (KeyT.eqb_iff k k).2 rfl
theorem asg_none {l : List (κ × α)} {k : κ} : asg l k = none ↔ k ∉ l.map (·.1) := by
  induction l with
  | nil => simp [asg]
  | cons p l ih =>
    simp only [asg, List.map_cons, List.mem_cons, not_or]
    cases h : KeyT.eqb k p.1 with
    | true => have := (KeyT.eqb_iff _ _).1 h; subst this; simp
    | false =>
      have : k ≠ p.1 := fun e => by rw [e, eqb_self] at h; cases h
      simp [this, ih]
theorem asg_some_mem {l : List (κ × α)} {k : κ} {x : α} (h : asg l k = some x) : (k, x) ∈ l := by
  induction l with
  | nil => cases h
  | cons p l ih =>
    simp only [asg] at h
    cases e : KeyT.eqb k p.1 with
    | true => rw [e] at h; injection h with h; have := (KeyT.eqb_iff _ _).1 e; subst this; subst h; simp
    | false => rw [e] at h; exact List.mem_cons_of_mem _ (ih h)
theorem asg_mem : ∀ {l : List (κ × α)} {p : κ × α}, (l.map (·.1)).Nodup → p ∈ l → asg l p.1 = some p.2 := by
  intro l
  induction l with
  | nil => intro p _ h; simp at h
  | cons a l ih =>
    intro p hn hp
    rw [List.map_cons, List.nodup_cons] at hn
    simp only [asg]
    rcases List.mem_cons.1 hp with rfl | hp
    · rw [(KeyT.eqb_iff _ _).2 rfl]; rfl
    · have : KeyT.eqb p.1 a.1 = false := Bool.eq_false_iff.2 fun h => hn.1 (((KeyT.eqb_iff _ _).1 h) ▸ List.mem_map_of_mem hp)
      rw [this]; exact ih hn.2 hp
theorem aset_none {l : List (κ × α)} {k : κ} {x : α} (h : asg l k = none) : aset l k x = l ++ [(k, x)] := by
  induction l with
  | nil => rfl
  | cons p l ih =>
    simp only [asg] at h
    cases e : KeyT.eqb k p.1 with
    | true => rw [e] at h; cases h
    | false => rw [e] at h; simp [aset, e, ih h]
theorem asg_perm {l l' : List (κ × α)} (hp : l.Perm l') (hn : (l.map (·.1)).Nodup) (k : κ) : asg l k = asg l' k := by
  cases h : asg l' k with
  | none => rw [asg_none] at h ⊢; rw [(hp.map _).mem_iff]; exact h
  | some x => exact asg_mem (p := (k, x)) hn (hp.mem_iff.2 (asg_some_mem h))
end
structure PtrD where
  b : Nat
instance : Rep PtrD where
  sz := 1
  rep _ cs p := cs = [.pointer (some ⟨p.b, 0, none⟩)]
  len h := by rw [h]; rfl
  one h := by rw [h]; rfl
  mono h _ := h
instance : VRep PtrD where
  of cs := cs.headD undef
instance : VRep Bool where
  of cs := cs.headD undef
end Go.JW
namespace Go.Proofs.YtaokfeonmgpjcaaGreatDoor
open Go.JW Go.RowKit
abbrev GX := GgD × Nat
def prs (xs : List GX) : List (Int × PtrD) := xs.map fun x => (x.1.id, ⟨x.2⟩)
def fsts (xs : List GX) : List GgD := xs.map (·.1)
theorem prs_keys (xs : List GX) : (prs xs).map (·.1) = (fsts xs).map (·.id) := by simp [prs, fsts]
theorem ids_nodup {gs : List GgD} (h : Ids gs) : (gs.map (·.id)).Nodup := by
  rw [List.Nodup, List.pairwise_map]
  exact h.imp fun hab e => by omega
theorem prs_none {xs : List GX} {id : Int} (h : findP (fsts xs) id = none) : asg (prs xs) id = none := by
  rw [asg_none, prs_keys]
  intro hm
  obtain ⟨g, hg, e⟩ := List.mem_map.1 hm
  exact find_none.1 h g hg e
theorem prs_some {xs : List GX} {id : Int} {g : GgD} (hi : Ids (fsts xs)) (h : findP (fsts xs) id = some g) : ∃ x1 b x2, xs = x1 ++ (g, b) :: x2 ∧ g.id = id ∧ asg (prs xs) id = some ⟨b⟩ := by
  obtain ⟨hm, e⟩ := find_mem h
  obtain ⟨⟨g', b⟩, hx, e2⟩ := List.mem_map.1 hm
  dsimp only at e2
  subst e2
  obtain ⟨x1, x2, e3⟩ := List.append_of_mem hx
  refine ⟨x1, b, x2, e3, e, ?_⟩
  rw [← e]
  exact asg_mem (p := (g'.id, (⟨b⟩ : PtrD))) (by rw [prs_keys]; exact ids_nodup hi) (List.mem_map.2 ⟨_, hx, rfl⟩)
theorem put_x : ∀ (xs : List GX) (g : GgD) (b : Nat), ∃ ys : List GX, fsts ys = putP (fsts xs) g ∧ ys.Perm ((g, b) :: xs)
  | [], g, b => ⟨[(g, b)], rfl, List.Perm.refl _⟩
  | x :: l, g, b => by
    obtain ⟨ys, h1, h2⟩ := put_x l g b
    by_cases h : x.1.id < g.id
    · exact ⟨x :: ys, by simp only [fsts, List.map_cons] at h1 ⊢; rw [putP, if_pos h, h1], (h2.cons x).trans (List.Perm.swap _ _ _)⟩
    · exact ⟨(g, b) :: x :: l, by simp only [fsts, List.map_cons] at h1 ⊢; rw [putP, if_neg h], List.Perm.refl _⟩
end Go.Proofs.YtaokfeonmgpjcaaGreatDoor
namespace Go.Proofs.YtaokfeonmgpjcaaGreatDoor
open Go.JW Go.RowKit
theorem decode_bytes (s : ByteArray) (pos k : Nat) (_ : pos < s.size) (h1 : pos < k) (h2 : k < pos + (Utf8.decode s pos).2) : k < s.size ∧ 128 ≤ (s.get! k).toNat := by
  have key : ∀ j, pos + j < s.size → ((s.get! (pos + j)).toNat / 64 == 2) = true → 128 ≤ (s.get! (pos + j)).toNat := fun j _ h => by
    have := eq_of_beq h; omega
  simp only [Utf8.decode] at h2
  repeat' split at h2
  all_goals simp only at h2
  all_goals try omega
  all_goals simp only [Bool.and_eq_true, decide_eq_true_eq] at *
  · obtain rfl : k = pos + 1 := by omega
    exact ⟨by omega, key 1 (by omega) (by simp_all)⟩
  · rcases (show k = pos + 1 ∨ k = pos + 2 by omega) with rfl | rfl
    · exact ⟨by omega, key 1 (by omega) (by simp_all)⟩
    · exact ⟨by omega, key 2 (by omega) (by simp_all)⟩
  · rcases (show k = pos + 1 ∨ k = pos + 2 ∨ k = pos + 3 by omega) with rfl | rfl | rfl
    · exact ⟨by omega, key 1 (by omega) (by simp_all)⟩
    · exact ⟨by omega, key 2 (by omega) (by simp_all)⟩
    · exact ⟨by omega, key 3 (by omega) (by simp_all)⟩
theorem bs_len (s : ByteArray) : (bs s).length = s.size := Array.length_toList
theorem get_bs (s : ByteArray) (i : Nat) (h : i < s.size) : (bs s)[i]'(by rw [bs_len]; exact h) = s.get! i := by
  show (s.data.toList)[i] = s.data[i]!
  rw [getElem!_pos s.data i h]; simp
theorem low_rune (s : ByteArray) : ∀ (b pos i : Nat), s.size ≤ pos + b → pos ≤ i → i < s.size → (s.get! i).toNat < 128 → (i, ((s.get! i).toNat : Int)) ∈ runesAt s b pos := by
  intro b
  induction b with
  | zero => intro pos i h1 h2 h3; omega
  | succ b ih =>
    intro pos i h1 h2 h3 h4
    have hp : pos < s.size := by omega
    have hw := width_pos s pos hp
    simp only [runesAt]
    rw [if_pos hp]
    by_cases e : i = pos
    · subst e
      have hg : (s[i]'h3).toNat = (s.get! i).toNat := by
        have := get_at s i h3
        rw [← this]; rfl
      rw [decode_ascii s i h3 (by rw [hg]; exact h4), hg]
      exact List.mem_cons_self
    · refine List.mem_cons_of_mem _ (ih _ i (by omega) ?_ h3 h4)
      refine Nat.le_of_not_lt fun hlt => ?_
      have := (decode_bytes s pos i hp (by omega) hlt).2
      omega
theorem letter_np {c : UInt8} (h : isLetter (c.toNat : Int) = true ∨ isDigit (c.toNat : Int) = true) : np c = true := by
  unfold np
  simp only [Bool.not_eq_true', Bool.or_eq_false_iff, decide_eq_false_iff_not]
  refine ⟨⟨⟨⟨⟨⟨⟨?_, ?_⟩, ?_⟩, ?_⟩, ?_⟩, ?_⟩, ?_⟩, ?_⟩ <;> (rintro rfl; revert h; decide)
theorem isName_ok {s : ByteArray} (h : isName s = true) : okName (bs s) := by
  simp only [isName, Bool.and_eq_true, decide_eq_true_eq] at h
  obtain ⟨h1, h2, _⟩ := h
  refine ⟨fun e => h2 (by rw [← B_bs s, e]; rfl), fun c hc => ?_⟩
  obtain ⟨i, hi, rfl⟩ := List.mem_iff_getElem.1 hc
  have hsz : i < s.size := by rw [bs_len] at hi; exact hi
  rw [get_bs s i hsz]
  by_cases hlow : (s.get! i).toNat < 128
  · have hm := low_rune s s.size 0 i (by omega) (Nat.zero_le _) hsz hlow
    simp only [nameRunes, List.all_eq_true] at h1
    have := h1 _ hm
    simp only [Bool.or_eq_true, Bool.and_eq_true] at this
    exact letter_np (this.elim .inl fun h => .inr h.1)
  · unfold np
    simp only [Bool.not_eq_true', Bool.or_eq_false_iff, decide_eq_false_iff_not]
    refine ⟨⟨⟨⟨⟨⟨⟨?_, ?_⟩, ?_⟩, ?_⟩, ?_⟩, ?_⟩, ?_⟩, ?_⟩ <;> (intro e; rw [e] at hlow; revert hlow; decide)
theorem isSet_ok {l : List ByteArray} (h : isSet l = true) : ∀ x ∈ l, okName (bs x) := by
  simp only [isSet, Bool.and_eq_true, setTo, List.all_eq_true, List.mem_range] at h
  intro x hx
  obtain ⟨i, hi, rfl⟩ := List.mem_iff_getElem.1 hx
  have := h.1 i hi
  simp only [setAtI, Bool.and_eq_true] at this
  have h2 := this.1
  rw [show l.getD i ⟨#[]⟩ = l[i] by simp [List.getD_eq_getElem?_getD, hi]] at h2
  exact isName_ok h2
theorem size_vec {c m : Int} (h : sizeOk c m = true) : vecOk c m := by
  simp only [sizeOk, size1, Bool.and_eq_true, decide_eq_true_eq] at h
  exact ⟨by omega, by omega⟩
theorem node_ok {n : NodeD} (h : nodeErr n = 0) : OkNode n := by
  unfold nodeErr at h
  cases e1 : isName n.name with
  | false => rw [e1, if_pos rfl] at h; cases h
  | true =>
    rw [e1, if_neg (by simp)] at h
    cases e2 : sizeOk n.cpu n.mem with
    | false => rw [e2, if_pos rfl] at h; cases h
    | true =>
      rw [e2, if_neg (by simp)] at h
      cases e3 : (!isSet n.marks || !isSet n.taints) with
      | true => rw [e3, if_pos rfl] at h; cases h
      | false =>
        simp only [Bool.or_eq_false_iff, Bool.not_eq_false'] at e3
        exact ⟨isName_ok e1, size_vec e2, isSet_ok e3.1, isSet_ok e3.2⟩
theorem placeE_ok {p : PlaceD} (h : placeE p = 0) : OkPlace p := by
  unfold placeE at h
  by_cases h1 : isName p.pod = false ∨ isName p.node = false
  · rw [if_pos h1] at h; cases h
  · rw [if_neg h1] at h
    by_cases h2 : sizeOk p.cpu p.mem = false
    · rw [if_pos h2] at h; cases h
    · simp only [not_or, Bool.not_eq_false] at h1 h2
      exact ⟨isName_ok h1.1, isName_ok h1.2, size_vec h2⟩
theorem placesBad_zero {l : List PlaceD} : placesBad l = 0 ↔ ∀ p ∈ l, placeE p = 0 := by
  unfold placesBad
  induction l with
  | nil => simp
  | cons p l ih =>
    simp only [List.map_cons, List.find?_cons, List.mem_cons, forall_eq_or_imp]
    by_cases h : placeE p = 0
    · simp only [h, ne_eq, not_true_eq_false, decide_false, true_and]; exact ih
    · simp [h]
inductive Okr : RecD → Prop
  | node (n : NodeD) (h : nodeErr n = 0) : Okr { rec0 with kind := 1, node := n }
  | gone (nm : ByteArray) (h : isName nm = true) : Okr { rec0 with kind := 2, node := { node0 with name := nm } }
  | prep (g : Int) (p : List Int) (l : List PlaceD) (hg : 1 ≤ g ∧ g ≤ 999999) (hp : risingP p = true) (hl : placesE l = 0) : Okr { rec0 with kind := 3, gang := g, peers := p, places := l }
  | gang (g : Int) (p : List Int) (hg : 1 ≤ g ∧ g ≤ 999999) (hp : risingP p = true) : Okr { rec0 with kind := 7, gang := g, peers := p }
  | plain (k g : Int) (hk : k = 4 ∨ k = 5 ∨ k = 6) (hg : 1 ≤ g ∧ g ≤ 999999) : Okr { rec0 with kind := k, gang := g }
theorem name_empty {s : ByteArray} (h : s.size = 0) : s = ⟨#[]⟩ := by
  rw [← B_bs s]
  have : bs s = [] := List.eq_nil_of_length_eq_zero (by rw [bs_len]; exact h)
  rw [this]; rfl
theorem bare_eq {n : NodeD} (h : bareP n = true) : n = { node0 with name := n.name } := by
  obtain ⟨nm, c, m, ms, ts, cl⟩ := n
  simp only [bareP, Bool.and_eq_true, decide_eq_true_eq, List.isEmpty_iff, Bool.not_eq_true'] at h
  obtain ⟨⟨⟨⟨rfl, rfl⟩, rfl⟩, rfl⟩, rfl⟩ := h
  rfl
theorem okr_of {r : RecD} (h : checkP r = 0) : Okr r := by
  obtain ⟨k, g, p, l, n⟩ := r
  unfold checkP at h
  cases e0 : (decide (k < 1) || decide (7 < k) || moreP ⟨k, g, p, l, n⟩) with
  | true => simp only [e0, if_true] at h; cases h
  | false =>
    simp only [e0] at h
    rw [if_neg (by simp)] at h
    simp only [Bool.or_eq_false_iff, decide_eq_false_iff_not] at e0
    obtain ⟨⟨k1, k2⟩, hm⟩ := e0
    unfold moreP at hm
    simp only at hm
    cases e1 : ((!gangsP k && !decide (g = 0)) || (!peeredP k && !p.isEmpty) || (!decide (k = 3) && !l.isEmpty)) with
    | true => simp only [e1, if_true] at hm; cases hm
    | false =>
      simp only [e1] at hm
      rw [if_neg (by simp)] at hm
      simp only [Bool.or_eq_false_iff, Bool.and_eq_false_iff, Bool.not_eq_false', decide_eq_true_eq, List.isEmpty_iff] at e1
      obtain ⟨⟨hg0, hp0⟩, hl0⟩ := e1
      by_cases hk1 : k = 1
      · subst hk1
        rw [if_pos rfl] at h
        have a1 : g = 0 := hg0.elim (fun h => absurd h (by decide)) id
        have a2 : p = [] := hp0.elim (fun h => absurd h (by decide)) id
        have a3 : l = [] := hl0.elim (fun h => absurd h (by decide)) id
        subst a1; subst a2; subst a3
        exact Okr.node n h
      · rw [if_neg hk1] at h hm
        simp only [Bool.or_eq_false_iff, Bool.not_eq_false', Bool.and_eq_false_iff, decide_eq_true_eq, decide_eq_false_iff_not, Decidable.not_not] at hm
        have hb := bare_eq hm.1
        by_cases hk2 : k = 2
        · subst hk2
          rw [if_pos rfl] at h
          have a1 : g = 0 := hg0.elim (fun h => absurd h (by decide)) id
          have a2 : p = [] := hp0.elim (fun h => absurd h (by decide)) id
          have a3 : l = [] := hl0.elim (fun h => absurd h (by decide)) id
          subst a1; subst a2; subst a3
          rw [hb]
          refine Okr.gone n.name ?_
          cases e : isName n.name with
          | true => rfl
          | false => simp only [e, if_true] at h; cases h
        · rw [if_neg hk2] at h
          have hn : n = node0 := by
            have := hm.2.elim (fun h => absurd h hk2) id
            rw [hb, name_empty this]
            rfl
          subst hn
          by_cases hgb : g < 1 ∨ 999999 < g ∨ (peeredP k = true ∧ risingP p = false)
          · rw [if_pos hgb] at h; cases h
          · rw [if_neg hgb] at h
            simp only [not_or, not_and, Bool.not_eq_false] at hgb
            obtain ⟨g1, g2, g3⟩ := hgb
            by_cases hk3 : k = 3
            · subst hk3
              rw [if_pos rfl] at h
              exact Okr.prep g p l (by omega) (g3 (by decide)) h
            · have a3 : l = [] := hl0.elim (fun h => absurd h hk3) id
              subst a3
              by_cases hk7 : k = 7
              · subst hk7; exact Okr.gang g p (by omega) (g3 (by decide))
              · have a2 : p = [] := hp0.elim (fun h => by simp [peeredP, hk3, hk7] at h) id
                subst a2
                exact Okr.plain k g (by omega) (by omega)
end Go.Proofs.YtaokfeonmgpjcaaGreatDoor
namespace Go.Proofs.YtaokfeonmgpjcaaGreatDoor
open Go.JW Go.RowKit
def ns (l : Bs) : Prop := ∀ c ∈ l, c ≠ 32
end Go.Proofs.YtaokfeonmgpjcaaGreatDoor
namespace Go.Proofs.YtaokfeonmgpjcaaGreatDoor
open Go.JW Go.RowKit
def bindS {α β : Type} (f : St → α × St) (k : α → St → β × St) : St → β × St := fun st => k (f st).1 (f st).2
def Stk {α : Type} (f : St → α × St) : Prop := ∀ st, st.no = true → (f st).2.no = true
structure Sim {α : Type} (f g : St → α × St) : Prop where
  stf : Stk f
  stg : Stk g
  no : ∀ st, st.no = false → (g st).2.no = (f st).2.no
  eq : ∀ st, st.no = false → (f st).2.no = false → g st = f st
theorem Sim.bind {α β : Type} {f g : St → α × St} {k k' : α → St → β × St} (h : Sim f g) (hk : ∀ a, Sim (k a) (k' a)) : Sim (bindS f k) (bindS g k') where
  stf st hs := (hk _).stf _ (h.stf st hs)
  stg st hs := (hk _).stg _ (h.stg st hs)
  no st hs := by
    unfold bindS
    cases e : (f st).2.no with
    | false => rw [h.eq st hs e]; exact (hk _).no _ e
    | true => rw [(hk _).stf _ e, (hk _).stg _ (by rw [h.no st hs]; exact e)]
  eq st hs hf := by
    unfold bindS at hf ⊢
    cases e : (f st).2.no with
    | false => rw [h.eq st hs e]; exact (hk _).eq _ e hf
    | true => rw [(hk _).stf _ e] at hf; cases hf
theorem Sim.same {α : Type} {f : St → α × St} (h : Stk f) : Sim f f := ⟨h, h, fun _ _ => rfl, fun _ _ _ => rfl⟩
theorem Sim.pure {α : Type} (a : α) : Sim (fun st => (a, st)) (fun st => (a, st)) := Sim.same fun _ h => h
theorem Sim.okO {α : Type} {f g : St → α × St} (h : Sim f g) (w : Bs) : Go.Proofs.YtaokfeonmgpjcaaGreatDoor.okO (g ⟨w, false⟩) = Go.Proofs.YtaokfeonmgpjcaaGreatDoor.okO (f ⟨w, false⟩) := by
  cases e : (f ⟨w, false⟩).2.no with
  | false => rw [h.eq _ rfl e]
  | true =>
    have e2 := h.no ⟨w, false⟩ rfl
    rw [e] at e2
    simp [Go.Proofs.YtaokfeonmgpjcaaGreatDoor.okO, endR, e, e2]
end Go.Proofs.YtaokfeonmgpjcaaGreatDoor
namespace Go.Proofs.YtaokfeonmgpjcaaGreatDoor
open Go.JW Go.RowKit
theorem decDigits_eq : ∀ (f n : Nat), n < 10 ^ f → 0 < f → Lib.decDigits n = digF f n := by
  intro f
  induction f with
  | zero => intro n _ h; omega
  | succ f ih =>
    intro n hn _
    rw [Lib.decDigits]
    simp only [digF]
    by_cases h : n < 10
    · rw [dif_pos h, if_pos h]
    · rw [dif_neg h, if_neg h]
      have hp : 10 ^ (f + 1) = 10 ^ f * 10 := Nat.pow_succ ..
      have hf : 0 < f := by
        rcases Nat.eq_zero_or_pos f with e | e
        · subst e; simp at hn; omega
        · exact e
      rw [ih (n / 10) (by rw [Nat.div_lt_iff_lt_mul (by omega)]; omega) hf]
theorem itoa_eq {n : Int} (h : 0 ≤ n ∧ n ≤ 9223372036854775807) : Lib.itoa n = digN n.toNat := by
  unfold Lib.itoa digN
  rw [if_neg (by omega)]
  exact decDigits_eq 20 _ (Nat.lt_of_le_of_lt (show n.toNat ≤ 9223372036854775807 by omega) (by decide)) (by omega)
theorem join_lib : ∀ ws : List Bs, Lib.join ws [32] = joinB ws := by
  intro ws
  induction ws with
  | nil => rfl
  | cons w ws ih =>
    cases ws with
    | nil => rw [Lib.join_one]; rfl
    | cons v ws =>
      rw [Lib.join_cons]
      rw [Lib.join_cons] at ih
      simp only [joinB, ← ih, Lib.joinTail, List.map_cons, List.flatten_cons]
      simp
theorem comma_join : ∀ l : List Int, Lib.joinTail [44] (l.map fun x => digN x.toNat) = commaT l := by
  intro l
  induction l with
  | nil => rfl
  | cons x l ih => simp only [commaT, Lib.joinTail, List.map_cons, List.flatten_cons] at ih ⊢; rw [ih]; simp
theorem peers_join (l : List Int) : Lib.join (l.map fun x => digN x.toNat) [44] = peersT l := by
  cases l with
  | nil => rfl
  | cons x l => rw [List.map_cons, Lib.join_cons, comma_join]; rfl
def verbsB : Bs := [110, 111, 100, 101, 32, 103, 111, 110, 101, 32, 112, 114, 101, 112, 97, 114, 101, 32, 99, 111, 109, 109, 105, 116, 32, 97, 98, 111, 114, 116, 32, 114, 101, 108, 101, 97, 115, 101, 32, 103, 97, 110, 103]
theorem fields_verbs : Lib.fields verbsB = [verbT 1, verbT 2, verbT 3, verbT 4, verbT 5, verbT 6, verbT 7] := by decide +kernel
end Go.Proofs.YtaokfeonmgpjcaaGreatDoor
namespace Go.JW
theorem Sat.front {w0 w : World} {M : Nat → Prop} {σ : PH} (Ls T : List HP) {K : List HP} (h : Sat w0 M σ (Ls ++ (T ++ K)) w) : Sat w0 M σ (T ++ (Ls ++ K)) w := h.perm (List.perm_append_comm_assoc _ _ _)
section
variable {P : Program} {q : Bool} {ops : Array Oper} {f : FuncId} {R : Ending → World → Prop} {k : List Item} {n : Nat} {fr : Nat → Value} {w0 : World} {M : Nat → Prop} {σ : PH} {K K' : List HP}
variable {rest : List Oper} {d : Nat} {ty : TypeId} {pos : String} {aft : Array Edge}
theorem Sat.freeze0 {α : Type} {ri : Rep α} {N e : Nat} {l : List α} {put : HP → List HP} {v : Value} {w : World} (hw : Sat w0 M σ K w) (hl : l.length ≤ 140737488355328) (hf : FindD v K α ri N e l put K') : ∃ σ', PH.le σ σ' ∧ RepL σ' v l ∧ Sat w0 M σ' K' w := by
  obtain ⟨cs, hc, hw'⟩ := hw.openD hf
  obtain ⟨a, cap, σ', rfl, h2, h3, h4, h5, h6, h7⟩ := hw'.freezeRow (hf := FindR.head)
  refine ⟨σ', h3, ⟨hl, a, cap, rfl, h2, fun hn => ?_⟩, h4⟩
  rcases h7 with ⟨h8, _⟩ | ⟨b, rfl, g1, _, g2, g3⟩
  · exact absurd (List.eq_nil_of_length_eq_zero h8) hn
  · refine ⟨b, 0, rfl, (hc.mono (PH.le_trans (fromN_le N σ) h3)).rowAt fun j hj => ?_⟩
    rw [hc.len] at hj
    rw [Nat.zero_add, ← g3 j hj]
theorem RS.freeze0 {α : Type} {ri : Rep α} {N e : Nat} {l : List α} {put : HP → List HP} (v : Value) (h : ∀ σ', PH.le σ σ' → RepL σ' v l → RS P f R k n fr w0 M σ' K') (hl : l.length ≤ 140737488355328 := by omega) (hf : FindD v K α ri N e l put K' := by infer_instance) :
    RS P f R k n fr w0 M σ K :=
  ⟨fun w hw => by obtain ⟨σ', h1, h2, h3⟩ := hw.freeze0 hl hf; exact (h σ' h1 h2).out w h3⟩
theorem LS.freeze0 {α : Type} {ri : Rep α} {N e : Nat} {l : List α} {put : HP → List HP} {ll : List Oper} (v : Value) (h : ∀ σ', PH.le σ σ' → RepL σ' v l → LS P false ops f R k ll n fr w0 M σ' K') (hl : l.length ≤ 140737488355328 := by omega) (hf : FindD v K α ri N e l put K' := by infer_instance) :
    LS P false ops f R k ll n fr w0 M σ K :=
  ⟨fun w hw => by obtain ⟨σ', h1, h2, h3⟩ := hw.freeze0 hl hf; exact (h σ' h1 h2).out w h3⟩
theorem RS.ow {us : Us} (h : RS P f R k n fr w0 M σ K) : RS P f R k n fr w0 M σ (ownsL [] us ++ K) := h
def fldV (P : Program) (t : TypeId) (i : Nat) : Option (Nat × Option Nat) :=
  match P.underlying t with
  | some (.struct fs) => (fs[i]?).bind fun f => match aggOf P f.type with | some false => some (f.offset, none) | some true => (szOf P f.type).map fun s => (f.offset, some s) | none => none
  | _ => none
class TFldV (P : Program) (t : TypeId) (i : Nat) (o : outParam Nat) : Prop where eq : fldV P t i = some (o, none)
class TFldA (P : Program) (t : TypeId) (i : Nat) (o s : outParam Nat) : Prop where eq : fldV P t i = some (o, some s)
variable {t : TypeId} {x : Operand} {i o : Nat} {cs : List Value}
variable {H : HS} {O : List (Nat × Obj)} {Kf : Us → List HP} {Kb : List HP} {E : List Nat} {sg : Bool} {tags : List Tag}
theorem D.bin_neq_B {a b : Bool} {x y : Operand} {t' : TypeId} [ht : TBool P t] (h : LD P f R k n w0 M σ Kb rest tags ⟨upd fr d (.bool (!(a == b))), H, O, Kf, E, sg⟩) (hx : ∀ us, ev n (fill fr H us) x = .bool a := by intro _; rfl) (hy : ∀ us, ev n (fill fr H us) y = .bool b := by intro _; rfl) :
    LD P f R k n w0 M σ Kb (⟨some d, .binOp .neq t x y t', ty, pos, aft, none⟩ :: rest) (.free :: tags) ⟨fr, H, O, Kf, E, sg⟩ :=
  D.free h fun us w => by
    have e : (Op.equal t (.bool a) (.bool b)).run P w = .ok (a == b) w := run_equalIn_bool' w 9999 t a b ht.eq
    simp only [execOp, hx us, hy us, eqGuard, Sem.run_bind]
    simp [binOp, e]
end

section
variable {P : Program} {f : FuncId} {R : Ending → World → Prop} {k : List Item} {n : Nat} {fr : Nat → Value} {w0 : World} {M : Nat → Prop} {σ : PH}
variable {rest : List Oper} {d : Nat} {ty : TypeId} {pos : String} {aft : Array Edge} {H : HS} {O : List (Nat × Obj)} {Kf : Us → List HP} {Kb : List HP} {E : List Nat} {tags : List Tag}
theorem D.eqA {b : Bool} {us1 us2 : List Value} {sg : Bool} {x y : Operand} {t t' : TypeId} (heq : ∀ w, (Op.equalIn 10000 t (.agg us1.toArray) (.agg us2.toArray)).run P w = .ok b w) (hg : P.eqGuardType P.depth t = false) (h : LD P f R k n w0 M σ Kb rest tags ⟨upd fr d (.bool b), H, O, Kf, E, sg⟩)
    (hx : ∀ us, ev n (fill fr H us) x = .agg us1.toArray := by intro _; rfl) (hy : ∀ us, ev n (fill fr H us) y = .agg us2.toArray := by intro _; rfl) : LD P f R k n w0 M σ Kb (⟨some d, .binOp .eql t x y t', ty, pos, aft, none⟩ :: rest) (.free :: tags) ⟨fr, H, O, Kf, E, sg⟩ :=
  D.free h fun us w => by
    simp only [execOp, hx us, hy us, Sem.run_bind, run_eqGuard_agg w .eql t x y _ _ hg, Result.andThen_ok, run_eql_struct, heq]
    rfl
theorem D.neqA {b : Bool} {us1 us2 : List Value} {sg : Bool} {x y : Operand} {t t' : TypeId} (heq : ∀ w, (Op.equalIn 10000 t (.agg us1.toArray) (.agg us2.toArray)).run P w = .ok b w) (hg : P.eqGuardType P.depth t = false) (h : LD P f R k n w0 M σ Kb rest tags ⟨upd fr d (.bool (!b)), H, O, Kf, E, sg⟩)
    (hx : ∀ us, ev n (fill fr H us) x = .agg us1.toArray := by intro _; rfl) (hy : ∀ us, ev n (fill fr H us) y = .agg us2.toArray := by intro _; rfl) : LD P f R k n w0 M σ Kb (⟨some d, .binOp .neq t x y t', ty, pos, aft, none⟩ :: rest) (.free :: tags) ⟨fr, H, O, Kf, E, sg⟩ :=
  D.free h fun us w => by
    simp only [execOp, hx us, hy us, Sem.run_bind, run_eqGuard_agg w .neq t x y _ _ hg, Result.andThen_ok, run_neq_struct, heq]
    rfl
end
end Go.JW
namespace Go.Proofs.YtaokfeonmgpjcaaGreatDoor
end Go.Proofs.YtaokfeonmgpjcaaGreatDoor
namespace Go.JW
open Go.Proofs.YtaokfeonmgpjcaaGreatDoor
section
variable {P : Program} {q : Bool} {ops : Array Oper} {f : FuncId} {R : Ending → World → Prop} {k : List Item} {n : Nat} {fr : Nat → Value} {w0 : World} {M : Nat → Prop} {σ : PH} {K K' : List HP}
variable {rest : List Oper} {d : Nat} {ty : TypeId} {pos : String} {aft : Array Edge} {x y z : Operand} {t t' : TypeId}
end
end Go.JW
namespace Go.Proofs.YtaokfeonmgpjcaaGreatDoor
open Go.JW Go.RowKit
def TabAt (σ : PH) (g : Nat) (cs : Array Value) : Prop := ∃ T r, σ g = some (.cells cs T r)
structure LibAt (σ : PH) : Prop where
  spc : TabAt σ 0 (Lib.asciiSpaceTab.map fun z => Value.int .u8 z).toArray
  pow : TabAt σ 2 (Lib.pow10Tab.map fun z => Value.int .u64 z).toArray
  max : ∃ m, σ.cell 3 0 = some (.int .i64 m)
theorem TabAt.mono {σ σ' : PH} {g : Nat} {cs : Array Value} (h : TabAt σ g cs) (hs : PH.le σ σ') : TabAt σ' g cs := by
  obtain ⟨T, r, h⟩ := h; exact ⟨T, r, hs _ _ h⟩
theorem LibAt.mono {σ σ' : PH} (h : LibAt σ) (hs : PH.le σ σ') : LibAt σ' :=
  ⟨h.spc.mono hs, h.pow.mono hs, h.max.imp fun _ h => PH.cell_mono hs h⟩
theorem TabAt.is {w : World} {g : Nat} {name : String} {k : IntKind} {zs : List Int} (h : TabAt (hp w) g (zs.map fun z => Value.int k z).toArray) (hg : Tryz.prog.globalNamed name = some g) : Lib.TabIs Tryz.prog w name k zs := by
  obtain ⟨T, r, h⟩ := h
  have h : w.heap[g]? = some (.cells (zs.map fun z => Value.int k z).toArray T r) := h
  unfold Lib.TabIs World.var?
  rw [hg, Option.bind_some, h]
theorem LibAt.tabP {w : World} (h : LibAt (hp w)) : Lib.TabIs Tryz.prog w "internal/strconv.uint64pow10" .u64 Lib.pow10Tab := h.pow.is (by kernel_rfl)
theorem LibAt.tabS {w : World} (h : LibAt (hp w)) : Lib.TabIs Tryz.prog w "strings.asciiSpace" .u8 Lib.asciiSpaceTab := h.spc.is (by kernel_rfl)
theorem below_refl (w : World) : Below w.heap.size w w := (Sat.start w).below
theorem below_grown (w : World) (k : Nat) (os : Array Obj) : Below w.heap.size w (Go.Sort.grow (w.drewN k) os) :=
  ⟨rfl, rfl, rfl, by simp [Go.Sort.grow, World.drewN], fun k hk => by simp [Go.Sort.grow, World.drewN, Array.getElem?_append, hk]⟩
theorem itoa_c (n : Int) (h0 : 0 ≤ n ∧ n ≤ 9223372036854775807) (w : World) (hL : LibAt (hp w)) : Calls Tryz.prog 154 #[.int .i64 n] w fun e w' => e = .returned (.string (B (digN n.toNat))) ∧ Below w.heap.size w w' :=
  (Tryz.strconv_Itoa n (by omega) h0.2 w hL.tabP).mono fun e w' ⟨h1, k, os, h2⟩ => by
    refine ⟨?_, by rw [h2]; exact below_grown _ _ _⟩
    rw [h1, itoa_eq h0]; rfl
theorem join_c (c : UInt8) (ws : List Bs) (v : Value) (w : World) (h : RepL (hp w) v (ws.map B)) (hs : (Lib.join ws [c]).length ≤ 140737488355328) : Calls Tryz.prog 156 #[v, .string (B [c])] w fun e w' => e = .returned (.string (B (Lib.join ws [c]))) ∧ Below w.heap.size w w' := by
  obtain ⟨a, cap, rfl⟩ := h.form
  have e1 : ((ws.map B).map fun x : ByteArray => x.data.toList) = ws := by rw [List.map_map]; simp [Function.comp_def, B]
  cases hn : ws with
  | nil =>
    subst hn
    refine (Tryz.strings_Join_none a cap (B [c]) w).mono fun e w' ⟨h1, h2⟩ => ⟨by rw [h1]; rfl, by rw [h2]; exact below_refl w⟩
  | cons x xs =>
    rw [← hn]
    obtain ⟨b, o, rfl, hr⟩ := h.addr (by simp [hn])
    have hlen := h.1
    have hcap : (ws.map B).length ≤ cap := by
      obtain ⟨_, a, c, e, h2, _⟩ := h; cases e; exact h2
    have hc : ∀ (j : Nat) x, (ws.map B)[j]? = some x → w.cell? ⟨b, o + j, none⟩ = some (.string x) := fun j x hx => by
      obtain ⟨hj, rfl⟩ := List.getElem?_eq_some_iff.1 hx
      have := (hr.str j hj).1
      rw [PH.cell_world, Nat.mul_one] at this; exact this
    have hb : b < w.heap.size := by
      have h1 := (hr.str 0 (by simp [hn])).1
      unfold PH.cell at h1
      cases h2 : hp w b with
      | none => rw [h2] at h1; cases h1
      | some o => exact hp_lt h2
    refine (Tryz.strings_Join b o cap (ws.map B) (B [c]) w hc hb hlen hcap (by rw [e1]; exact hs)).mono fun e w' ⟨h1, h2⟩ => ⟨?_, h2⟩
    rw [h1, e1]; rfl
theorem alloc_at (w : World) (o : Obj) : (w.alloc o).heap[w.heap.size]? = some o := by show (w.heap.push o)[w.heap.size]? = _; simp
theorem strs_new {w : World} {vs : List ByteArray} {T : TypeId} (hl : vs.length ≤ 140737488355328) (hs : ∀ x ∈ vs, x.size ≤ 140737488355328) :
    RepL (since w (w.alloc (.cells (vs.map Value.string).toArray T))) (.slice (some ⟨w.heap.size, 0, none⟩) vs.length vs.length) vs := by
  refine ⟨hl, _, _, rfl, Nat.le_refl _, fun _ => ⟨_, 0, rfl, fun i hi => ⟨[.string vs[i]], fun j hj => ?_, rfl, hs _ (List.getElem_mem hi)⟩⟩⟩
  have hj : j = 0 := by have : j < 1 := hj; omega
  subst hj
  unfold PH.cell since
  rw [if_pos (Nat.le_refl _), alloc_at]
  show (vs.map Value.string).toArray[0 + i * 1 + 0]? = some (.string vs[i])
  simp [hi]
theorem below_alloc (w : World) (o : Obj) : Below w.heap.size w (w.alloc o) := ⟨rfl, rfl, rfl, by simp, fun k hk => by show (w.heap.push o)[k]? = _; simp [Array.getElem?_push, Nat.ne_of_lt hk]⟩
def verbs7 : List ByteArray := [B (verbT 1), B (verbT 2), B (verbT 3), B (verbT 4), B (verbT 5), B (verbT 6), B (verbT 7)]
theorem verbs_low : ∀ j : Fin 43, (verbsB.getD j.val 0).toNat < 128 := by decide +kernel
theorem fields_c (w : World) (hL : LibAt (hp w)) : Calls Tryz.prog 150 #[.string (B verbsB)] w fun e w' => ∃ v, e = .returned v ∧ Below w.heap.size w w' ∧ RepL (since w w') v verbs7 := by
  refine (Tryz.strings_Fields_laid (B verbsB) w (by decide) (fun j b h => ?_) hL.tabS).mono fun e w' ⟨h1, h2⟩ => ?_
  · have h : verbsB[j]? = some b := h
    obtain ⟨hj, rfl⟩ := List.getElem?_eq_some_iff.1 h
    have := verbs_low ⟨j, by simpa [verbsB] using hj⟩
    simpa [List.getD, hj] using this
  · have e1 : Lib.fields (B verbsB).data.toList = _ := fields_verbs
    rw [e1] at h1 h2
    have e2 : (Value.string ∘ fun l : Bs => (⟨l.toArray⟩ : ByteArray)) = Value.string ∘ B := rfl
    refine ⟨_, h1, by rw [h2]; exact below_alloc _ _, ?_⟩
    rw [h2]
    exact strs_new (vs := verbs7) (by decide) (by decide)
end Go.Proofs.YtaokfeonmgpjcaaGreatDoor
namespace Go.JW
section
variable {P : Program} {q : Bool} {ops : Array Oper} {f : FuncId} {R : Ending → World → Prop} {k : List Item} {n : Nat} {fr : Nat → Value} {w0 : World} {M : Nat → Prop} {σ : PH} {K : List HP}
variable {rest : List Oper} {d : Nat} {ty : TypeId} {pos : String} {aft : Array Edge}
theorem callS {g : FuncId} {xs : Array Operand} {ts : Array TypeId} {args : List Value} (v : Value) (K' : List HP) [i : Fun P g]
    (h : LS P false ops f R k rest n (upd fr d v) w0 M σ K') (hc : ∀ w, Sat w0 M σ K w → Calls P g args.toArray w fun e w' => e = .returned v ∧ Sat w0 M σ K' w') (hx : xs.toList.map (ev n fr) = args := by rfl) :
    LS P false ops f R k (⟨some d, .call ⟨.value (.func g), xs, ts⟩, ty, pos, aft, none⟩ :: rest) n fr w0 M σ K :=
  LS.enterW rfl rfl (fun w _ => exec_call i.eq hx w) fun w hw => (hc w hw).mono fun _ _ ⟨he, hs⟩ => ⟨v, σ, K', he, hs, h⟩
end
end Go.JW
namespace Go.Proofs.YtaokfeonmgpjcaaGreatDoor
open Go.JW Go.RowKit
section
variable {w0 : World} {M : Nat → Prop} {σ : PH} {K : List HP} {b : Nat}
end
end Go.Proofs.YtaokfeonmgpjcaaGreatDoor
