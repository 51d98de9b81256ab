/- Lists of data as cells; a row of one's own that is handed back. -/
import Derived.Test.YthnoaapghcadgaaDoorD
namespace Go.JW

def CellsL {α : Type} [Rep α] (σ : PH) : List Value → List α → Prop
  | cs, [] => cs = []
  | cs, x :: l => ∃ c1 c2, cs = c1 ++ c2 ∧ Rep.rep σ c1 x ∧ CellsL σ c2 l
section
variable {α : Type} [Rep α] {σ σ' : PH}
theorem CellsL.len : ∀ {l : List α} {cs : List Value}, CellsL σ cs l → cs.length = l.length * Rep.sz α := by
  intro l
  induction l with
  | nil => intro cs h; simp only [CellsL] at h; subst h; simp
  | cons x l ih => rintro cs ⟨c1, c2, rfl, h1, h2⟩; rw [List.length_append, Rep.len h1, ih h2, List.length_cons, Nat.succ_mul]; omega
theorem CellsL.mono (hs : PH.le σ σ') : ∀ {l : List α} {cs : List Value}, CellsL σ cs l → CellsL σ' cs l := by
  intro l
  induction l with
  | nil => intro cs h; exact h
  | cons x l ih => rintro cs ⟨c1, c2, rfl, h1, h2⟩; exact ⟨c1, c2, rfl, Rep.mono h1 hs, ih h2⟩
theorem CellsL.one : ∀ {l : List α} {cs : List Value}, CellsL σ cs l → cs.all (·.oneCell') = true := by
  intro l
  induction l with
  | nil => intro cs h; simp only [CellsL] at h; subst h; rfl
  | cons x l ih => rintro cs ⟨c1, c2, rfl, h1, h2⟩; rw [List.all_append, Rep.one h1, ih h2]; rfl
theorem CellsL.append : ∀ {l : List α} {cs : List Value} {l' : List α} {cs' : List Value}, CellsL σ cs l → CellsL σ cs' l' → CellsL σ (cs ++ cs') (l ++ l') := by
  intro l
  induction l with
  | nil => intro cs l' cs' h h'; simp only [CellsL] at h; subst h; exact h'
  | cons x l ih => rintro cs l' cs' ⟨c1, c2, rfl, h1, h2⟩ h'; exact ⟨c1, c2 ++ cs', by simp, h1, ih h2 h'⟩
theorem CellsL.one_ {x : α} {cs : List Value} (h : Rep.rep σ cs x) : CellsL σ cs [x] := ⟨cs, [], by simp, h, rfl⟩
theorem CellsL.snoc {l : List α} {x : α} {cs c : List Value} (h : CellsL σ cs l) (hx : Rep.rep σ c x) : CellsL σ (cs ++ c) (l ++ [x]) := h.append (CellsL.one_ hx)
theorem CellsL.rowAt {b : Nat} : ∀ {l : List α} {cs : List Value} {o : Nat}, CellsL σ cs l → (∀ j, j < cs.length → σ.cell b (o + j) = cs[j]?) → RowAt σ b o l := by
  intro l
  induction l with
  | nil => intro cs o _ _ i hi; simp at hi
  | cons x l ih =>
    rintro cs o ⟨c1, c2, rfl, h1, h2⟩ hc i hi
    have hl := Rep.len h1
    cases i with
    | zero =>
      refine ⟨c1, fun j hj => ?_, h1⟩
      have := hc j (by rw [List.length_append]; omega)
      rw [List.getElem?_append_left (by omega)] at this
      simpa using this
    | succ i =>
      obtain ⟨vs, g1, g2⟩ := ih (o := o + c1.length) h2 (fun j hj => by
        have := hc (c1.length + j) (by rw [List.length_append]; omega)
        rw [List.getElem?_append_right (by omega), show c1.length + j - c1.length = j by omega] at this
        rw [← this]; congr 1; omega) i (by simpa using hi)
      refine ⟨vs, fun j hj => ?_, by simpa using g2⟩
      rw [← g1 j hj]; congr 1; rw [hl, Nat.succ_mul]; omega
theorem RowAt.cells {b : Nat} : ∀ {l : List α} {o : Nat}, RowAt σ b o l → ∃ cs, CellsL σ cs l ∧ ∀ j, j < cs.length → σ.cell b (o + j) = cs[j]? := by
  intro l
  induction l with
  | nil => intro o _; exact ⟨[], rfl, fun j hj => by simp at hj⟩
  | cons x l ih =>
    intro o h
    obtain ⟨vs, g1, g2⟩ := h 0 (by simp)
    obtain ⟨cs, g3, g4⟩ := ih (o := o + Rep.sz α) (fun i hi => by
      obtain ⟨vs, k1, k2⟩ := h (i + 1) (by simpa using hi)
      refine ⟨vs, fun j hj => ?_, by simpa using k2⟩
      rw [← k1 j hj]; congr 1; rw [Nat.succ_mul]; omega)
    have hl := Rep.len g2
    refine ⟨vs ++ cs, ⟨vs, cs, rfl, by simpa using g2, g3⟩, fun j hj => ?_⟩
    by_cases hj' : j < vs.length
    · rw [List.getElem?_append_left hj']
      have := g1 j (by omega)
      simpa using this
    · rw [List.getElem?_append_right (by omega)]
      rw [List.length_append] at hj
      have := g4 (j - vs.length) (by omega)
      rw [← this]; congr 1; omega
/-- A slice's cells. -/
theorem RepL.cells {a : Option Addr} {m cap : Nat} {l : List α} (h : RepL σ (.slice a m cap) l) : ∃ cs, CellsL σ cs l ∧ (l ≠ [] → ∃ b o, a = some ⟨b, o, none⟩ ∧ ∀ j, j < cs.length → σ.cell b (o + j) = cs[j]?) := by
  by_cases hn : l = []
  · subst hn; exact ⟨[], rfl, fun h => absurd rfl h⟩
  · obtain ⟨b, o, e, r⟩ := h.addr hn
    obtain ⟨cs, h1, h2⟩ := r.cells
    exact ⟨cs, h1, fun _ => ⟨b, o, e, h2⟩⟩
end
section
variable {α : Type} [Rep α] {w0 w : World} {M : Nat → Prop} {σ τ : PH} {K K' : List HP}
/-- A row of the call's own, that reads as a list. -/
theorem Sat.rowNew {v : Value} {e s m : Nat} {cs : List Value} {put : HP → List HP} {l : List α} (hw : Sat w0 (fun _ => False) σ K w) (hc : CellsL τ cs l) (ht : PH.le τ (since w0 w)) (hl : l.length ≤ 140737488355328) (hf : FindR v K e s m cs put K' := by infer_instance) (hs : s = Rep.sz α := by rfl) (hm : m = l.length := by first | rfl | simp | omega) :
    RepL (since w0 w) v l := by
  obtain ⟨a, cap, σ', rfl, h2, h3, h4, h5, h6, h7⟩ := hw.freezeRow hf
  subst hs; subst hm
  refine ⟨hl, a, cap, rfl, h2, fun hn => ?_⟩
  rcases h7 with ⟨h8, _⟩ | ⟨b, rfl, g1, _, g2, g3⟩
  · exact absurd (List.eq_nil_of_length_eq_zero h8) hn
  · refine ⟨b, 0, rfl, (hc.mono ht).rowAt fun j hj => ?_⟩
    rw [hc.len] at hj
    have := g3 j hj
    rw [Nat.zero_add, ← this]
    have hb : ¬ b < w0.heap.size := fun h => g1 h
    show (match (if w0.heap.size ≤ b then w.heap[b]? else none) with | some (.cells c _ _) => c[j]? | _ => none) = match σ' b with | some (.cells c _ _) => c[j]? | _ => none
    rw [if_pos (by omega), g2]; rfl
end
section
variable {P : Program} {q : Bool} {ops : Array Oper} {f : FuncId} {R : Ending → World → Prop} {k : List Item} {n : Nat} {fr : Nat → Value} {w0 : World} {M : Nat → Prop} {σ : PH} {K K' : List HP}
variable {rest : List Oper} {d : Nat} {ty : TypeId} {pos : String} {aft : Array Edge} {x y z : Operand} {t t' : TypeId}
/-- A call that answers something all new. -/
theorem callT {g : FuncId} {xs : Array Operand} {ts : Array TypeId} {args : List Value} (Q : Value → PH → Prop) [i : Fun P g]
    (h : ∀ v τ σ', Q v τ → New w0 τ → PH.le σ σ' → PH.le τ σ' → LS P false ops f R k rest n (upd fr d v) w0 M σ' K)
    (hc : ∀ w, Sat w0 M σ K w → Calls P g args.toArray w fun e w' => ∃ v, e = .returned v ∧ RowKit.Below w.heap.size w w' ∧ Q v (since w w')) (hx : xs.toList.map (ev n fr) = args := by rfl) :
    LS P false ops f R k (⟨some d, .call ⟨.value (.func g), xs, ts⟩, ty, pos, aft, none⟩ :: rest) n fr w0 M σ K :=
  callN (Q := fun v τ _ => Q v τ ∧ New w0 τ) (fun v τ σ' ⟨h1, h2⟩ h3 h4 => h v τ σ' h1 h2 h3 h4) hx (fun w hw => (hc w hw).mono fun _ _ ⟨v, h1, h2, h3⟩ => ⟨v, h1, h2, h3, New.since hw.size⟩)
theorem run_results1 {fn : Func} {r : ResultVar} {v : Value} {tmps : Array Value} {w : World} (h : fn.results = #[r]) (hv : (match r with | .tmp t => pure (tmps.getD t undef) | .cell a t => do loadVar t (← asAddr (tmps.getD a undef)) : Sem Value).run P w = .ok v w) : (results fn tmps).run P w = .ok v w := by
  cases r <;> simp only [results, h] <;> simp at hv ⊢ <;> simp [hv]
theorem tmps_at {t : Nat} {v : Value} (hv : ev n fr (.tmp t) = v) : (act n fr).tmps.getD t undef = v := by
  have := congrFun (act_eval n fr) (.tmp t); simp only [Act.eval] at this; rw [this, hv]
theorem RS.retC {fn : Func} {t b s : Nat} {cs : List Value} {ty T : TypeId} {put : HP → List HP} (hf : P.funcs[f]? = some fn) (vs : List Value) [ha : TAgg P ty] [hs : TSz P ty s] (h : ∀ w, Sat w0 M σ K w → R (.returned (.agg vs.toArray)) w)
    (hr : fn.results = #[.cell t ty] := by rfl) (hv : ev n fr (.tmp t) = .pointer (some ⟨b, 0, none⟩) := by rfl) (hb : FindB b K (.cells cs.toArray T (0, 0)) put K' := by infer_instance) (hc : takeAt cs 0 s = some vs := by rfl) :
    RS P f R (.code .ret :: k) n fr w0 M σ K := by
  refine ⟨fun w hw => ?_⟩
  refine Run.ret hf (run_results1 hr ?_) rfl (h w hw)
  have hbb := hw.get (i := hb)
  obtain ⟨hl, hcc⟩ := takeAt_spec _ _ _ _ hc
  have := run_loadVarA (P := P) (w := w) (b := b) ha.agg hs.eq 0 hl (fun j hj => (cell_blk hbb (0 + j)).trans (hcc j hj))
  simp only [tmps_at hv]
  simp [asAddr, this]
/-- A literal slice of one's own, as a row. -/
theorem LS.asRow {l : List Oper} {e b m s : Nat} {cs : List Value} {put : HP → List HP} (hf : FindB b K (.cells cs.toArray e (0, 0)) put K') (hset : ∀ {A : HP} {g : VH} {F : Nat → Prop}, SepIn g (A :: K') F → SepIn g (put A) F) (hl : cs.length = m * s) (h1 : cs.all (·.oneCell') = true) (hm : m ≤ 9223372036854775807)
    (h : LS P false ops f R k l n fr w0 M σ (put (rowH e s (.slice (some ⟨b, 0, none⟩) m m) m cs))) : LS P false ops f R k l n fr w0 M σ K :=
  ⟨fun w hw => h.out w (hw.weak fun F hF => by
    obtain ⟨F1, ⟨g1, g2⟩, g3, g4⟩ := hf.get hF
    exact hset ⟨F1, ⟨hl, h1, _, _, rfl, Nat.le_refl _, hm, .inr ⟨b, cs, rfl, g1, g2, Nat.le_of_eq hl.symm, by rw [← hl]; simp⟩⟩, g3, g4⟩)⟩
theorem LS.formR {l : List Oper} {v : Value} {e s m : Nat} {cs : List Value} {put : HP → List HP} (hf : FindR v K e s m cs put K') (h : ∀ a cap, v = .slice a m cap → LS P false ops f R k l n fr w0 M σ K) : LS P false ops f R k l n fr w0 M σ K :=
  ⟨fun w hw => by
    obtain ⟨F, ⟨_, _, a, cap, e, _⟩, _⟩ := hw.getR (i := hf)
    exact (h a cap e).out w hw⟩
theorem RS.formR {v : Value} {e s m : Nat} {cs : List Value} {put : HP → List HP} (hf : FindR v K e s m cs put K') (h : ∀ a cap, v = .slice a m cap → RS P f R k n fr w0 M σ K) : RS P f R k n fr w0 M σ K :=
  ⟨fun w hw => by
    obtain ⟨F, ⟨_, _, a, cap, e, _⟩, _⟩ := hw.getR (i := hf)
    exact (h a cap e).out w hw⟩
/-- A row of one's own, as it lies now. -/
theorem Sat.rowRep {α : Type} [Rep α] {τ : PH} {w : World} {v : Value} {e s m : Nat} {cs : List Value} {put : HP → List HP} {l : List α} (hw : Sat w0 M σ K w) (hc : CellsL τ cs l) (ht : PH.le τ (hp w)) (hl : l.length ≤ 140737488355328) (hf : FindR v K e s m cs put K' := by infer_instance) (hs : s = Rep.sz α := by rfl) (hm : m = l.length := by first | rfl | simp | omega) : RepL (hp w) v l := by
  obtain ⟨F, ⟨h1, h1c, a, cap, rfl, h2, h3, h4⟩, _⟩ := hw.getR (i := hf)
  subst hs; subst hm
  refine ⟨hl, a, cap, rfl, h2, fun hn => ?_⟩
  rcases h4 with ⟨h8, _⟩ | ⟨b, c0, rfl, _, g1, _, g3⟩
  · exact absurd (List.eq_nil_of_length_eq_zero h8) hn
  · refine ⟨b, 0, rfl, (hc.mono ht).rowAt fun j hj => ?_⟩
    rw [hc.len] at hj
    have g1 : hp w b = _ := g1
    have : PH.cell (hp w) b (0 + j) = c0[j]? := by simp [PH.cell, g1]
    rw [this, ← g3, List.getElem?_take, if_pos hj]
end
/-- Part of a literal's block, as a list. -/
theorem repLit {α : Type} [Rep α] {g : PH} {b o m cap : Nat} {cs : List Value} {T : TypeId} {l : List α} (hb : g b = some (.cells cs.toArray T (0, 0))) (hc : CellsL g (cs.drop o) l) (hm : m = l.length) (hcap : l.length ≤ cap) (hl : l.length ≤ 140737488355328) : RepL g (.slice (some ⟨b, o, none⟩) m cap) l := by
  subst hm
  refine ⟨hl, _, _, rfl, hcap, fun _ => ⟨b, o, rfl, hc.rowAt fun j hj => ?_⟩⟩
  simp [PH.cell, hb]
end Go.JW
