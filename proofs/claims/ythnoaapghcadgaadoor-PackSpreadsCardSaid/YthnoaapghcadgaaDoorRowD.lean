/- Rows of one's own, told by the data in them. -/
import Derived.Test.YthnoaapghcadgaaDoorOwn
import Derived.Laws.MakeOwn
namespace Go.JW

/-- What lies from block N on. -/
def fromN (N : Nat) (σ : PH) : PH := fun b => if N ≤ b then σ b else none
theorem fromN_le (N : Nat) (σ : PH) : PH.le (fromN N σ) σ := fun b o h => by
  simp only [fromN] at h; split at h
  · exact h
  · cases h
theorem fromN_mono {N N' : Nat} {σ σ' : PH} (hN : N' ≤ N) (h : PH.le σ σ') : PH.le (fromN N σ) (fromN N' σ') := fun b o hb => by
  simp only [fromN] at hb ⊢; split at hb
  · rw [if_pos (by omega)]; exact h b o hb
  · cases hb
theorem fromN_up {N : Nat} {σ σ' : PH} (h : PH.le σ σ') : PH.le (fromN N σ) (fromN N σ') := fromN_mono (Nat.le_refl _) h
theorem fromN_zero (σ : PH) : fromN 0 σ = σ := by funext b; simp [fromN]
theorem fromN_idem (N : Nat) (σ : PH) : fromN N (fromN N σ) = fromN N σ := by funext b; simp only [fromN]; split <;> simp_all
theorem New.le_from {w0 : World} {N : Nat} {τ σ : PH} (hn : New w0 τ) (hN : N ≤ w0.heap.size) (h : PH.le τ σ) : PH.le τ (fromN N σ) := fun b o hb => by
  have : ¬ b < w0.heap.size := fun hlt => by rw [hn b hlt] at hb; cases hb
  simp only [fromN]; rw [if_pos (by omega)]; exact h b o hb
theorem fromN_new (w : World) (σ : PH) : New w (fromN w.heap.size σ) := fun b hb => by simp only [fromN]; rw [if_neg (by omega)]
def rowD (N : Nat) {α : Type} [Rep α] (e : TypeId) (v : Value) (l : List α) : HP :=
  ⟨fun g F => ∃ cs, CellsL (fromN N g.imm) cs l ∧ (rowH e (Rep.sz α) v l.length cs).h g F,
   fun ⟨cs, h1, h2⟩ hg hi => ⟨cs, h1.mono (fromN_up hi), (rowH e (Rep.sz α) v _ cs).loc h2 hg hi⟩⟩
class FindD (v : Value) (K : List HP) (α : outParam Type) (ri : outParam (Rep α)) (N e : outParam Nat) (l : outParam (List α)) (put : outParam (HP → List HP)) (K' : outParam (List HP)) : Prop where
  get : ∀ {g : VH} {F : Nat → Prop}, SepIn g K F → SepIn g (rowD N e v l :: K') F
  set : ∀ {A : HP} {g : VH} {F : Nat → Prop}, SepIn g (A :: K') F → SepIn g (put A) F
instance FindD.tail {v : Value} {K : List HP} {α : Type} {ri : Rep α} {N e : Nat} {l : List α} {put : HP → List HP} {K' : List HP} {B : HP} [i : FindD v K α ri N e l put K'] : FindD v (B :: K) α ri N e l (fun A => B :: put A) (B :: K') where
  get h := SepIn.swap (SepIn.cons_sub (fun _ => i.get) h)
  set h := SepIn.cons_sub (fun _ => i.set) (SepIn.swap h)
instance FindD.head {v : Value} {K : List HP} {α : Type} {ri : Rep α} {N e : Nat} {l : List α} : FindD v (rowD N e v l :: K) α ri N e l (fun A => A :: K) K where
  get h := h
  set h := h
section
variable {w0 w : World} {M : Nat → Prop} {σ τ : PH} {K K' : List HP} {v : Value} {α : Type} {ri : Rep α} {N e : Nat} {l : List α} {put : HP → List HP}
theorem Sat.openD (hw : Sat w0 M σ K w) (hf : FindD v K α ri N e l put K' := by infer_instance) : ∃ cs, CellsL (fromN N σ) cs l ∧ Sat w0 M σ (rowH e (Rep.sz α) v l.length cs :: K') w := by
  obtain ⟨F1, ⟨cs, h1, h2⟩, h3, h4⟩ := hf.get hw.sep
  exact ⟨cs, h1, hw.os, hw.tape, hw.output, hw.size, hw.keep, hw.imm, F1, h2, h3, h4⟩
theorem Sat.closeD {cs : List Value} {s m : Nat} (hw : Sat w0 M σ (rowH e s v m cs :: K) w) (hc : CellsL (fromN N σ) cs l) (hm : m = l.length := by first | rfl | simp | omega) (hs : s = Rep.sz α := by rfl) : Sat w0 M σ (rowD N e v l :: K) w := by
  subst hm; subst hs
  exact hw.one fun F h => ⟨cs, hc, h⟩
theorem Sat.formD (hw : Sat w0 M σ K w) (hf : FindD v K α ri N e l put K' := by infer_instance) : ∃ a cap, v = .slice a l.length cap ∧ l.length ≤ cap ∧ cap ≤ 9223372036854775807 := by
  obtain ⟨cs, _, h⟩ := hw.openD hf
  obtain ⟨F, ⟨_, _, a, cap, e, h1, h2, _⟩, _⟩ := h.getR (i := FindR.head)
  exact ⟨a, cap, e, h1, h2⟩
theorem Sat.formE (hw : Sat w0 M σ K w) (hf : FindD v K α ri N e l put K' := by infer_instance) : ∃ a m c, v = .slice a m c := let ⟨a, c, e, _⟩ := hw.formD hf; ⟨a, _, c, e⟩
theorem Sat.rowRepD (hw : Sat w0 M σ K w) (hl : l.length ≤ 140737488355328) (hf : FindD v K α ri N e l put K' := by infer_instance) : RepL (hp w) v l := by
  obtain ⟨cs, hc, h⟩ := hw.openD hf
  exact h.rowRep hc (PH.le_trans (fromN_le N σ) hw.imm) hl (hf := FindR.head) rfl rfl
/-- Handed back, by what is new. -/
theorem Sat.rowNewD {w0 w : World} {σ : PH} {K K' : List HP} {v : Value} {α : Type} {ri : Rep α} {N e : Nat} {l : List α} {put : HP → List HP} (hw : Sat w0 (fun _ => False) σ K w) (hN : w0.heap.size ≤ N) (hl : l.length ≤ 140737488355328) (hf : FindD v K α ri N e l put K' := by infer_instance) : RepL (since w0 w) v l := by
  obtain ⟨cs, hc, h⟩ := hw.openD hf
  refine h.rowNew hc (fun b o hb => ?_) hl (hf := FindR.head) rfl rfl
  have h1 := hw.imm b o (fromN_le N σ b o hb)
  simp only [fromN] at hb
  split at hb
  · simp only [since]; rw [if_pos (by omega)]; exact h1
  · cases hb
theorem rowD_at {g g' : VH} {F : Nat → Prop} (h : (rowD N e v l).h g F) (hc : g'.cur = g.cur) (hi : PH.le (fromN N g.imm) g'.imm) : (rowD N e v l).h g' F := by
  obtain ⟨cs, h1, h2⟩ := h
  refine ⟨cs, h1.mono (by have := fromN_up (N := N) hi; rwa [fromN_idem] at this), ?_⟩
  obtain ⟨a, b, c⟩ := h2
  exact ⟨a, b, by rw [hc]; exact c⟩
theorem Sat.postD {w w' : World} {σ : PH} {K K' : List HP} {v : Value} {α : Type} {ri : Rep α} {N e : Nat} {l : List α} {put : HP → List HP} (h : Sat w (fun _ => False) σ K w') (hN : N = w.heap.size) (hf : FindD v K α ri N e l put K' := by infer_instance) : Post (fromN N σ) [rowD N e v l] w w' :=
  Sat.post h (by subst hN; exact fromN_new _ _) (fromN_le _ _) fun F hF => by
    obtain ⟨F1, h1, h2, _⟩ := hf.get hF
    exact ⟨F1, rowD_at h1 rfl (PH.le_refl _), h2, trivial⟩
theorem rowD_N {N N' : Nat} {g : VH} {F : Nat → Prop} (h : (rowD N e v l).h g F) (hN : N' ≤ N) : (rowD N' e v l).h g F := by
  obtain ⟨cs, h1, h2⟩ := h
  exact ⟨cs, h1.mono (fromN_mono hN (PH.le_refl _)), h2⟩
theorem Post.rowN {τ : PH} {N N' : Nat} {w w' : World} {Ko : List HP} (h : Post τ (rowD N e v l :: Ko) w w') (hN : N' ≤ N) : Post τ (rowD N' e v l :: Ko) w w' :=
  ⟨h.below, h.new, h.imm, let ⟨F1, h1, h2, h3⟩ := h.sep; ⟨F1, rowD_N h1 hN, h2, h3⟩⟩
end
section
variable {P : Program} {q : Bool} {ops : Array Oper} {f : FuncId} {R : Ending → World → Prop} {k : List Item} {n : Nat} {fr : Nat → Value} {w0 : World} {M : Nat → Prop} {σ : PH} {K K' : List HP}
variable {rest : List Oper} {d : Nat} {ty : TypeId} {pos : String} {aft : Array Edge} {x y z : Operand} {t t' : TypeId}
variable {v : Value} {α : Type} {ri : Rep α} {N e : Nat} {l l' : List α} {put : HP → List HP}
theorem RS.openD (hf : FindD v K α ri N e l put K') (h : ∀ cs, CellsL (fromN N σ) cs l → RS P f R k n fr w0 M σ (rowH e (Rep.sz α) v l.length cs :: K')) : RS P f R k n fr w0 M σ K :=
  ⟨fun w hw => by obtain ⟨cs, h1, h2⟩ := hw.openD hf; exact (h cs h1).out w h2⟩
theorem RS.closeD [Rep α] (N : Nat) (l : List α) {v : Value} {cs : List Value} {s m : Nat} (hf : FindR v K e s m cs put K') (hc : CellsL (fromN N σ) cs l) (h : RS P f R k n fr w0 M σ (rowD N e v l :: K')) (hm : m = l.length := by first | rfl | simp | omega) (hs : s = Rep.sz α := by rfl) : RS P f R k n fr w0 M σ K :=
  ⟨fun w hw => h.out w ((hw.weak fun _ => hf.get).closeD hc hm hs)⟩
theorem RS.nilD (N : Nat) (α : Type) [ri : Rep α] (e : Nat) (h : RS P f R k n fr w0 M σ (rowD N e (.slice none 0 0) ([] : List α) :: K)) : RS P f R k n fr w0 M σ K :=
  RS.nilRow e (Rep.sz α) (RS.closeD N ([] : List α) (FindR.head) rfl h rfl rfl)
theorem RS.formD (v : Value) (h : ∀ a cap, v = .slice a l.length cap → l.length ≤ cap → RS P f R k n fr w0 M σ K) (hf : FindD v K α ri N e l put K' := by infer_instance) : RS P f R k n fr w0 M σ K :=
  ⟨fun w hw => by obtain ⟨a, cap, e, h1, _⟩ := hw.formD hf; exact (h a cap e h1).out w hw⟩
theorem LS.formD {L : List Oper} (v : Value) (h : ∀ a cap, v = .slice a l.length cap → l.length ≤ cap → LS P false ops f R k L n fr w0 M σ K) (hf : FindD v K α ri N e l put K' := by infer_instance) : LS P false ops f R k L n fr w0 M σ K :=
  ⟨fun w hw => by obtain ⟨a, cap, e, h1, _⟩ := hw.formD hf; exact (h a cap e h1).out w hw⟩
theorem lenD {ee : TypeId} (v : Value) [ht : TSlice P t ee] (h : LS P q ops f R k rest n (upd fr d (.int .i64 l.length)) w0 M σ K) (hx : ev n fr x = v := by rfl) (hf : FindD v K α ri N e l put K' := by infer_instance) :
    LS P q ops f R k (⟨some d, .call ⟨.builtin .len, #[x], #[t]⟩, ty, pos, aft, none⟩ :: rest) n fr w0 M σ K :=
  LS.val rfl rfl (fun w hw => by
    obtain ⟨a, cap, rfl, _⟩ := hw.formD hf
    simp [execOp, resolve, invoke, builtin, hx, Builtin.len_, run_underlying ht.eq, goInt]) h
theorem appRunD {w : World} {s by_ : Nat} {zs : List Value} {vy : Value} [ht : TSlice P t e] [hs : TSz P e s] [hby : TBytes P e by_] [hz : TZero P e zs] (hf : FindD v K α ri N e l put K') (hw : Sat w0 M σ K w)
    (hsrc : ∃ news, Src P s t' vy l'.length news w ∧ CellsL (fromN N σ) news l') (hss : s = Rep.sz α) (hzs : Nat.beq zs.length s = true) (hb : (l.length + l'.length) * by_ ≤ 140737488355328) (hm : l.length + l'.length ≤ 140737488355328) :
    ∃ v' w', (Builtin.append_ #[t, t'] ty #[v, vy]).run P w = .ok v' w' ∧ Sat w0 M σ (put (rowD N e v' (l ++ l'))) w' := by
  subst hss
  obtain ⟨news, h1, h2⟩ := hsrc
  obtain ⟨cs, hc, h⟩ := hw.openD hf
  obtain ⟨v', w', g1, g2⟩ := appRun (t := t) (ty := ty) (hf := FindR.head) h h1 hzs hb hm
  exact ⟨v', w', g1, (g2.closeD (hc.append h2) (by simp) rfl).weak fun _ => hf.set⟩
theorem appD {s by_ : Nat} {zs : List Value} {vy : Value} (v : Value) (l' : List α) [ht : TSlice P t e] [hs : TSz P e s] [hby : TBytes P e by_] [hz : TZero P e zs]
    (hsrc : ∀ w, Sat w0 M σ K w → ∃ news, Src P s t' vy l'.length news w ∧ CellsL (fromN N σ) news l')
    (h : ∀ v', LS P false ops f R k rest n (upd fr d v') w0 M σ (put (rowD N e v' (l ++ l')))) (hx : ev n fr x = v := by rfl) (hy : ev n fr y = vy := by rfl) (hf : FindD v K α ri N e l put K' := by infer_instance)
    (hss : s = Rep.sz α := by rfl) (hzs : Nat.beq zs.length s = true := by rfl) (hb : (l.length + l'.length) * by_ ≤ 140737488355328 := by first | omega | (simp only [List.length_cons, List.length_nil]; omega)) (hm : l.length + l'.length ≤ 140737488355328 := by first | omega | (simp only [List.length_cons, List.length_nil]; omega)) :
    LS P false ops f R k (⟨some d, .call ⟨.builtin .append, #[x, y], #[t, t']⟩, ty, pos, aft, none⟩ :: rest) n fr w0 M σ K :=
  LS.valW rfl rfl fun w hw => by
    obtain ⟨v', w', h1, h2⟩ := appRunD (t := t) (ty := ty) hf hw (hsrc w hw) hss hzs hb hm
    exact ⟨v', w', σ, _, by simp [execOp, resolve, invoke, builtin, hx, hy, h1], h2, h v'⟩
/-- What a slice told by data yields to an append. -/
theorem srcD {w : World} {e' : Nat} {vy : Value} {τ : PH} (hw : Sat w0 M σ K w) (hk : P.underlying t' = some (.slice e')) (hr : RepL τ vy l') (ht : PH.le τ σ) : ∃ news, Src P (Rep.sz α) t' vy l'.length news w ∧ CellsL τ news l' := by
  obtain ⟨a, cap, rfl⟩ := hr.form
  obtain ⟨cs, h1, h2⟩ := hr.cells
  exact ⟨cs, srcS hw hk h1.len (fun hn => by obtain ⟨b, o, e, g⟩ := h2 hn; exact ⟨b, o, e, fun j hj => PH.cells_mono ht rfl g j hj⟩) h1.one, h1⟩
variable {H : HS} {O : List (Nat × Obj)} {Kf : Us → List HP} {Kb : List HP} {E : List Nat} {sg : Bool} {tags : List Tag}
/-- 'append' onto such a row, in a region that draws. -/
theorem D.appD {s by_ : Nat} {zs : List Value} {vy : Us → Value} (v : Value) (l' : List α) [ht : TSlice P t e] [hs : TSz P e s] [hby : TBytes P e by_] [hz : TZero P e zs]
    (h : LD P f R k n w0 M σ Kb rest tags ⟨fr, (d, fun _ _ => True) :: H, O, fun us => put (rowD N e (us d) (l ++ l')), d :: ((Stg.mk fr H O (fun _ => K) E false).seen ⟨some d, .call ⟨.builtin .append, #[x, y], #[t, t']⟩, ty, pos, aft, none⟩ ++ E), false⟩)
    (hsrc : ∀ us σ', PH.le σ σ' → Facts H (readsTmp ⟨some d, .call ⟨.builtin .append, #[x, y], #[t, t']⟩, ty, pos, aft, none⟩) us σ' → ∃ τ, RepL τ (vy us) l' ∧ PH.le τ (fromN N σ'))
    (hx : ∀ us, ev n (fill fr H us) x = v := by intro _; rfl) (hy : ∀ us, ev n (fill fr H us) y = vy us := by intro _; rfl) (hf : FindD v K α ri N e l put K' := by infer_instance)
    (hL : ∀ u, Less (put (rowD N e u (l ++ l'))) Kb := by intro _; infer_instance) (hk : ∃ e', P.underlying t' = some (.slice e') := by exact ⟨_, TSlice.eq⟩)
    (hss : s = Rep.sz α := by rfl) (hzs : Nat.beq zs.length s = true := by rfl) (hb : (l.length + l'.length) * by_ ≤ 140737488355328 := by first | omega | (simp only [List.length_cons, List.length_nil]; omega)) (hm : l.length + l'.length ≤ 140737488355328 := by first | omega | (simp only [List.length_cons, List.length_nil]; omega)) :
    LD P f R k n w0 M σ Kb (⟨some d, .call ⟨.builtin .append, #[x, y], #[t, t']⟩, ty, pos, aft, none⟩ :: rest) (.eff :: tags) ⟨fr, H, O, fun _ => K, E, false⟩ := by
  refine D.eff (fun _ _ => True) (fun us => put (rowD N e (us d) (l ++ l'))) _ (fun _ _ _ _ _ => trivial) (fun us => hL _) h (fun us σ' w X hle hfs hw => ?_) (fun us => ?_)
  · obtain ⟨τ, h1, h2⟩ := hsrc us σ' hle hfs
    obtain ⟨e', hk⟩ := hk
    obtain ⟨news, g1, g2⟩ := srcD (t' := t') hw hk h1 (PH.le_trans h2 (fromN_le _ _))
    obtain ⟨v', w', h3, h4⟩ := appRunD (t := t) (t' := t') (ty := ty) (v := v) (FindD.tail (i := hf)) hw ⟨news, by subst hss; exact g1, g2.mono h2⟩ hss hzs hb hm
    refine .inl ⟨v', w', by simp [execOp, resolve, invoke, builtin, hx us, hy us, h3], σ', PH.le_refl _, ?_, trivial⟩
    simpa [upd_eq] using h4
  · show put (rowD N e (resE _ us d) (l ++ l')) = _
    rw [resE_mem (by simp)]
/-- A store of a slice that the region has made, into a block that is known. -/
theorem D.stU (s : Nat) (cs' : Us → List Value) {b off sz : Nat} {cs : List Value} {T : TypeId} {put : Us → HP → List HP} {K' : Us → List HP} [hs : TSz P t sz]
    (h : LD P f R k n w0 M σ Kb rest tags ⟨fr, H, [], fun us => put us (blk b (.cells (cs' us).toArray T (0, 0))), (Stg.mk fr H [] Kf E sg).seen ⟨none, .store t x y, ty, pos, aft, none⟩ ++ E, true⟩)
    (hx : ∀ us, ev n (fill fr H us) x = .pointer (some ⟨b, off, none⟩) := by intro _; rfl) (hy : ∀ us, ev n (fill fr H us) y = us s := by intro _; rfl) (hf : ∀ us, FindB b (Kf us) (.cells cs.toArray T (0, 0)) (put us) (K' us) := by intro _; infer_instance)
    (hform : ∀ us σ' w, Sat w0 M σ' (Kf us) w → ∃ a m c, us s = .slice a m c := by intro us σ' w hw; exact hw.formE)
    (hsz : sz = 1 := by rfl) (hr : off + 1 ≤ cs.length := by first | decide | omega | exact Nat.le_of_ble_eq_true rfl) (hc : ∀ us, setAt cs off [us s] = cs' us := by intro _; rfl)
    (hE : ∀ us, (fun us => put us (blk b (.cells (cs' us).toArray T (0, 0)))) (resE (([] : List (Nat × Obj)).map (·.1) ++ ((Stg.mk fr H [] Kf E sg).seen ⟨none, .store t x y, ty, pos, aft, none⟩ ++ E)) us) = put us (blk b (.cells (cs' us).toArray T (0, 0))) := by intro _; rfl) :
    LD P f R k n w0 M σ Kb (⟨none, .store t x y, ty, pos, aft, none⟩ :: rest) (.st :: tags) ⟨fr, H, [], Kf, E, sg⟩ :=
  D.st (fun us => put us (blk b (.cells (cs' us).toArray T (0, 0)))) (fun us => put us (blk b (.cells (cs' us).toArray T (0, 0)))) h (fun us σ' w hle hfs hw => by
    have hw : Sat w0 M σ' (Kf us) w := hw
    obtain ⟨a, m, c, e⟩ := hform us σ' w hw
    have hb := hw.get (i := hf us)
    subst hsz
    have hcl : cellsL (us s) = [us s] := by rw [e]; rfl
    have := run_storeVarL (P := P) (t := t) (v := us s) hb hs.eq off (by rw [hcl]; rfl) hr (by rw [e]; rfl)
    rw [hcl, hc us] at this
    exact ⟨_, by simp [execOp, hx us, hy us, Instr.storeAt, Instr.sureAddr, this], hw.put (i := hf us) _⟩) hE
/-- Values one behind the other that read as data. -/
def CellsV {α : Type} [Rep α] (σ : PH) : List Value → List α → Prop
  | [], [] => True
  | v :: vs, x :: l => Rep.rep σ (cellsL v) x ∧ CellsV σ vs l
  | _, _ => False
theorem CellsV.cat {α : Type} [Rep α] {σ : PH} : ∀ {vs : List Value} {l : List α}, CellsV σ vs l → ∃ cs, catL (Rep.sz α) vs = some cs ∧ CellsL σ cs l ∧ vs.length = l.length := by
  intro vs
  induction vs with
  | nil => intro l h; cases l with
    | nil => exact ⟨[], rfl, rfl, rfl⟩
    | cons _ _ => exact h.elim
  | cons v vs ih =>
    intro l h
    cases l with
    | nil => exact h.elim
    | cons x l =>
      obtain ⟨h1, h2⟩ := h
      obtain ⟨cs, g1, g2, g3⟩ := ih h2
      refine ⟨cellsL v ++ cs, ?_, ⟨_, _, rfl, h1, g2⟩, by simp [g3]⟩
      have : Nat.beq (cellsL v).length (Rep.sz α) = true := by rw [Rep.len h1]; exact Nat.beq_refl _
      simp [catL, this, g1]
def RepA {α : Type} [Rep α] (σ : PH) (v : Value) (x : α) : Prop := ∃ cs, v = .agg (List.toArray cs) ∧ Rep.rep σ cs x
theorem RepA.mono {α : Type} [Rep α] {σ σ' : PH} {v : Value} {x : α} (h : RepA σ v x) (hs : PH.le σ σ') : RepA σ' v x := let ⟨cs, e, r⟩ := h; ⟨cs, e, Rep.mono r hs⟩
theorem RepA.cv {α : Type} [Rep α] {σ : PH} {v : Value} {x : α} (h : RepA σ v x) : Rep.rep σ (cellsL v) x := by obtain ⟨cs, rfl, r⟩ := h; exact r
theorem RepL.cv {α : Type} [Rep α] {σ : PH} {v : Value} {l : List α} (h : RepL σ v l) : Rep.rep σ (cellsL v) l := by obtain ⟨a, c, e⟩ := h.form; exact ⟨v, by rw [e]; rfl, h⟩
/-- A literal of a slice, told by the data in it. -/
theorem D.litT {α : Type} [Rep α] {e s : Nat} {zs : List Value} {parts : Array (Nat × Operand)} {len : Nat} {vs : Us → List Value} (N : Nat) (l : List α) [ht : TSlice P t e] [hs : TSz P e s] [hz : TZero P e zs]
    (h : LD P f R k n w0 M σ Kb rest tags ⟨fr, (d, fun v σ => RepL (fromN N σ) v l) :: H, O, Kf, E, false⟩)
    (ho : ∀ us σ', PH.le σ σ' → Facts H (readsTmp ⟨some d, .buildSlice t len parts, ty, pos, aft, none⟩) us σ' → CellsV (fromN N σ') (vs us) l)
    (hN : N ≤ w0.heap.size := by first | exact Nat.le_refl _ | exact Nat.zero_le _ | assumption)
    (hx : ∀ us, parts.toList.map (fun p => (p.1, ev n (fill fr H us) p.2)) = (vs us).zipIdx.map (fun p => (p.2, p.1)) := by intro _; rfl) (hl : ∀ us, Nat.beq (vs us).length len = true := by intro _; rfl) (hll : Nat.beq l.length len = true := by rfl)
    (hb : Nat.ble (len * s) 16777216 = true := by rfl) (hss : s = Rep.sz α := by rfl) (h47 : Nat.ble len 140737488355328 = true := by rfl) :
    LD P f R k n w0 M σ Kb (⟨some d, .buildSlice t len parts, ty, pos, aft, none⟩ :: rest) (.ex :: tags) ⟨fr, H, O, Kf, E, false⟩ := by
  subst hss
  refine D.bldS (vs := vs) (fun v σ => RepL (fromN N σ) v l) (fun v σ1 σ2 h hs => h.mono (fromN_up hs)) h (fun us σ' hle hfs => ?_) hx hl hb
  obtain ⟨cs, h1, h2, h3⟩ := (ho us σ' hle hfs).cat
  refine ⟨cs, h1, fun b σ'' hle2 hnb hcell => ?_⟩
  have hle3 := fromN_up (N := N) hle2
  have el := Nat.eq_of_beq_eq_true hll
  subst el
  refine ⟨Nat.le_of_ble_eq_true h47, _, _, rfl, Nat.le_refl _, fun _ => ⟨b, 0, rfl, (h2.mono hle3).rowAt fun j hj => ?_⟩⟩
  have : fromN N σ'' b = some (.cells cs.toArray e (0, 0)) := by
    simp only [fromN]; rw [if_pos (Nat.le_of_not_lt fun hlt => hnb (by omega))]; exact hcell
  simp [PH.cell, this]
/-- A literal of a struct, of parts that the region has made. -/
theorem D.bldU {pl : List (Nat × Nat)} {zs : List Value} {parts : Array (Nat × Operand)} (T : Value → PH → Prop) (hT : MonoT T) [hp : TPl P t pl] [hz : TZero P t zs]
    (h : LD P f R k n w0 M σ Kb rest tags ⟨fr, (d, T) :: H, O, Kf, E, false⟩)
    (ho : ∀ us σ', PH.le σ σ' → Facts H (readsTmp ⟨some d, .build t parts, ty, pos, aft, none⟩) us σ' → ∃ cs, fillL (nthP pl) zs (parts.toList.map fun p => (p.1, ev n (fill fr H us) p.2)) = some cs ∧ T (.agg (List.toArray cs)) σ') :
    LD P f R k n w0 M σ Kb (⟨some d, .build t parts, ty, pos, aft, none⟩ :: rest) (.ex :: tags) ⟨fr, H, O, Kf, E, false⟩ :=
  D.gr T hT h fun us σ' w hle hf hw => by
    obtain ⟨cs, h1, h2⟩ := ho us σ' hle hf
    have e : (parts.map fun (i, x) => (i, ev n (fill fr H us) x)) = (parts.toList.map fun p => (p.1, ev n (fill fr H us) p.2)).toArray := by cases parts; simp
    exact .inl ⟨.agg cs.toArray, w, by simp [execOp, e, run_build w hp.eq hz.eq h1], RowKit.Below.refl _ _, hT _ _ _ h2 (grow_le hw)⟩
/-- A move of what the region has made. -/
theorem D.asU (T : Value → PH → Prop) (hT : MonoT T) (h : LD P f R k n w0 M σ Kb rest tags ⟨fr, (d, T) :: H, O, Kf, E, false⟩)
    (ho : ∀ us σ', PH.le σ σ' → Facts H (readsTmp ⟨some d, .assign x, ty, pos, aft, none⟩) us σ' → T (ev n (fill fr H us) x) σ') :
    LD P f R k n w0 M σ Kb (⟨some d, .assign x, ty, pos, aft, none⟩ :: rest) (.ex :: tags) ⟨fr, H, O, Kf, E, false⟩ :=
  D.gr T hT h fun us σ' w hle hf hw => .inl ⟨_, w, by simp [execOp], RowKit.Below.refl _ _, hT _ _ _ (ho us σ' hle hf) (grow_le hw)⟩
/-- 'make' of a slice, all noughts. -/
theorem D.mkL {e by_ s m : Nat} {zs : List Value} (cs : List Value) [ht : TSlice P t e] [hs : TSz P e s] [hby : TBytes P e by_] [hz : TZero P e zs]
    (h : LD P f R k n w0 M σ Kb rest tags ⟨fr, (d, TLit e m cs) :: H, O, Kf, E, false⟩)
    (hx : ∀ us, ev n (fill fr H us) x = .int .i64 (m : Int) := by intro _; rfl) (hy : ∀ us, ev n (fill fr H us) y = .int .i64 (m : Int) := by intro _; rfl)
    (hc : (madeCells zs.toArray (m * s)).toList = cs := by rfl) (hb : by_ * m ≤ 281474976710656 := by decide) (hm : m ≤ 9223372036854775807 := by decide) :
    LD P f R k n w0 M σ Kb (⟨some d, .makeSlice t x y, ty, pos, aft, none⟩ :: rest) (.ex :: tags) ⟨fr, H, O, Kf, E, false⟩ :=
  D.gr (TLit e m cs) (fun _ _ _ ⟨b, h1, h2⟩ hs => ⟨b, h1, hs _ _ h2⟩) h fun us σ' w hle hf hw => by
    have hbe := hby.eq
    have hse := hs.eq
    have hze := hz.eq
    unfold zeroOf at hze
    unfold szOf at hse
    cases hi : P.info? e with
    | none => simp [hi] at hse
    | some i =>
      cases hzz : i.zero with
      | none => simp [hi, hzz] at hze
      | some z =>
        simp [hi] at hse hbe
        simp [hi, hzz] at hze
        subst hse; subst hbe
        have hbm : (i.bytes : Int) * (m : Int) ≤ 281474976710656 := by
          have : ((i.bytes * m : Nat) : Int) ≤ 281474976710656 := by omega
          rwa [Int.natCast_mul] at this
        have := run_make (P := P) w t e i z ht.eq hi hzz .i64 .i64 m m (by omega) (by omega) hbm (by omega)
        have e1 : z.cells = zs.toArray := by rw [← hze]
        simp only [Int.toNat_natCast, e1] at this
        refine .inl ⟨_, _, by simp only [execOp, hx us, hy us]; simp [this]; rfl, (RowKit.Below.refl _ _).alloc (Nat.le_refl _) _, w.heap.size, rfl, ?_⟩
        simp only [JW.grow]; rw [if_pos (Nat.le_refl _), ← hc, Array.toArray_toList]; exact (heap_alloc_at w _ _).trans (if_pos rfl)
end
end Go.JW
