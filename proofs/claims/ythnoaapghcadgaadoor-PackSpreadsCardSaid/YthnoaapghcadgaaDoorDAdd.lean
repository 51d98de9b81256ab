/- More rules of regions that draw: what is read of a row that is owned, stores of what the region has made, new rows. -/
import Derived.Test.YthnoaapghcadgaaDoorAns
namespace Go.JW
section
variable {P : Program} {q : Bool} {ops : Array Oper} {f : FuncId} {R : Ending → World → Prop} {k : List Item} {n : Nat} {fr : Nat → Value} {w0 : World} {M : Nat → Prop} {σ : PH} {K K' : List HP}
variable {rest : List Oper} {d : Nat} {ty : TypeId} {pos : String} {aft : Array Edge} {x y z : Operand} {t t' : TypeId}
/-- A load of what reads so in each world of the state. -/
theorem ldW {b off : Nat} {v : Value} [ht : TOne P t] (hc : ∀ w, Sat w0 M σ K w → (hp w).cell b off = some v) (h : LS P q ops f R k rest n (upd fr d v) w0 M σ K) (hx : ev n fr x = .pointer (some ⟨b, off, none⟩) := by rfl) :
    LS P q ops f R k (⟨some d, .load t x, ty, pos, aft, none⟩ :: rest) n fr w0 M σ K :=
  LS.val rfl rfl (fun w hw => by
    have := run_loadVar1 (P := P) (w := w) (b := b) ht.agg off (by rw [← PH.cell_world]; exact hc w hw)
    simp [execOp, hx, Instr.loadAt, Instr.sureAddr, this]) h
variable {H : HS} {O : List (Nat × Obj)} {Kf : Us → List HP} {Kb : List HP} {E : List Nat} {sg : Bool} {tags : List Tag}
theorem D.ldW {b off : Nat} {v : Value} [ht : TOne P t] (hc : ∀ σ' w, PH.le σ σ' → Sat w0 M σ' Kb w → (hp w).cell b off = some v) (h : LD P f R k n w0 M σ Kb rest tags ⟨upd fr d v, H, O, Kf, E, false⟩) (hx : ∀ us, ev n (fill fr H us) x = .pointer (some ⟨b, off, none⟩) := by intro _; rfl) :
    LD P f R k n w0 M σ Kb (⟨some d, .load t x, ty, pos, aft, none⟩ :: rest) (.ex :: tags) ⟨fr, H, O, Kf, E, false⟩ :=
  D.ex h fun us σ' w hle _ hw => by
    have := run_loadVar1 (P := P) (w := w) (b := b) ht.agg off (by rw [← PH.cell_world]; exact hc σ' w hle hw)
    simp [execOp, hx us, Instr.loadAt, Instr.sureAddr, this]
theorem D.ldWA {b off s : Nat} {vs : List Value} [ht : TAgg P t] [hs : TSz P t s] (hl : vs.length = s) (hc : ∀ σ' w, PH.le σ σ' → Sat w0 M σ' Kb w → ∀ j, j < s → (hp w).cell b (off + j) = vs[j]?) (h : LD P f R k n w0 M σ Kb rest tags ⟨upd fr d (.agg vs.toArray), H, O, Kf, E, false⟩) (hx : ∀ us, ev n (fill fr H us) x = .pointer (some ⟨b, off, none⟩) := by intro _; rfl) :
    LD P f R k n w0 M σ Kb (⟨some d, .load t x, ty, pos, aft, none⟩ :: rest) (.ex :: tags) ⟨fr, H, O, Kf, E, false⟩ :=
  D.ex h fun us σ' w hle _ hw => by
    have := run_loadVarA (P := P) (w := w) (b := b) ht.agg hs.eq off hl (fun j hj => by rw [← PH.cell_world]; exact hc σ' w hle hw j hj)
    simp [execOp, hx us, Instr.loadAt, Instr.sureAddr, this]
/-- A row's shape, and where it lies. -/
theorem RS.placeD {α : Type} {ri : Rep α} {N e : Nat} {l : List α} {put : HP → List HP} (v : Value) (h : ∀ a cap, v = .slice a l.length cap → l.length ≤ cap → (l ≠ [] → ∃ b, a = some ⟨b, 0, none⟩) → RS P f R k n fr w0 M σ K) (hf : FindD v K α ri N e l put K' := by infer_instance) : RS P f R k n fr w0 M σ K :=
  ⟨fun w hw => by
    obtain ⟨cs, _, h'⟩ := hw.openD hf
    obtain ⟨F, ⟨_, _, a, cap, e, h1, _, h4⟩, _⟩ := h'.getR (i := FindR.head)
    refine (h a cap e h1 fun hn => ?_).out w hw
    rcases h4 with ⟨h5, _⟩ | ⟨b, _, h5, _⟩
    · exact absurd (List.eq_nil_of_length_eq_zero h5) hn
    · exact ⟨b, h5⟩⟩
/-- A store of an aggregate that the region has made. -/
theorem D.stA (s : Nat) {b off sz : Nat} {cs : List Value} {T : TypeId} {put : HP → List HP} [hs : TSz P t sz]
    (h : LD P f R k n w0 M σ Kb rest tags ⟨fr, H, [], fun us => put (blk b (.cells (setAt cs off (cellsL (us s))).toArray T (0, 0))), (Stg.mk fr H [] (fun _ => K) E sg).seen ⟨none, .store t x y, ty, pos, aft, none⟩ ++ E, true⟩)
    (hv : ∀ us σ', PH.le σ σ' → Facts H (readsTmp ⟨none, .store t x y, ty, pos, aft, none⟩) us σ' → (cellsL (us s)).length = sz ∧ (cellsL (us s)).all (·.oneCell') = true) (hr : off + sz ≤ cs.length)
    (hx : ∀ us, ev n (fill fr H us) x = .pointer (some ⟨b, off, none⟩) := by intro _; rfl) (hy : ∀ us, ev n (fill fr H us) y = us s := by intro _; rfl) (hf : FindB b K (.cells cs.toArray T (0, 0)) put K' := by infer_instance)
    (hE : ∀ us, (fun us => put (blk b (.cells (setAt cs off (cellsL (us s))).toArray T (0, 0)))) (resE (([] : List (Nat × Obj)).map (·.1) ++ ((Stg.mk fr H [] (fun _ => K) E sg).seen ⟨none, .store t x y, ty, pos, aft, none⟩ ++ E)) us) = put (blk b (.cells (setAt cs off (cellsL (us s))).toArray T (0, 0))) := by intro _; rfl) :
    LD P f R k n w0 M σ Kb (⟨none, .store t x y, ty, pos, aft, none⟩ :: rest) (.st :: tags) ⟨fr, H, [], fun _ => K, E, sg⟩ :=
  D.st (fun us => put (blk b (.cells (setAt cs off (cellsL (us s))).toArray T (0, 0)))) (fun us => put (blk b (.cells (setAt cs off (cellsL (us s))).toArray T (0, 0)))) h (fun us σ' w hle hfs hw => by
    have hw : Sat w0 M σ' K w := hw
    obtain ⟨g1, g2⟩ := hv us σ' hle hfs
    have := run_storeVarL (P := P) (t := t) (v := us s) (hw.get (i := hf)) hs.eq off g1 hr g2
    exact ⟨_, by simp [execOp, hx us, hy us, Instr.storeAt, Instr.sureAddr, this], hw.put (i := hf) _⟩) hE
theorem Sat.restW {w : World} (hw : Sat w0 M σ K w) : Sat w (fun b => σ b = none) σ [restHP w σ []] w :=
  ⟨rfl, rfl, rfl, Nat.le_refl _, fun b hb hM => by
    cases e : σ b with
    | none => exact absurd e hM
    | some o => exact (hw.imm b o e).symm, hw.imm, _, fun b hb hn _ => ⟨⟨hb, hn⟩, rfl⟩, fun _ h => h, trivial⟩
theorem Sat.restEnd {w w' : World} {σ' : PH} (hi : PH.le σ (hp w)) (hle : PH.le σ σ') (hs' : Sat w (fun b => σ b = none) σ' [restHP w σ []] w') : RowKit.Below w.heap.size w w' ∧ PH.le σ' (JW.grow σ w w') := by
  obtain ⟨F2, hr, hF2, _⟩ := hs'.sep
  have hr : ∀ b, b < w.heap.size → σ b = none → b ∉ ([] : List (Nat × Obj)).map (·.1) → F2 b ∧ hp w' b = w.heap[b]? := hr
  refine ⟨⟨hs'.os, hs'.tape, hs'.output, hs'.size, fun k hk' => ?_⟩, fun b o hb => ?_⟩
  · cases e : σ k with
    | some o => exact (hs'.imm k o (hle k o e)).trans (hi k o e).symm
    | none => exact (hr k hk' e (by simp)).2
  · by_cases hb' : w.heap.size ≤ b
    · simp only [JW.grow]; rw [if_pos hb']; exact hs'.imm b o hb
    · simp only [JW.grow]; rw [if_neg hb']
      cases e : σ b with
      | some o' => rw [hle b o' e] at hb; exact hb
      | none =>
        have := (hF2 b (hr b (by omega) e (by simp)).1).2
        rw [this] at hb; cases hb
variable {α : Type} {ri : Rep α} {e : Nat}
/-- A new row, appended onto nothing: it is not written any more. -/
theorem D.appF {s by_ : Nat} {zs : List Value} {vy : Us → Value} (sl : Nat) (l' : List α) [ht : TSlice P t e] [hs : TSz P e s] [hby : TBytes P e by_] [hz : TZero P e zs]
    (h : LD P f R k n w0 M σ Kb rest tags ⟨fr, (d, fun v σ => RepL σ v l') :: H, O, Kf, E, false⟩)
    (hsrc : ∀ us σ', PH.le σ σ' → Facts H (readsTmp ⟨some d, .call ⟨.builtin .append, #[x, y], #[t, t']⟩, ty, pos, aft, none⟩) us σ' → (∃ a, us sl = .slice a 0 0) ∧ RepL σ' (vy us) l')
    (hx : ∀ us, ev n (fill fr H us) x = us sl := by intro _; rfl) (hy : ∀ us, ev n (fill fr H us) y = vy us := by intro _; rfl) (hk : ∃ e', P.underlying t' = some (.slice e') := by exact ⟨_, TSlice.eq⟩)
    (hss : s = Rep.sz α := by rfl) (hzs : Nat.beq zs.length s = true := by rfl) (hb : l'.length * by_ ≤ 140737488355328 := by first | omega | (simp only [List.length_cons, List.length_nil]; omega)) (hm : l'.length ≤ 140737488355328 := by first | omega | (simp only [List.length_cons, List.length_nil]; omega)) :
    LD P f R k n w0 M σ Kb (⟨some d, .call ⟨.builtin .append, #[x, y], #[t, t']⟩, ty, pos, aft, none⟩ :: rest) (.ex :: tags) ⟨fr, H, O, Kf, E, false⟩ :=
  D.gr (fun v σ => RepL σ v l') (fun _ _ _ h hs => h.mono hs) h fun us σ' w hle hfs hw => by
    obtain ⟨⟨a, ea⟩, h1⟩ := hsrc us σ' hle hfs
    obtain ⟨e', hk⟩ := hk
    have hs0 := hw.restW
    obtain ⟨news, g1, g2⟩ := srcD (t' := t') hs0 hk h1 (PH.le_refl _)
    have hw0 : Sat w (fun b => σ' b = none) σ' (rowD 0 e (.slice a 0 0) ([] : List α) :: [restHP w σ' []]) w := hs0.weak fun F hF => ⟨fun _ => False, ⟨[], rfl, by simp, rfl, a, 0, rfl, by simp, by simp, .inl ⟨rfl, rfl⟩⟩, fun _ h => h.elim, hF.mono fun b hb => ⟨hb, fun h => h⟩⟩
    obtain ⟨v', w', h3, h4⟩ := appRunD (t := t) (t' := t') (ty := ty) (v := .slice a 0 0) (FindD.head) hw0 ⟨news, by subst hss; exact g1, by rw [fromN_zero]; exact g2⟩ hss hzs (by simpa using hb) (by simpa using hm)
    obtain ⟨σ'', h5, h6, h7⟩ := h4.freeze0 (by simpa using hm) FindD.head
    obtain ⟨h8, h9⟩ := Sat.restEnd hw.imm h5 h7
    exact .inl ⟨v', w', by simp [execOp, resolve, invoke, builtin, hx us, hy us, ea, h3], h8, by simpa using h6.mono h9⟩
/-- A struct of what the region has made. -/
theorem D.bldX {pl : List (Nat × Nat)} {zs : List Value} {parts : Array (Nat × Operand)} {β : Type} [Rep β] (a : β) (vals : Us → List (Nat × Value)) [hp : TPl P t pl] [hz : TZero P t zs]
    (h : LD P f R k n w0 M σ Kb rest tags ⟨fr, (d, fun v σ => RepA σ v a) :: H, O, Kf, E, false⟩)
    (ho : ∀ us σ', PH.le σ σ' → Facts H (readsTmp ⟨some d, .build t parts, ty, pos, aft, none⟩) us σ' → ∃ cs, fillL (nthP pl) zs (vals us) = some cs ∧ Rep.rep σ' cs a)
    (hx : ∀ us, parts.toList.map (fun p => (p.1, ev n (fill fr H us) p.2)) = vals us := by intro _; rfl) :
    LD P f R k n w0 M σ Kb (⟨some d, .build t parts, ty, pos, aft, none⟩ :: rest) (.ex :: tags) ⟨fr, H, O, Kf, E, false⟩ :=
  D.gr (fun v σ => RepA σ v a) (fun _ _ _ h hs => h.mono hs) h fun us σ' w hle hfs hw => by
    obtain ⟨cs, h1, h2⟩ := ho us σ' hle hfs
    have e1 : (parts.map fun (i, x) => (i, ev n (fill fr H us) x)) = (vals us).toArray := by rw [← hx us]; cases parts; simp
    exact .inl ⟨_, w, by simp [execOp, e1, run_build w hp.eq hz.eq h1], RowKit.Below.refl _ _, cs, rfl, Rep.mono h2 (grow_le hw)⟩
end
end Go.JW
