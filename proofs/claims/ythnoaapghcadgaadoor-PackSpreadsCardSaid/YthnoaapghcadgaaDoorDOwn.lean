/- Regions that draw: calls that hand over rows; stores of what they hand over. -/
import Derived.Test.YthnoaapghcadgaaDoorSort
namespace Go.JW

theorem rowD_str {N N' : Nat} {e : TypeId} {v : Value} {l : List ByteArray} {g g' : VH} {F : Nat → Prop} (h : (rowD N e v l).h g F) (hc : ∀ b, F b → g'.cur b = g.cur b) : (rowD N' e v l).h g' F := by
  obtain ⟨cs, h1, h2⟩ := h
  have key : ∀ {l : List ByteArray} {cs : List Value} {σ σ' : PH}, CellsL σ cs l → CellsL σ' cs l := by
    intro l
    induction l with
    | nil => intro cs σ σ' h; exact h
    | cons x l ih => rintro cs σ σ' ⟨c1, c2, rfl, h1, h2⟩; exact ⟨c1, c2, rfl, h1, ih h2⟩
  refine ⟨cs, key h1, ?_⟩
  obtain ⟨a1, a2, a, cap, a3, a4, a5, a6⟩ := h2
  exact ⟨a1, a2, a, cap, a3, a4, a5, a6.elim .inl fun ⟨b, c0, k1, k2, k3, k4⟩ => .inr ⟨b, c0, k1, k2, by rw [hc b k2]; exact k3, k4⟩⟩
theorem CellsL.str {σ σ' : PH} : ∀ {l : List ByteArray} {cs : List Value}, CellsL σ cs l → CellsL σ' cs l := by
  intro l
  induction l with
  | nil => intro cs h; exact h
  | cons x l ih => rintro cs ⟨c1, c2, rfl, h1, h2⟩; exact ⟨c1, c2, rfl, h1, ih h2⟩
theorem rowD_since {w w' : World} {τ : PH} {N e : Nat} {v : Value} {α : Type} [Rep α] {l : List α} {F : Nat → Prop} (h : (rowD N e v l).h ⟨τ, hp w'⟩ F) (hF : ∀ b, F b → w.heap.size ≤ b) (ht : PH.le τ (since w w')) (hl : l.length ≤ 140737488355328) : RepL (since w w') v l := by
  obtain ⟨cs, hc, h1, _, a, cap, rfl, h2, _, h4⟩ := h
  refine ⟨hl, a, cap, rfl, h2, fun hn => ?_⟩
  rcases h4 with ⟨h8, _⟩ | ⟨b, c0, rfl, g1, g2, g3, g4⟩
  · exact absurd (List.eq_nil_of_length_eq_zero h8) hn
  · refine ⟨b, 0, rfl, (hc.mono (PH.le_trans (fromN_le _ _) ht)).rowAt fun j hj => ?_⟩
    rw [hc.len] at hj
    have g2' : w'.heap[b]? = _ := g2
    have : (since w w').cell b (0 + j) = c0[j]? := by simp only [PH.cell, since, if_pos (hF b g1), g2', Nat.zero_add]; simp
    rw [this, ← g4, List.getElem?_take, if_pos hj]
theorem Post.since_le {τ : PH} {w w' : World} {Ko : List HP} (h : Post τ Ko w w') : PH.le τ (since w w') := fun b o hb => by
  have h1 := h.imm b o hb
  have : ¬ b < w.heap.size := fun hlt => by rw [h.new b hlt] at hb; cases hb
  simp only [since]; rw [if_pos (by omega)]; exact h1
theorem Post.row {τ : PH} {w w' : World} {N e : Nat} {v : Value} {α : Type} [Rep α] {l : List α} {Ko : List HP} (h : Post τ (rowD N e v l :: Ko) w w') (hl : l.length ≤ 140737488355328) : RepL (since w w') v l := by
  obtain ⟨F, h1, h2, _⟩ := h.sep
  exact rowD_since h1 (fun b hb => (h2 b hb).1) h.since_le hl
section
variable {P : Program} {f : FuncId} {R : Ending → World → Prop} {k : List Item} {n : Nat} {fr : Nat → Value} {w0 : World} {M : Nat → Prop} {σ : PH} {Kf : Us → List HP}
variable {H : HS} {O : List (Nat × Obj)} {Kb : List HP} {E : List Nat} {tags : List Tag} {rest : List Oper} {d : Nat} {ty : TypeId} {pos : String} {aft : Array Edge} {x y z : Operand} {t t' : TypeId}
variable {α : Type} {ri : Rep α} {e : Nat}
/-- A call that hands over a row. -/
theorem D.callD {g : FuncId} {xs : Array Operand} {ts : Array TypeId} {args : Us → List Value} (N : Nat) (e : TypeId) (l : List α) [i : Fun P g]
    (h : LD P f R k n w0 M σ Kb rest tags ⟨fr, (d, fun _ _ => True) :: H, O, fun us => rowD N e (us d) l :: Kf us, d :: ((Stg.mk fr H O Kf E false).seen ⟨some d, .call ⟨.value (.func g), xs, ts⟩, ty, pos, aft, none⟩ ++ E), false⟩)
    (hc : ∀ us σ' w, PH.le σ σ' → Facts H (readsTmp ⟨some d, .call ⟨.value (.func g), xs, ts⟩, ty, pos, aft, none⟩) us σ' → Sat w0 M σ' Kb w → Calls P g (args us).toArray w fun r w' => ∃ v τ, r = .returned v ∧ Post τ [rowD N e v l] w w' ∧ True)
    (hx : ∀ us, xs.toList.map (ev n (fill fr H us)) = args us := by intro _; rfl)
    (hL : ∀ us, Less (Kf us) Kb := by intro _; infer_instance) (hKd : ∀ us u, Kf (upd us d u) = Kf us := by intro _ _; rfl)
    (hE : ∀ us, (fun us => rowD N e (us d) l :: Kf us) (resE (d :: ((Stg.mk fr H O Kf E false).seen ⟨some d, .call ⟨.value (.func g), xs, ts⟩, ty, pos, aft, none⟩ ++ E)) us) = (fun us => rowD N e (us d) l :: Kf us) us := by intro _; rfl) :
    LD P f R k n w0 M σ Kb (⟨some d, .call ⟨.value (.func g), xs, ts⟩, ty, pos, aft, none⟩ :: rest) (.eff :: tags) ⟨fr, H, O, Kf, E, false⟩ := by
  refine D.eff (fun _ _ => True) (fun us => rowD N e (us d) l :: Kf us) _ (fun _ _ _ _ _ => trivial) (fun us => ⟨fun h => (hL us).get h.tail⟩) h (fun us σ' w X hle hfs hw => ?_) hE
  refine .inr ⟨g, _, exec_call i.eq (hx us) w, (hc us σ' w hle hfs (hw.weak fun F h => (hL us).get h.tail)).mono ?_⟩
  rintro r w' ⟨v, τ, rfl, hp, _⟩
  obtain ⟨h1, h2, h3⟩ := hw.join hp
  refine ⟨v, rfl, _, h1, ?_, trivial⟩
  have h4 : Sat w0 M (joinPH w σ' τ) (X :: rowD N e v l :: Kf us) w' := h3.weak fun _ => SepIn.swap
  simpa [upd_eq, hKd] using h4
/-- A store of a slice that the region has made, into a block that is known but for such slices. -/
theorem D.stV (s : Nat) (cs cs' : Us → List Value) {b off sz : Nat} {T : TypeId} {sg : Bool} {put : Us → HP → List HP} {K' : Us → List HP} [hs : TSz P t sz]
    (h : LD P f R k n w0 M σ Kb rest tags ⟨fr, H, [], fun us => put us (blk b (.cells (cs' us).toArray T (0, 0))), (Stg.mk fr H [] Kf E sg).seen ⟨none, .store t x y, ty, pos, aft, none⟩ ++ E, true⟩)
    (hx : ∀ us, ev n (fill fr H us) x = .pointer (some ⟨b, off, none⟩) := by intro _; rfl) (hy : ∀ us, ev n (fill fr H us) y = us s := by intro _; rfl) (hf : ∀ us, FindB b (Kf us) (.cells (cs us).toArray T (0, 0)) (put us) (K' us) := by intro _; infer_instance)
    (hform : ∀ us σ' w, Sat w0 M σ' (Kf us) w → ∃ a m c, us s = .slice a m c := by intro us σ' w hw; exact hw.formE)
    (hsz : sz = 1 := by rfl) (hr : ∀ us, off + 1 ≤ (cs us).length := by intro _; exact Nat.le_of_ble_eq_true rfl) (hc : ∀ us, setAt (cs us) off [us s] = cs' us := by intro _; rfl)
    (hE : ∀ us, (fun us => put us (blk b (.cells (cs' us).toArray T (0, 0)))) (resE (([] : List (Nat × Obj)).map (·.1) ++ ((Stg.mk fr H [] Kf E sg).seen ⟨none, .store t x y, ty, pos, aft, none⟩ ++ E)) us) = put us (blk b (.cells (cs' us).toArray T (0, 0))) := by intro _; rfl) :
    LD P f R k n w0 M σ Kb (⟨none, .store t x y, ty, pos, aft, none⟩ :: rest) (.st :: tags) ⟨fr, H, [], Kf, E, sg⟩ :=
  D.st (fun us => put us (blk b (.cells (cs' us).toArray T (0, 0)))) (fun us => put us (blk b (.cells (cs' us).toArray T (0, 0)))) h (fun us σ' w hle hfs hw => by
    have hw : Sat w0 M σ' (Kf us) w := hw
    obtain ⟨a, m, c, e⟩ := hform us σ' w hw
    have hb := hw.get (i := hf us)
    subst hsz
    have hcl : cellsL (us s) = [us s] := by rw [e]; rfl
    have := run_storeVarL (P := P) (t := t) (v := us s) hb hs.eq off (by rw [hcl]; rfl) (hr us) (by rw [e]; rfl)
    rw [hcl, hc us] at this
    exact ⟨_, by simp [execOp, hx us, hy us, Instr.storeAt, Instr.sureAddr, this], hw.put (i := hf us) _⟩) hE
end
end Go.JW
