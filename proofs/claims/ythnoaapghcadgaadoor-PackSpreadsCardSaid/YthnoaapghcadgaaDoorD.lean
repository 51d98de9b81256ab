/- A region that draws its order, at hand: rules as those of the other regions. Printed in part by gend.py. -/
import Derived.Test.YthnoaapghcadgaaDoorDrawS
import Derived.Test.YthnoaapghcadgaaDoorVal
import Derived.KernelRfl
namespace Go.JW

def Facts : HS → List Nat → Us → PH → Prop
  | [], _, _, _ => True
  | (s, T) :: H, rd, us, σ => (bif rd.elem s then T (us s) σ else True) ∧ Facts H rd us σ
theorem facts_of {rd : List Nat} {us : Us} {σ : PH} : ∀ {H : HS}, (∀ p ∈ H, p.1 ∈ rd → p.2 (us p.1) σ) → Facts H rd us σ := by
  intro H
  induction H with
  | nil => intro _; trivial
  | cons p H ih =>
    intro h
    refine ⟨?_, ih fun p hp => h p (by simp [hp])⟩
    by_cases e : rd.elem p.1 = true
    · rw [e]; exact h p (by simp) (by simpa using e)
    · rw [Bool.not_eq_true] at e; rw [e]; trivial
def AllFacts : HS → Us → PH → Prop
  | [], _, _ => True
  | (s, T) :: H, us, σ => T (us s) σ ∧ AllFacts H us σ
theorem allFacts_of {us : Us} {σ : PH} : ∀ {H : HS}, (∀ p ∈ H, p.2 (us p.1) σ) → AllFacts H us σ := by
  intro H
  induction H with
  | nil => intro _; trivial
  | cons p H ih => intro h; exact ⟨h p (by simp), ih fun p hp => h p (by simp [hp])⟩
/-- Nothing of w0's memory. -/
def New (w0 : World) (τ : PH) : Prop := ∀ b, b < w0.heap.size → τ b = none
theorem New.since {w0 w w' : World} (h : w0.heap.size ≤ w.heap.size) : New w0 (since w w') := fun b hb => by simp only [JW.since]; rw [if_neg (by omega)]
theorem New.le_since {w0 w : World} {M : Nat → Prop} {σ τ : PH} {K : List HP} (hn : New w0 τ) (hs : PH.le τ σ) (hw : Sat w0 M σ K w) : PH.le τ (JW.since w0 w) := fun b o hb => by
  have h1 := hw.imm b o (hs b o hb)
  have h2 : ¬ b < w0.heap.size := fun h => by rw [hn b h] at hb; cases hb
  simp only [JW.since]; rw [if_pos (by omega)]; exact h1
def guardV : Option Bool → Value
  | some b => .bool b
  | none => undef
def GEnd (s : Stg) : List (Nat × Option Bool) → Prop
  | [] => True
  | p :: gl => (s.fr p.1 = guardV p.2 ∧ s.slots.elem p.1 = false) ∧ GEnd s gl
theorem GEnd.at_ {s : Stg} : ∀ {gl : List (Nat × Option Bool)}, GEnd s gl → ∀ p ∈ gl, s.fr p.1 = guardV p.2 ∧ p.1 ∉ s.slots := by
  intro gl
  induction gl with
  | nil => intro _ p hp; simp at hp
  | cons q gl ih =>
    rintro ⟨h1, h2⟩ p hp
    rcases List.mem_cons.1 hp with rfl | hp
    · exact ⟨h1.1, by simpa using h1.2⟩
    · exact ih h2 p hp
structure LD (P : Program) (f : FuncId) (R : Ending → World → Prop) (k : List Item) (n : Nat) (w0 : World) (M : Nat → Prop) (σ : PH) (Kb : List HP) (l : List Oper) (tags : List Tag) (s : Stg) : Prop where
  out : ∃ (infos : List Info) (gl : List (Nat × Option Bool)), infos.map Info.tag ++ gl.map (fun p => Tag.g p.1 p.2) = tags ∧ infos.length = l.length ∧ LDp P f R k n w0 M σ Kb (l.zip infos) s ∧ GEnd (stAt (l.zip infos) s l.length) gl
theorem zip_fst {l : List Oper} {infos : List Info} (h : infos.length = l.length) : (l.zip infos).map (·.1) = l := by
  have := List.map_fst_zip (l₁ := l) (l₂ := infos) (by omega)
  exact this
theorem zip_snd {l : List Oper} {infos : List Info} (h : infos.length = l.length) : (l.zip infos).map (fun p => p.2.tag) = infos.map Info.tag := by
  have h2 := List.map_snd_zip (l₁ := l) (l₂ := infos) (by omega)
  have : (l.zip infos).map (fun p => p.2.tag) = ((l.zip infos).map Prod.snd).map Info.tag := by rw [List.map_map]; rfl
  rw [this, h2]
section
variable {P : Program} {f : FuncId} {R : Ending → World → Prop} {k : List Item} {n : Nat} {fr : Nat → Value} {w0 : World} {M : Nat → Prop} {σ : PH} {K Kb : List HP}
variable {H : HS} {O : List (Nat × Obj)} {Kf : Us → List HP} {E : List Nat} {sg : Bool} {rest : List Oper} {tags : List Tag}
variable {d : Nat} {op : Op} {ty : TypeId} {pos : String} {aft : Array Edge} {x y z : Operand} {t t' : TypeId}
theorem RS.draw {id : Nat} {l : List Oper} (tags : List Tag) (Kb : List HP) (h : LD P f R k n w0 M σ Kb l tags ⟨fr, [], [], fun _ => K, [], false⟩) (hm : P.follows .mixedOrders = true) (hok : drawOkT l tags = true) (hL : Less K Kb) :
    RS P f R (.code (.region id l.toArray true) :: k) n fr w0 M σ K := by
  obtain ⟨infos, gl, h1, h2, h3, _⟩ := h.out
  have hlen : l.length = tags.length := by
    simp only [drawOkT, Bool.and_eq_true, decide_eq_true_eq] at hok; exact hok.2.2
  have hgl : gl = [] := by
    have := congrArg List.length h1
    simp only [List.length_append, List.length_map] at this
    exact List.eq_nil_of_length_eq_zero (by omega)
  subst hgl
  simp only [List.map_nil, List.append_nil] at h1
  have := RS.drawAll (l := l.zip infos) (id := id) hm (by unfold drawOk; rw [zip_fst h2, zip_snd h2, h1]; exact hok) hL h3
  rwa [zip_fst h2] at this
theorem D.cons {o : Oper} {s : Stg} (inf : Info) (ho : Ob P n w0 M σ Kb s o inf) (h : LD P f R k n w0 M σ Kb rest tags (s.next o inf)) : LD P f R k n w0 M σ Kb (o :: rest) (inf.tag :: tags) s := by
  obtain ⟨infos, gl, h1, h2, h3, h4⟩ := h.out
  exact ⟨inf :: infos, gl, by simp [← h1], by simp [h2], ⟨ho, h3⟩, h4⟩
theorem D.done (h : ∀ us σ', PH.le σ σ' → AllFacts H us σ' → RS P f R k n (fill fr H us) w0 M σ' (ownsL O us ++ Kf us)) : LD P f R k n w0 M σ Kb [] [] ⟨fr, H, O, Kf, E, sg⟩ :=
  ⟨[], [], rfl, rfl, fun us σ' hle hf => h us σ' hle (allFacts_of hf), trivial⟩
theorem D.doneG (gl : List (Nat × Option Bool)) (hg : GEnd ⟨fr, H, O, Kf, E, sg⟩ gl) (h : ∀ us σ', PH.le σ σ' → AllFacts H us σ' → RS P f R k n (fill fr H us) w0 M σ' (ownsL O us ++ Kf us)) (ht : tags = gl.map (fun p => Tag.g p.1 p.2) := by rfl) : LD P f R k n w0 M σ Kb [] tags ⟨fr, H, O, Kf, E, sg⟩ :=
  ⟨[], gl, ht.symm, rfl, fun us σ' hle hf => h us σ' hle (allFacts_of hf), hg⟩
theorem D.free {v : Value} (h : LD P f R k n w0 M σ Kb rest tags ⟨upd fr d v, H, O, Kf, E, sg⟩) (ho : ∀ us w, (execOp (ev n (fill fr H us)) ⟨some d, op, ty, pos, aft, none⟩).run P w = .ok (.value v) w) :
    LD P f R k n w0 M σ Kb (⟨some d, op, ty, pos, aft, none⟩ :: rest) (.free :: tags) ⟨fr, H, O, Kf, E, sg⟩ := D.cons (.free v) ⟨rfl, rfl, fun us w _ => ho us w⟩ h
theorem D.freeI {v : Value} (h : LD P f R k n w0 M σ Kb rest tags ⟨upd fr d v, H, O, Kf, E, sg⟩) (ho : ∀ us w, PH.le σ (hp w) → (execOp (ev n (fill fr H us)) ⟨some d, op, ty, pos, aft, none⟩).run P w = .ok (.value v) w) :
    LD P f R k n w0 M σ Kb (⟨some d, op, ty, pos, aft, none⟩ :: rest) (.free :: tags) ⟨fr, H, O, Kf, E, sg⟩ := D.cons (.free v) ⟨rfl, rfl, ho⟩ h
theorem D.ex {v : Value} (h : LD P f R k n w0 M σ Kb rest tags ⟨upd fr d v, H, O, Kf, E, false⟩)
    (ho : ∀ us σ' w, PH.le σ σ' → Facts H (readsTmp ⟨some d, op, ty, pos, aft, none⟩) us σ' → Sat w0 M σ' Kb w → (execOp (ev n (fill fr H us)) ⟨some d, op, ty, pos, aft, none⟩).run P w = .ok (.value v) w) :
    LD P f R k n w0 M σ Kb (⟨some d, op, ty, pos, aft, none⟩ :: rest) (.ex :: tags) ⟨fr, H, O, Kf, E, false⟩ :=
  D.cons (.ex v) ⟨rfl, rfl, rfl, fun us σ' w hle hf hw => ho us σ' w hle (facts_of hf) hw⟩ h
theorem D.gr (T : Value → PH → Prop) (hT : MonoT T) (h : LD P f R k n w0 M σ Kb rest tags ⟨fr, (d, T) :: H, O, Kf, E, false⟩)
    (ho : ∀ us σ' w, PH.le σ σ' → Facts H (readsTmp ⟨some d, op, ty, pos, aft, none⟩) us σ' → Sat w0 M σ' Kb w → StepsTo P (ev n (fill fr H us)) ⟨some d, op, ty, pos, aft, none⟩ w fun u w' => RowKit.Below w.heap.size w w' ∧ T u (grow σ' w w')) :
    LD P f R k n w0 M σ Kb (⟨some d, op, ty, pos, aft, none⟩ :: rest) (.ex :: tags) ⟨fr, H, O, Kf, E, false⟩ :=
  D.cons (.gr T) ⟨rfl, rfl, rfl, hT, fun us σ' w hle hf hw => ho us σ' w hle (facts_of hf) hw⟩ h
theorem D.eff (T : Value → PH → Prop) (Kf1 Kf2 : Us → List HP) (hT : MonoT T) (hL : ∀ us, Less (Kf1 us) Kb)
    (h : LD P f R k n w0 M σ Kb rest tags ⟨fr, (d, T) :: H, O, Kf2, d :: ((Stg.mk fr H O Kf E false).seen ⟨some d, op, ty, pos, aft, none⟩ ++ E), false⟩)
    (ho : ∀ us σ' w X, PH.le σ σ' → Facts H (readsTmp ⟨some d, op, ty, pos, aft, none⟩) us σ' → Sat w0 M σ' (X :: Kf us) w → StepsTo P (ev n (fill fr H us)) ⟨some d, op, ty, pos, aft, none⟩ w fun u w' => ∃ σ'', PH.le σ' σ'' ∧ Sat w0 M σ'' (X :: Kf1 (upd us d u)) w' ∧ T u σ'')
    (hE : ∀ us, Kf1 (resE (d :: ((Stg.mk fr H O Kf E false).seen ⟨some d, op, ty, pos, aft, none⟩ ++ E)) us) = Kf2 us := by intro _; rfl) :
    LD P f R k n w0 M σ Kb (⟨some d, op, ty, pos, aft, none⟩ :: rest) (.eff :: tags) ⟨fr, H, O, Kf, E, false⟩ := by
  refine D.cons (.eff T Kf1) ⟨rfl, rfl, rfl, hT, hL, fun us σ' w X hle hf hw => ho us σ' w X hle (facts_of hf) hw⟩ ?_
  obtain rfl : (fun us => Kf1 (resE (d :: ((Stg.mk fr H O Kf E false).seen ⟨some d, op, ty, pos, aft, none⟩ ++ E)) us)) = Kf2 := funext hE
  exact h
theorem D.st (Kf1 Kf2 : Us → List HP) (h : LD P f R k n w0 M σ Kb rest tags ⟨fr, H, [], Kf2, O.map (·.1) ++ ((Stg.mk fr H O Kf E sg).seen ⟨none, op, ty, pos, aft, none⟩ ++ E), true⟩)
    (ho : ∀ us σ' w, PH.le σ σ' → Facts H (readsTmp ⟨none, op, ty, pos, aft, none⟩) us σ' → Sat w0 M σ' (ownsL O us ++ Kf us) w → ∃ w', (execOp (ev n (fill fr H us)) ⟨none, op, ty, pos, aft, none⟩).run P w = .ok .skip w' ∧ Sat w0 M σ' (Kf1 us) w')
    (hE : ∀ us, Kf1 (resE (O.map (·.1) ++ ((Stg.mk fr H O Kf E sg).seen ⟨none, op, ty, pos, aft, none⟩ ++ E)) us) = Kf2 us := by intro _; rfl) :
    LD P f R k n w0 M σ Kb (⟨none, op, ty, pos, aft, none⟩ :: rest) (.st :: tags) ⟨fr, H, O, Kf, E, sg⟩ := by
  refine D.cons (.st Kf1) ⟨rfl, rfl, fun us σ' w hle hf hw => ho us σ' w hle (facts_of hf) hw⟩ ?_
  obtain rfl : (fun us => Kf1 (resE (O.map (·.1) ++ ((Stg.mk fr H O Kf E sg).seen ⟨none, op, ty, pos, aft, none⟩ ++ E)) us)) = Kf2 := funext hE
  exact h
theorem D.alloc_ {zs : List Value} [hz : TZero P t zs] (h : LD P f R k n w0 M σ Kb rest tags ⟨fr, (d, fun _ _ => True) :: H, (d, .cells zs.toArray t (0, 0)) :: O, Kf, E, false⟩) :
    LD P f R k n w0 M σ Kb (⟨some d, .alloc t, ty, pos, aft, none⟩ :: rest) (.own :: tags) ⟨fr, H, O, Kf, E, false⟩ :=
  D.cons (.own (.cells zs.toArray t (0, 0))) ⟨rfl, rfl, rfl, fun us w => by
    obtain ⟨z, h1, h2⟩ := zero_cells hz.eq w
    simp [execOp, Instr.alloc, h1, newVar, newRow, h2]⟩ h
theorem D.callP {g : FuncId} {xs : Array Operand} {ts : Array TypeId} {args : Us → List Value} {v : Value} [i : Fun P g]
    (h : LD P f R k n w0 M σ Kb rest tags ⟨upd fr d v, H, O, Kf, E, false⟩) (hx : ∀ us, xs.toList.map (ev n (fill fr H us)) = args us := by intro _; rfl)
    (hc : ∀ us σ' w, PH.le σ σ' → Facts H (readsTmp ⟨some d, .call ⟨.value (.func g), xs, ts⟩, ty, pos, aft, none⟩) us σ' → Sat w0 M σ' Kb w → Calls P g (args us).toArray w fun e w' => e = .returned v ∧ RowKit.Below w.heap.size w w') :
    LD P f R k n w0 M σ Kb (⟨some d, .call ⟨.value (.func g), xs, ts⟩, ty, pos, aft, none⟩ :: rest) (.ex :: tags) ⟨fr, H, O, Kf, E, false⟩ :=
  D.cons (.exc v) ⟨rfl, rfl, rfl, fun us σ' w hle hf hw => .inr ⟨g, _, exec_call i.eq (hx us) w, (hc us σ' w hle (facts_of hf) hw).mono fun _ _ ⟨he, hb⟩ => ⟨v, he, hb, rfl⟩⟩⟩ h
/-- A call that answers something all new. -/
theorem D.callN {g : FuncId} {xs : Array Operand} {ts : Array TypeId} {args : Us → List Value} (Q : Value → PH → Prop) [i : Fun P g]
    (h : LD P f R k n w0 M σ Kb rest tags ⟨fr, (d, fun v σ => ∃ τ, Q v τ ∧ PH.le τ σ ∧ New w0 τ) :: H, O, Kf, E, false⟩) (hx : ∀ us, xs.toList.map (ev n (fill fr H us)) = args us := by intro _; rfl)
    (hc : ∀ us σ' w, PH.le σ σ' → Facts H (readsTmp ⟨some d, .call ⟨.value (.func g), xs, ts⟩, ty, pos, aft, none⟩) us σ' → Sat w0 M σ' Kb w → Calls P g (args us).toArray w fun e w' => ∃ v, e = .returned v ∧ RowKit.Below w.heap.size w w' ∧ Q v (since w w')) :
    LD P f R k n w0 M σ Kb (⟨some d, .call ⟨.value (.func g), xs, ts⟩, ty, pos, aft, none⟩ :: rest) (.ex :: tags) ⟨fr, H, O, Kf, E, false⟩ :=
  D.gr _ (fun _ _ _ ⟨τ, h1, h2, h3⟩ hs => ⟨τ, h1, PH.le_trans h2 hs, h3⟩) h fun us σ' w hle hf hw =>
    .inr ⟨g, _, exec_call i.eq (hx us) w, (hc us σ' w hle hf hw).mono fun _ w' ⟨v, he, hb, hq⟩ => ⟨v, he, hb, since w w', hq, since_le _ _ _, New.since hw.size⟩⟩
/-- A literal of a slice. -/
theorem D.bldS {e s : Nat} {zs : List Value} {parts : Array (Nat × Operand)} {len : Nat} {vs : Us → List Value} (T : Value → PH → Prop) (hT : MonoT T) [ht : TSlice P t e] [hs : TSz P e s] [hz : TZero P e zs]
    (h : LD P f R k n w0 M σ Kb rest tags ⟨fr, (d, T) :: H, O, Kf, E, false⟩)
    (ho : ∀ us σ', PH.le σ σ' → Facts H (readsTmp ⟨some d, .buildSlice t len parts, ty, pos, aft, none⟩) us σ' → ∃ cs, catL s (vs us) = some cs ∧ ∀ b σ'', PH.le σ' σ'' → (b < w0.heap.size → False) → σ'' b = some (.cells cs.toArray e (0, 0)) → T (.slice (some ⟨b, 0, none⟩) len len) σ'')
    (hx : ∀ us, parts.toList.map (fun p => (p.1, ev n (fill fr H us) p.2)) = (vs us).zipIdx.map (fun p => (p.2, p.1)) := by intro _; rfl)
    (hl : ∀ us, Nat.beq (vs us).length len = true := by intro _; rfl) (hb : Nat.ble (len * s) 16777216 = true := by rfl) :
    LD P f R k n w0 M σ Kb (⟨some d, .buildSlice t len parts, ty, pos, aft, none⟩ :: rest) (.ex :: tags) ⟨fr, H, O, Kf, E, false⟩ :=
  D.gr T hT h fun us σ' w hle hf hw => by
    have el := Nat.eq_of_beq_eq_true (hl us)
    obtain ⟨cs, hc, hT'⟩ := ho us σ' hle hf
    have e1 : (parts.map fun (i, x) => (i, ev n (fill fr H us) x)) = ((vs us).zipIdx.map fun p => (p.2, p.1)).toArray := by rw [← hx us]; cases parts; simp
    have := run_buildSlice w ht.eq hs.eq hz.eq rfl hc (by rw [el]; exact Nat.le_of_ble_eq_true hb)
    rw [el] at this
    refine .inl ⟨.slice (some ⟨w.heap.size, 0, none⟩) len len, w.alloc (.cells cs.toArray e), by simp [execOp, e1, this], (RowKit.Below.refl _ _).alloc (Nat.le_refl _) _, hT' _ _ (grow_le hw) (fun h => by have := hw.size; omega) ?_⟩
    simp only [JW.grow]; rw [if_pos (Nat.le_refl _)]; exact (heap_alloc_at w _ _).trans (if_pos rfl)
theorem RS.openOwn {v : Value} {obj : Obj} (h : ∀ b, v = .pointer (some ⟨b, 0, none⟩) → RS P f R k n fr w0 M σ (blk b obj :: K)) : RS P f R k n fr w0 M σ (ownHP v obj :: K) :=
  ⟨fun w hw => by
    obtain ⟨F1, ⟨b, h1, h2, h3⟩, h4, h5⟩ := hw.sep
    exact (h b h1).out w ⟨hw.os, hw.tape, hw.output, hw.size, hw.keep, hw.imm, F1, ⟨h2, h3⟩, h4, h5⟩⟩
/-- A store of a whole variable that the region has made. -/
theorem D.stO {s sz : Nat} {cs : List Value} {T : TypeId} (ncs : Us → List Value) [hs : TSz P t sz] (h : LD P f R k n w0 M σ Kb rest tags ⟨fr, H, [], fun us => ownHP (us s) (.cells (ncs us).toArray T (0, 0)) :: Kf us, [s] ++ ((Stg.mk fr H [(s, .cells cs.toArray T (0, 0))] Kf E sg).seen ⟨none, .store t (.tmp s) y, ty, pos, aft, none⟩ ++ E), true⟩)
    (ho : ∀ us σ', PH.le σ σ' → Facts H (readsTmp ⟨none, .store t (.tmp s) y, ty, pos, aft, none⟩) us σ' → (cellsL (ev n (fill fr H us) y)).length = sz ∧ (cellsL (ev n (fill fr H us) y)).all (·.oneCell') = true ∧ cellsL (ev n (fill fr H us) y) = ncs us)
    (hx : ∀ us, ev n (fill fr H us) (.tmp s) = us s := by intro _; rfl) (hl : Nat.beq cs.length sz = true := by rfl)
    (hE : ∀ us, (fun us => ownHP (us s) (.cells (ncs us).toArray T (0, 0)) :: Kf us) (resE ([s] ++ ((Stg.mk fr H [(s, .cells cs.toArray T (0, 0))] Kf E sg).seen ⟨none, .store t (.tmp s) y, ty, pos, aft, none⟩ ++ E)) us) = (fun us => ownHP (us s) (.cells (ncs us).toArray T (0, 0)) :: Kf us) us := by intro _; rfl) :
    LD P f R k n w0 M σ Kb (⟨none, .store t (.tmp s) y, ty, pos, aft, none⟩ :: rest) (.st :: tags) ⟨fr, H, [(s, .cells cs.toArray T (0, 0))], Kf, E, sg⟩ :=
  D.st (fun us => ownHP (us s) (.cells (ncs us).toArray T (0, 0)) :: Kf us) _ h (fun us σ' w hle hf hw => by
    obtain ⟨h1, h2, h3⟩ := ho us σ' hle hf
    obtain ⟨F1, ⟨b, g1, g2, g3⟩, g4, g5⟩ := hw.sep
    have hl' := Nat.eq_of_beq_eq_true hl
    have hrun := run_storeVarL (P := P) (t := t) g3 hs.eq 0 h1 (by omega) h2
    have e0 : setAt cs 0 (cellsL (ev n (fill fr H us) y)) = cellsL (ev n (fill fr H us) y) := by
      have := setAt_mid [] cs [] (cellsL (ev n (fill fr H us) y)) (by omega)
      simpa using this
    rw [e0, h3] at hrun
    refine ⟨{ w with heap := w.heap.setIfInBounds b (.cells (ncs us).toArray T (0, 0)) }, by simp [execOp, hx us, g1, Instr.storeAt, Instr.sureAddr, hrun], ?_⟩
    refine Sat.putG (A := ownHP (us s) (.cells cs.toArray T (0, 0))) hw fun F ⟨b', k1, k2, k3⟩ hF => ?_
    rw [g1] at k1; injection k1 with k1; injection k1 with k1; injection k1 with k1
    subst k1
    exact ⟨k2, b, g1, k2, by simp⟩) hE
theorem RS.drawK {id : Nat} {l : List Oper} (tags : List Tag) (h : LD P f R k n w0 M σ K l tags ⟨fr, [], [], fun _ => K, [], false⟩) (hm : P.follows .mixedOrders = true) (hok : drawOkT l tags = true) :
    RS P f R (.code (.region id l.toArray true) :: k) n fr w0 M σ K := RS.draw tags K h hm hok ⟨fun h => h⟩
theorem D.ldS {b off : Nat} {v : Value} [ht : TOne P t] (hc : σ.cell b off = some v) (h : LD P f R k n w0 M σ Kb rest tags ⟨upd fr d v, H, O, Kf, E, false⟩) (hx : ∀ us, ev n (fill fr H us) x = .pointer (some ⟨b, off, none⟩) := by intro _; rfl) :
    LD P f R k n w0 M σ Kb (⟨some d, .load t x, ty, pos, aft, none⟩ :: rest) (.ex :: tags) ⟨fr, H, O, Kf, E, false⟩ :=
  D.ex h fun us σ' w hle _ hw => by
    have := run_loadVar1 (P := P) (w := w) (b := b) ht.agg off (hw.cell (PH.cell_mono hle hc))
    simp [execOp, hx us, Instr.loadAt, Instr.sureAddr, this]
theorem D.ldSA {b off s : Nat} {vs : List Value} [ht : TAgg P t] [hs : TSz P t s] (hl : vs.length = s) (hc : ∀ j, j < s → σ.cell b (off + j) = vs[j]?) (h : LD P f R k n w0 M σ Kb rest tags ⟨upd fr d (.agg vs.toArray), H, O, Kf, E, false⟩) (hx : ∀ us, ev n (fill fr H us) x = .pointer (some ⟨b, off, none⟩) := by intro _; rfl) :
    LD P f R k n w0 M σ Kb (⟨some d, .load t x, ty, pos, aft, none⟩ :: rest) (.ex :: tags) ⟨fr, H, O, Kf, E, false⟩ :=
  D.ex h fun us σ' w hle _ hw => by
    have := run_loadVarA (P := P) (w := w) (b := b) ht.agg hs.eq off hl (fun j hj => by
      have h1 := PH.cells_mono hle hl hc j hj
      rw [List.getElem?_eq_getElem (by omega)] at h1 ⊢
      exact hw.cell h1)
    simp [execOp, hx us, Instr.loadAt, Instr.sureAddr, this]
theorem D.ld1 {b off : Nat} {cs : List Value} {T : TypeId} {v : Value} {put : HP → List HP} {K' : List HP} [ht : TOne P t] (h : LD P f R k n w0 M σ Kb rest tags ⟨upd fr d v, H, O, Kf, E, false⟩) (hx : ∀ us, ev n (fill fr H us) x = .pointer (some ⟨b, off, none⟩) := by intro _; rfl)
    (hf : FindB b Kb (.cells cs.toArray T (0, 0)) put K' := by infer_instance) (hv : nth cs off = some v := by rfl) :
    LD P f R k n w0 M σ Kb (⟨some d, .load t x, ty, pos, aft, none⟩ :: rest) (.ex :: tags) ⟨fr, H, O, Kf, E, false⟩ :=
  D.ex h fun us σ' w hle _ hw => by
    have hb := hw.get (i := hf)
    rw [nth_eq] at hv
    have := run_loadVar1 (P := P) (w := w) (b := b) ht.agg off ((cell_blk hb off).trans hv)
    simp [execOp, hx us, Instr.loadAt, Instr.sureAddr, this]
theorem D.ldA (vs : List Value) {b off s : Nat} {cs : List Value} {T : TypeId} {put : HP → List HP} {K' : List HP} [ht : TAgg P t] [hs : TSz P t s] (h : LD P f R k n w0 M σ Kb rest tags ⟨upd fr d (.agg vs.toArray), H, O, Kf, E, false⟩) (hx : ∀ us, ev n (fill fr H us) x = .pointer (some ⟨b, off, none⟩) := by intro _; rfl)
    (hf : FindB b Kb (.cells cs.toArray T (0, 0)) put K' := by infer_instance) (hv : takeAt cs off s = some vs := by rfl) :
    LD P f R k n w0 M σ Kb (⟨some d, .load t x, ty, pos, aft, none⟩ :: rest) (.ex :: tags) ⟨fr, H, O, Kf, E, false⟩ :=
  D.ex h fun us σ' w hle _ hw => by
    have hb := hw.get (i := hf)
    obtain ⟨hl, hc⟩ := takeAt_spec _ _ _ _ hv
    have := run_loadVarA (P := P) (w := w) (b := b) ht.agg hs.eq off hl (fun j hj => (cell_blk hb (off + j)).trans (hc j hj))
    simp [execOp, hx us, Instr.loadAt, Instr.sureAddr, this]
/-- A literal of a slice that is the same whatever the order. -/
def TLit (e len : Nat) (cs : List Value) : Value → PH → Prop := fun v σ => ∃ b, v = .slice (some ⟨b, 0, none⟩) len len ∧ σ b = some (.cells cs.toArray e (0, 0))
theorem D.bldL {e s : Nat} {zs : List Value} {parts : Array (Nat × Operand)} {len : Nat} (vs cs : List Value) [ht : TSlice P t e] [hs : TSz P e s] [hz : TZero P e zs]
    (h : LD P f R k n w0 M σ Kb rest tags ⟨fr, (d, TLit e len cs) :: H, O, Kf, E, false⟩)
    (hx : ∀ us, parts.toList.map (fun p => (p.1, ev n (fill fr H us) p.2)) = vs.zipIdx.map (fun p => (p.2, p.1)) := by intro _; rfl)
    (hc : catL s vs = some cs := by rfl) (hl : Nat.beq vs.length len = true := by rfl) (hb : Nat.ble (len * s) 16777216 = true := by rfl) :
    LD P f R k n w0 M σ Kb (⟨some d, .buildSlice t len parts, ty, pos, aft, none⟩ :: rest) (.ex :: tags) ⟨fr, H, O, Kf, E, false⟩ :=
  D.bldS (vs := fun _ => vs) (TLit e len cs) (fun _ _ _ ⟨b, h1, h2⟩ hs => ⟨b, h1, hs _ _ h2⟩) h (fun _ _ _ _ => ⟨cs, hc, fun b _ _ _ h => ⟨b, rfl, h⟩⟩) hx (fun _ => hl) hb
/-- The text of so many bytes that the region has laid in a slice. -/
theorem D.b2s {e : TypeId} {c0 : Nat} (bs : List Int) (s : Nat) [ht : TSlice P t e] [he : TInt P e .u8] [hd : TStr P t'] (h : LD P f R k n w0 M σ Kb rest tags ⟨upd fr d (.string (bs.foldl (fun r n => r.push (UInt8.ofNat n.toNat)) ByteArray.empty)), H, O, Kf, E, false⟩)
    (ho : ∀ us σ' , PH.le σ σ' → Facts H (readsTmp ⟨some d, .convert t t' (.tmp s), ty, pos, aft, none⟩) us σ' → ∃ b, us s = .slice (some ⟨b, 0, none⟩) bs.length c0 ∧ ∀ j, j < bs.length → σ'.cell b j = (bs.map (Value.int .u8))[j]?)
    (hx : ∀ us, ev n (fill fr H us) (.tmp s) = us s := by intro _; rfl) :
    LD P f R k n w0 M σ Kb (⟨some d, .convert t t' (.tmp s), ty, pos, aft, none⟩ :: rest) (.ex :: tags) ⟨fr, H, O, Kf, E, false⟩ :=
  D.ex h fun us σ' w hle hf hw => by
    obtain ⟨b, h1, h2⟩ := ho us σ' hle hf
    have h3 : (loadCells ⟨b, 0, none⟩ bs.length).run P w = .ok (bs.map (Value.int .u8)).toArray w := by
      have := run_loadFrom (P := P) (w := w) (b := b) (fun j => w.cell? ⟨b, j, none⟩) (fun j v h => h) bs.length 0 0 #[] (bs.map (Value.int .u8)) (by simp) (fun j hj => by
        have h4 := h2 j hj
        rw [List.getElem?_eq_getElem (by simpa using hj)] at h4 ⊢
        simpa using hw.cell h4)
      simpa [loadCells] using this
    have := run_bytesToString (P := P) w ⟨b, 0, none⟩ bs.length c0 bs h3
    simp only [execOp, hx us, h1]
    rw [Sem.run_bind, run_convert_bytes_string w t t' e _ _ _ ht.eq he.eq hd.eq, this]
    rfl
theorem D.mv {v : Value} (h : LD P f R k n w0 M σ Kb rest tags ⟨upd fr d v, H, O, Kf, E, sg⟩) (hx : ∀ us, ev n (fill fr H us) x = v := by intro _; rfl) :
    LD P f R k n w0 M σ Kb (⟨some d, .move x, ty, pos, aft, none⟩ :: rest) (.free :: tags) ⟨fr, H, O, Kf, E, sg⟩ :=
  D.free h fun us w => by simp [execOp, (hx us)]
theorem D.as_ {v : Value} (h : LD P f R k n w0 M σ Kb rest tags ⟨upd fr d v, H, O, Kf, E, sg⟩) (hx : ∀ us, ev n (fill fr H us) x = v := by intro _; rfl) :
    LD P f R k n w0 M σ Kb (⟨some d, .assign x, ty, pos, aft, none⟩ :: rest) (.free :: tags) ⟨fr, H, O, Kf, E, sg⟩ :=
  D.free h fun us w => by simp [execOp, (hx us)]
theorem D.mvI {kk : IntKind} {m : Int} (h : LD P f R k n w0 M σ Kb rest tags ⟨upd fr d (.int kk m), H, O, Kf, E, sg⟩) (hx : ∀ us, ev n (fill fr H us) x = .int kk m := by intro _; rfl) :
    LD P f R k n w0 M σ Kb (⟨some d, .move x, ty, pos, aft, none⟩ :: rest) (.free :: tags) ⟨fr, H, O, Kf, E, sg⟩ :=
  D.mv h hx
theorem D.asI {kk : IntKind} {m : Int} (h : LD P f R k n w0 M σ Kb rest tags ⟨upd fr d (.int kk m), H, O, Kf, E, sg⟩) (hx : ∀ us, ev n (fill fr H us) x = .int kk m := by intro _; rfl) :
    LD P f R k n w0 M σ Kb (⟨some d, .assign x, ty, pos, aft, none⟩ :: rest) (.free :: tags) ⟨fr, H, O, Kf, E, sg⟩ :=
  D.as_ h hx
theorem D.mvB {m : Bool} (h : LD P f R k n w0 M σ Kb rest tags ⟨upd fr d (.bool m), H, O, Kf, E, sg⟩) (hx : ∀ us, ev n (fill fr H us) x = .bool m := by intro _; rfl) :
    LD P f R k n w0 M σ Kb (⟨some d, .move x, ty, pos, aft, none⟩ :: rest) (.free :: tags) ⟨fr, H, O, Kf, E, sg⟩ :=
  D.mv h hx
theorem D.asB {m : Bool} (h : LD P f R k n w0 M σ Kb rest tags ⟨upd fr d (.bool m), H, O, Kf, E, sg⟩) (hx : ∀ us, ev n (fill fr H us) x = .bool m := by intro _; rfl) :
    LD P f R k n w0 M σ Kb (⟨some d, .assign x, ty, pos, aft, none⟩ :: rest) (.free :: tags) ⟨fr, H, O, Kf, E, sg⟩ :=
  D.as_ h hx
theorem D.mvS {m : ByteArray} (h : LD P f R k n w0 M σ Kb rest tags ⟨upd fr d (.string m), H, O, Kf, E, sg⟩) (hx : ∀ us, ev n (fill fr H us) x = .string m := by intro _; rfl) :
    LD P f R k n w0 M σ Kb (⟨some d, .move x, ty, pos, aft, none⟩ :: rest) (.free :: tags) ⟨fr, H, O, Kf, E, sg⟩ :=
  D.mv h hx
theorem D.asS {m : ByteArray} (h : LD P f R k n w0 M σ Kb rest tags ⟨upd fr d (.string m), H, O, Kf, E, sg⟩) (hx : ∀ us, ev n (fill fr H us) x = .string m := by intro _; rfl) :
    LD P f R k n w0 M σ Kb (⟨some d, .assign x, ty, pos, aft, none⟩ :: rest) (.free :: tags) ⟨fr, H, O, Kf, E, sg⟩ :=
  D.as_ h hx
theorem D.mvL {m : Option Addr} {l c : Nat} (h : LD P f R k n w0 M σ Kb rest tags ⟨upd fr d (.slice m l c), H, O, Kf, E, sg⟩) (hx : ∀ us, ev n (fill fr H us) x = .slice m l c := by intro _; rfl) :
    LD P f R k n w0 M σ Kb (⟨some d, .move x, ty, pos, aft, none⟩ :: rest) (.free :: tags) ⟨fr, H, O, Kf, E, sg⟩ :=
  D.mv h hx
theorem D.asL {m : Option Addr} {l c : Nat} (h : LD P f R k n w0 M σ Kb rest tags ⟨upd fr d (.slice m l c), H, O, Kf, E, sg⟩) (hx : ∀ us, ev n (fill fr H us) x = .slice m l c := by intro _; rfl) :
    LD P f R k n w0 M σ Kb (⟨some d, .assign x, ty, pos, aft, none⟩ :: rest) (.free :: tags) ⟨fr, H, O, Kf, E, sg⟩ :=
  D.as_ h hx
theorem D.mvP {m : Option Addr} (h : LD P f R k n w0 M σ Kb rest tags ⟨upd fr d (.pointer m), H, O, Kf, E, sg⟩) (hx : ∀ us, ev n (fill fr H us) x = .pointer m := by intro _; rfl) :
    LD P f R k n w0 M σ Kb (⟨some d, .move x, ty, pos, aft, none⟩ :: rest) (.free :: tags) ⟨fr, H, O, Kf, E, sg⟩ :=
  D.mv h hx
theorem D.asP {m : Option Addr} (h : LD P f R k n w0 M σ Kb rest tags ⟨upd fr d (.pointer m), H, O, Kf, E, sg⟩) (hx : ∀ us, ev n (fill fr H us) x = .pointer m := by intro _; rfl) :
    LD P f R k n w0 M σ Kb (⟨some d, .assign x, ty, pos, aft, none⟩ :: rest) (.free :: tags) ⟨fr, H, O, Kf, E, sg⟩ :=
  D.as_ h hx
theorem D.mvA {m : Array Value} (h : LD P f R k n w0 M σ Kb rest tags ⟨upd fr d (.agg m), H, O, Kf, E, sg⟩) (hx : ∀ us, ev n (fill fr H us) x = .agg m := by intro _; rfl) :
    LD P f R k n w0 M σ Kb (⟨some d, .move x, ty, pos, aft, none⟩ :: rest) (.free :: tags) ⟨fr, H, O, Kf, E, sg⟩ :=
  D.mv h hx
theorem D.asA {m : Array Value} (h : LD P f R k n w0 M σ Kb rest tags ⟨upd fr d (.agg m), H, O, Kf, E, sg⟩) (hx : ∀ us, ev n (fill fr H us) x = .agg m := by intro _; rfl) :
    LD P f R k n w0 M σ Kb (⟨some d, .assign x, ty, pos, aft, none⟩ :: rest) (.free :: tags) ⟨fr, H, O, Kf, E, sg⟩ :=
  D.as_ h hx
theorem D.mvM {m : Option Nat} (h : LD P f R k n w0 M σ Kb rest tags ⟨upd fr d (.map m), H, O, Kf, E, sg⟩) (hx : ∀ us, ev n (fill fr H us) x = .map m := by intro _; rfl) :
    LD P f R k n w0 M σ Kb (⟨some d, .move x, ty, pos, aft, none⟩ :: rest) (.free :: tags) ⟨fr, H, O, Kf, E, sg⟩ :=
  D.mv h hx
theorem D.asM {m : Option Nat} (h : LD P f R k n w0 M σ Kb rest tags ⟨upd fr d (.map m), H, O, Kf, E, sg⟩) (hx : ∀ us, ev n (fill fr H us) x = .map m := by intro _; rfl) :
    LD P f R k n w0 M σ Kb (⟨some d, .assign x, ty, pos, aft, none⟩ :: rest) (.free :: tags) ⟨fr, H, O, Kf, E, sg⟩ :=
  D.as_ h hx
theorem D.mvT {m : Array Value} (h : LD P f R k n w0 M σ Kb rest tags ⟨upd fr d (.tuple m), H, O, Kf, E, sg⟩) (hx : ∀ us, ev n (fill fr H us) x = .tuple m := by intro _; rfl) :
    LD P f R k n w0 M σ Kb (⟨some d, .move x, ty, pos, aft, none⟩ :: rest) (.free :: tags) ⟨fr, H, O, Kf, E, sg⟩ :=
  D.mv h hx
theorem D.asT {m : Array Value} (h : LD P f R k n w0 M σ Kb rest tags ⟨upd fr d (.tuple m), H, O, Kf, E, sg⟩) (hx : ∀ us, ev n (fill fr H us) x = .tuple m := by intro _; rfl) :
    LD P f R k n w0 M σ Kb (⟨some d, .assign x, ty, pos, aft, none⟩ :: rest) (.free :: tags) ⟨fr, H, O, Kf, E, sg⟩ :=
  D.as_ h hx
theorem D.mvF {m : Fn} {l c : Array Value} (h : LD P f R k n w0 M σ Kb rest tags ⟨upd fr d (.func m l c), H, O, Kf, E, sg⟩) (hx : ∀ us, ev n (fill fr H us) x = .func m l c := by intro _; rfl) :
    LD P f R k n w0 M σ Kb (⟨some d, .move x, ty, pos, aft, none⟩ :: rest) (.free :: tags) ⟨fr, H, O, Kf, E, sg⟩ :=
  D.mv h hx
theorem D.asF {m : Fn} {l c : Array Value} (h : LD P f R k n w0 M σ Kb rest tags ⟨upd fr d (.func m l c), H, O, Kf, E, sg⟩) (hx : ∀ us, ev n (fill fr H us) x = .func m l c := by intro _; rfl) :
    LD P f R k n w0 M σ Kb (⟨some d, .assign x, ty, pos, aft, none⟩ :: rest) (.free :: tags) ⟨fr, H, O, Kf, E, sg⟩ :=
  D.as_ h hx
theorem D.mvE {m : TypeId} {l : Value} (h : LD P f R k n w0 M σ Kb rest tags ⟨upd fr d (.iface m l), H, O, Kf, E, sg⟩) (hx : ∀ us, ev n (fill fr H us) x = .iface m l := by intro _; rfl) :
    LD P f R k n w0 M σ Kb (⟨some d, .move x, ty, pos, aft, none⟩ :: rest) (.free :: tags) ⟨fr, H, O, Kf, E, sg⟩ :=
  D.mv h hx
theorem D.asE {m : TypeId} {l : Value} (h : LD P f R k n w0 M σ Kb rest tags ⟨upd fr d (.iface m l), H, O, Kf, E, sg⟩) (hx : ∀ us, ev n (fill fr H us) x = .iface m l := by intro _; rfl) :
    LD P f R k n w0 M σ Kb (⟨some d, .assign x, ty, pos, aft, none⟩ :: rest) (.free :: tags) ⟨fr, H, O, Kf, E, sg⟩ :=
  D.as_ h hx
theorem D.mvE0  (h : LD P f R k n w0 M σ Kb rest tags ⟨upd fr d (.nilIface), H, O, Kf, E, sg⟩) (hx : ∀ us, ev n (fill fr H us) x = .nilIface := by intro _; rfl) :
    LD P f R k n w0 M σ Kb (⟨some d, .move x, ty, pos, aft, none⟩ :: rest) (.free :: tags) ⟨fr, H, O, Kf, E, sg⟩ :=
  D.mv h hx
theorem D.asE0  (h : LD P f R k n w0 M σ Kb rest tags ⟨upd fr d (.nilIface), H, O, Kf, E, sg⟩) (hx : ∀ us, ev n (fill fr H us) x = .nilIface := by intro _; rfl) :
    LD P f R k n w0 M σ Kb (⟨some d, .assign x, ty, pos, aft, none⟩ :: rest) (.free :: tags) ⟨fr, H, O, Kf, E, sg⟩ :=
  D.as_ h hx
theorem D.addI {kk : IntKind} {a b : Int} (h : LD P f R k n w0 M σ Kb rest tags ⟨upd fr d (.int kk (kk.wrap (a + b))), H, O, Kf, E, sg⟩) (hx : ∀ us, ev n (fill fr H us) x = .int kk a := by intro _; rfl) (hy : ∀ us, ev n (fill fr H us) y = .int kk b := by intro _; rfl) :
    LD P f R k n w0 M σ Kb (⟨some d, .binOp .add t x y t', ty, pos, aft, none⟩ :: rest) (.free :: tags) ⟨fr, H, O, Kf, E, sg⟩ :=
  D.free h fun us w => exec_bin (hx us) (hy us) (by simp [binOp, Op.intArith])
theorem D.subI {kk : IntKind} {a b : Int} (h : LD P f R k n w0 M σ Kb rest tags ⟨upd fr d (.int kk (kk.wrap (a - b))), H, O, Kf, E, sg⟩) (hx : ∀ us, ev n (fill fr H us) x = .int kk a := by intro _; rfl) (hy : ∀ us, ev n (fill fr H us) y = .int kk b := by intro _; rfl) :
    LD P f R k n w0 M σ Kb (⟨some d, .binOp .sub t x y t', ty, pos, aft, none⟩ :: rest) (.free :: tags) ⟨fr, H, O, Kf, E, sg⟩ :=
  D.free h fun us w => exec_bin (hx us) (hy us) (by simp [binOp, Op.intArith])
theorem D.mulI {kk : IntKind} {a b : Int} (h : LD P f R k n w0 M σ Kb rest tags ⟨upd fr d (.int kk (kk.wrap (a * b))), H, O, Kf, E, sg⟩) (hx : ∀ us, ev n (fill fr H us) x = .int kk a := by intro _; rfl) (hy : ∀ us, ev n (fill fr H us) y = .int kk b := by intro _; rfl) :
    LD P f R k n w0 M σ Kb (⟨some d, .binOp .mul t x y t', ty, pos, aft, none⟩ :: rest) (.free :: tags) ⟨fr, H, O, Kf, E, sg⟩ :=
  D.free h fun us w => exec_bin (hx us) (hy us) (by simp [binOp, Op.intArith])
theorem D.quoI {kk : IntKind} {a b : Int} (h : LD P f R k n w0 M σ Kb rest tags ⟨upd fr d (.int kk (kk.wrap (a.tdiv b))), H, O, Kf, E, sg⟩) (hx : ∀ us, ev n (fill fr H us) x = .int kk a := by intro _; rfl) (hy : ∀ us, ev n (fill fr H us) y = .int kk b := by intro _; rfl) (hb : b ≠ 0 := by omega) :
    LD P f R k n w0 M σ Kb (⟨some d, .binOp .quo t x y t', ty, pos, aft, none⟩ :: rest) (.free :: tags) ⟨fr, H, O, Kf, E, sg⟩ :=
  D.free h fun us w => exec_bin (hx us) (hy us) (by simp [binOp, Op.intDiv, hb])
theorem D.remI {kk : IntKind} {a b : Int} (h : LD P f R k n w0 M σ Kb rest tags ⟨upd fr d (.int kk (a.tmod b)), H, O, Kf, E, sg⟩) (hx : ∀ us, ev n (fill fr H us) x = .int kk a := by intro _; rfl) (hy : ∀ us, ev n (fill fr H us) y = .int kk b := by intro _; rfl) (hb : b ≠ 0 := by omega) :
    LD P f R k n w0 M σ Kb (⟨some d, .binOp .rem t x y t', ty, pos, aft, none⟩ :: rest) (.free :: tags) ⟨fr, H, O, Kf, E, sg⟩ :=
  D.free h fun us w => exec_bin (hx us) (hy us) (by simp [binOp, Op.intDiv, hb])
theorem D.ltI {kk : IntKind} {a b : Int} (h : LD P f R k n w0 M σ Kb rest tags ⟨upd fr d (.bool (decide (a < b))), H, O, Kf, E, sg⟩) (hx : ∀ us, ev n (fill fr H us) x = .int kk a := by intro _; rfl) (hy : ∀ us, ev n (fill fr H us) y = .int kk b := by intro _; rfl) :
    LD P f R k n w0 M σ Kb (⟨some d, .binOp .lss t x y t', ty, pos, aft, none⟩ :: rest) (.free :: tags) ⟨fr, H, O, Kf, E, sg⟩ :=
  D.free h fun us w => exec_bin (hx us) (hy us) (by simp [binOp, Op.intCmp])
theorem D.leI {kk : IntKind} {a b : Int} (h : LD P f R k n w0 M σ Kb rest tags ⟨upd fr d (.bool (decide (a ≤ b))), H, O, Kf, E, sg⟩) (hx : ∀ us, ev n (fill fr H us) x = .int kk a := by intro _; rfl) (hy : ∀ us, ev n (fill fr H us) y = .int kk b := by intro _; rfl) :
    LD P f R k n w0 M σ Kb (⟨some d, .binOp .leq t x y t', ty, pos, aft, none⟩ :: rest) (.free :: tags) ⟨fr, H, O, Kf, E, sg⟩ :=
  D.free h fun us w => exec_bin (hx us) (hy us) (by simp [binOp, Op.intCmp])
theorem D.gtI {kk : IntKind} {a b : Int} (h : LD P f R k n w0 M σ Kb rest tags ⟨upd fr d (.bool (decide (b < a))), H, O, Kf, E, sg⟩) (hx : ∀ us, ev n (fill fr H us) x = .int kk a := by intro _; rfl) (hy : ∀ us, ev n (fill fr H us) y = .int kk b := by intro _; rfl) :
    LD P f R k n w0 M σ Kb (⟨some d, .binOp .gtr t x y t', ty, pos, aft, none⟩ :: rest) (.free :: tags) ⟨fr, H, O, Kf, E, sg⟩ :=
  D.free h fun us w => exec_bin (hx us) (hy us) (by simp [binOp, Op.intCmp])
theorem D.geI {kk : IntKind} {a b : Int} (h : LD P f R k n w0 M σ Kb rest tags ⟨upd fr d (.bool (decide (b ≤ a))), H, O, Kf, E, sg⟩) (hx : ∀ us, ev n (fill fr H us) x = .int kk a := by intro _; rfl) (hy : ∀ us, ev n (fill fr H us) y = .int kk b := by intro _; rfl) :
    LD P f R k n w0 M σ Kb (⟨some d, .binOp .geq t x y t', ty, pos, aft, none⟩ :: rest) (.free :: tags) ⟨fr, H, O, Kf, E, sg⟩ :=
  D.free h fun us w => exec_bin (hx us) (hy us) (by simp [binOp, Op.intCmp])
theorem D.eqI {kk : IntKind} {a b : Int} (h : LD P f R k n w0 M σ Kb rest tags ⟨upd fr d (.bool (decide (a = b))), H, O, Kf, E, sg⟩) (hx : ∀ us, ev n (fill fr H us) x = .int kk a := by intro _; rfl) (hy : ∀ us, ev n (fill fr H us) y = .int kk b := by intro _; rfl) :
    LD P f R k n w0 M σ Kb (⟨some d, .binOp .eql t x y t', ty, pos, aft, none⟩ :: rest) (.free :: tags) ⟨fr, H, O, Kf, E, sg⟩ :=
  D.free h fun us w => exec_bin (hx us) (hy us) (by simp [binOp, Op.intCmp]; rfl)
theorem D.neI {kk : IntKind} {a b : Int} (h : LD P f R k n w0 M σ Kb rest tags ⟨upd fr d (.bool (!decide (a = b))), H, O, Kf, E, sg⟩) (hx : ∀ us, ev n (fill fr H us) x = .int kk a := by intro _; rfl) (hy : ∀ us, ev n (fill fr H us) y = .int kk b := by intro _; rfl) :
    LD P f R k n w0 M σ Kb (⟨some d, .binOp .neq t x y t', ty, pos, aft, none⟩ :: rest) (.free :: tags) ⟨fr, H, O, Kf, E, sg⟩ :=
  D.free h fun us w => exec_bin (hx us) (hy us) (by simp [binOp, Op.intCmp]; rfl)
theorem D.addS {a b : ByteArray} (h : LD P f R k n w0 M σ Kb rest tags ⟨upd fr d (.string (a ++ b)), H, O, Kf, E, sg⟩) (hx : ∀ us, ev n (fill fr H us) x = .string a := by intro _; rfl) (hy : ∀ us, ev n (fill fr H us) y = .string b := by intro _; rfl) (hs : a.size + b.size ≤ 9223372036854775807 := by omega) :
    LD P f R k n w0 M σ Kb (⟨some d, .binOp .add t x y t', ty, pos, aft, none⟩ :: rest) (.free :: tags) ⟨fr, H, O, Kf, E, sg⟩ :=
  D.free h fun us w => exec_binS (hx us) (hy us) (by
    simp only [binOp, Op.stringOp]
    have e : IntKind.i64.max = 9223372036854775807 := rfl
    rw [if_neg (by rw [e]; omega)]; rfl)
theorem D.eqS {a b : ByteArray} (h : LD P f R k n w0 M σ Kb rest tags ⟨upd fr d (.bool (decide (a = b))), H, O, Kf, E, sg⟩) (hx : ∀ us, ev n (fill fr H us) x = .string a := by intro _; rfl) (hy : ∀ us, ev n (fill fr H us) y = .string b := by intro _; rfl) :
    LD P f R k n w0 M σ Kb (⟨some d, .binOp .eql t x y t', ty, pos, aft, none⟩ :: rest) (.free :: tags) ⟨fr, H, O, Kf, E, sg⟩ :=
  D.free h fun us w => exec_binS (hx us) (hy us) (by simp only [binOp, Op.stringOp, str_beq]; rfl)
theorem D.neS {a b : ByteArray} (h : LD P f R k n w0 M σ Kb rest tags ⟨upd fr d (.bool (!decide (a = b))), H, O, Kf, E, sg⟩) (hx : ∀ us, ev n (fill fr H us) x = .string a := by intro _; rfl) (hy : ∀ us, ev n (fill fr H us) y = .string b := by intro _; rfl) :
    LD P f R k n w0 M σ Kb (⟨some d, .binOp .neq t x y t', ty, pos, aft, none⟩ :: rest) (.free :: tags) ⟨fr, H, O, Kf, E, sg⟩ :=
  D.free h fun us w => exec_binS (hx us) (hy us) (by simp only [binOp, Op.stringOp, str_beq]; rfl)
theorem D.ltS {a b : ByteArray} (h : LD P f R k n w0 M σ Kb rest tags ⟨upd fr d (.bool (sLt a b)), H, O, Kf, E, sg⟩) (hx : ∀ us, ev n (fill fr H us) x = .string a := by intro _; rfl) (hy : ∀ us, ev n (fill fr H us) y = .string b := by intro _; rfl) :
    LD P f R k n w0 M σ Kb (⟨some d, .binOp .lss t x y t', ty, pos, aft, none⟩ :: rest) (.free :: tags) ⟨fr, H, O, Kf, E, sg⟩ :=
  D.free h fun us w => exec_binS (hx us) (hy us) (by simp only [binOp, Op.stringOp]; rfl)
theorem D.geS {a b : ByteArray} (h : LD P f R k n w0 M σ Kb rest tags ⟨upd fr d (.bool (!sLt a b)), H, O, Kf, E, sg⟩) (hx : ∀ us, ev n (fill fr H us) x = .string a := by intro _; rfl) (hy : ∀ us, ev n (fill fr H us) y = .string b := by intro _; rfl) :
    LD P f R k n w0 M σ Kb (⟨some d, .binOp .geq t x y t', ty, pos, aft, none⟩ :: rest) (.free :: tags) ⟨fr, H, O, Kf, E, sg⟩ :=
  D.free h fun us w => exec_binS (hx us) (hy us) (by simp only [binOp, Op.stringOp]; rfl)
theorem D.leS {a b : ByteArray} (h : LD P f R k n w0 M σ Kb rest tags ⟨upd fr d (.bool (sLt a b || decide (a = b))), H, O, Kf, E, sg⟩) (hx : ∀ us, ev n (fill fr H us) x = .string a := by intro _; rfl) (hy : ∀ us, ev n (fill fr H us) y = .string b := by intro _; rfl) :
    LD P f R k n w0 M σ Kb (⟨some d, .binOp .leq t x y t', ty, pos, aft, none⟩ :: rest) (.free :: tags) ⟨fr, H, O, Kf, E, sg⟩ :=
  D.free h fun us w => exec_binS (hx us) (hy us) (by simp only [binOp, Op.stringOp, str_beq]; rfl)
theorem D.not_ {b : Bool} (h : LD P f R k n w0 M σ Kb rest tags ⟨upd fr d (.bool (!b)), H, O, Kf, E, sg⟩) (hx : ∀ us, ev n (fill fr H us) x = .bool b := by intro _; rfl) :
    LD P f R k n w0 M σ Kb (⟨some d, .unOp .not t x, ty, pos, aft, none⟩ :: rest) (.free :: tags) ⟨fr, H, O, Kf, E, sg⟩ :=
  D.free h fun us w => by simp [execOp, (hx us), Op.unary]
theorem D.pk {c : Bool} {v : Value} (h : LD P f R k n w0 M σ Kb rest tags ⟨upd fr d v, H, O, Kf, E, sg⟩) (hx : ∀ us, ev n (fill fr H us) x = .bool c := by intro _; rfl) (hv : ∀ us, (bif c then ev n (fill fr H us) y else ev n (fill fr H us) z) = v := by intro _; rfl) :
    LD P f R k n w0 M σ Kb (⟨some d, .pick x y z, ty, pos, aft, none⟩ :: rest) (.free :: tags) ⟨fr, H, O, Kf, E, sg⟩ :=
  D.free h fun us w => by have hv := hv us; subst hv; cases c <;> simp [execOp, (hx us), asBool]
theorem D.cvI {kk kd : IntKind} {a : Int} [hs : TInt P t kk] [hd : TInt P t' kd] (h : LD P f R k n w0 M σ Kb rest tags ⟨upd fr d (.int kd (kd.wrap a)), H, O, Kf, E, sg⟩) (hx : ∀ us, ev n (fill fr H us) x = .int kk a := by intro _; rfl) :
    LD P f R k n w0 M σ Kb (⟨some d, .convert t t' x, ty, pos, aft, none⟩ :: rest) (.free :: tags) ⟨fr, H, O, Kf, E, sg⟩ :=
  D.free h fun us w => by simp [execOp, (hx us), convert, run_underlying hs.eq, run_underlying hd.eq, Conv.intToInt]
theorem D.extr {l : List Value} {i : Nat} {v : Value} (h : LD P f R k n w0 M σ Kb rest tags ⟨upd fr d v, H, O, Kf, E, sg⟩) (hx : ∀ us, ev n (fill fr H us) x = .tuple l.toArray := by intro _; rfl) (hv : nth l i = some v := by rfl) :
    LD P f R k n w0 M σ Kb (⟨some d, .extract x i, ty, pos, aft, none⟩ :: rest) (.free :: tags) ⟨fr, H, O, Kf, E, sg⟩ :=
  D.free h fun us w => by rw [nth_eq] at hv; simp [execOp, (hx us), Instr.extract, hv]
theorem D.nilck {a : Addr} (h : LD P f R k n w0 M σ Kb rest tags ⟨upd fr d (.pointer (some a)), H, O, Kf, E, sg⟩) (hx : ∀ us, ev n (fill fr H us) x = .pointer (some a) := by intro _; rfl) :
    LD P f R k n w0 M σ Kb (⟨some d, .nilCheck x, ty, pos, aft, none⟩ :: rest) (.free :: tags) ⟨fr, H, O, Kf, E, sg⟩ :=
  D.free h fun us w => by simp [execOp, (hx us)]
theorem D.fld {b off i o s : Nat} [hf : TFld P t i o s] (h : LD P f R k n w0 M σ Kb rest tags ⟨upd fr d (.pointer (some ⟨b, off + o, none⟩)), H, O, Kf, E, sg⟩) (hx : ∀ us, ev n (fill fr H us) x = .pointer (some ⟨b, off, none⟩) := by intro _; rfl) :
    LD P f R k n w0 M σ Kb (⟨some d, .fieldAddr t x i, ty, pos, aft, none⟩ :: rest) (.free :: tags) ⟨fr, H, O, Kf, E, sg⟩ :=
  D.free h fun us w => by
    have h1 := hf.eq
    unfold fldOf at h1
    cases hu : P.underlying t with
    | none => simp [hu] at h1
    | some dd =>
      cases dd <;> simp [hu] at h1
      rename_i fs
      cases hi : fs[i]? with
      | none => simp [hi] at h1
      | some fd =>
        simp [hi] at h1
        obtain ⟨hs, ho⟩ := h1
        have hsz := run_sz (P := P) (t := fd.type) w hs
        simp [execOp, (hx us), Instr.fieldAt, run_underlying hu, hi, Instr.sureAddr, fieldPlace, hsz, ho, add_off]
theorem D.idx {b off len cap i s : Nat} {e : TypeId} [ht : TSlice P t e] [hs : TSz P e s] {kk : IntKind} {j : Int} (h : LD P f R k n w0 M σ Kb rest tags ⟨upd fr d (.pointer (some ⟨b, off + i * s, none⟩)), H, O, Kf, E, sg⟩)     (hx : ∀ us, ev n (fill fr H us) x = .slice (some ⟨b, off, none⟩) len cap := by intro _; rfl) (hy : ∀ us, ev n (fill fr H us) y = .int kk j := by intro _; rfl) (hj : j = (i : Int) := by rfl) (hi : i < len := by omega) :
    LD P f R k n w0 M σ Kb (⟨some d, .indexAddr t x y, ty, pos, aft, none⟩ :: rest) (.free :: tags) ⟨fr, H, O, Kf, E, sg⟩ :=
  D.free h fun us w => by
    subst hj
    simp [execOp, (hx us), (hy us), Instr.indexAt, asIntOf, run_underlying ht.eq, hi, run_sz w hs.eq, add_off]
theorem D.lenS {s : ByteArray} [ht : TStr P t] (h : LD P f R k n w0 M σ Kb rest tags ⟨upd fr d (.int .i64 s.size), H, O, Kf, E, sg⟩) (hx : ∀ us, ev n (fill fr H us) x = .string s := by intro _; rfl) :
    LD P f R k n w0 M σ Kb (⟨some d, .call ⟨.builtin .len, #[x], #[t]⟩, ty, pos, aft, none⟩ :: rest) (.free :: tags) ⟨fr, H, O, Kf, E, sg⟩ :=
  D.free h fun us w => by simp [execOp, resolve, invoke, builtin, (hx us), Builtin.len_, run_underlying ht.eq, goInt]
theorem D.lenL {a : Option Addr} {len cap : Nat} {e : TypeId} [ht : TSlice P t e] (h : LD P f R k n w0 M σ Kb rest tags ⟨upd fr d (.int .i64 len), H, O, Kf, E, sg⟩) (hx : ∀ us, ev n (fill fr H us) x = .slice a len cap := by intro _; rfl) :
    LD P f R k n w0 M σ Kb (⟨some d, .call ⟨.builtin .len, #[x], #[t]⟩, ty, pos, aft, none⟩ :: rest) (.free :: tags) ⟨fr, H, O, Kf, E, sg⟩ :=
  D.free h fun us w => by simp [execOp, resolve, invoke, builtin, (hx us), Builtin.len_, run_underlying ht.eq, goInt]
theorem D.addN {a b : Int} (h : LD P f R k n w0 M σ Kb rest tags ⟨upd fr d (.int .i64 (a + b)), H, O, Kf, E, sg⟩) (hx : ∀ us, ev n (fill fr H us) x = .int .i64 a := by intro _; rfl) (hy : ∀ us, ev n (fill fr H us) y = .int .i64 b := by intro _; rfl) (h1 : -9223372036854775808 ≤ a + b := by omega) (h2 : a + b ≤ 9223372036854775807 := by omega) :
    LD P f R k n w0 M σ Kb (⟨some d, .binOp .add t x y t', ty, pos, aft, none⟩ :: rest) (.free :: tags) ⟨fr, H, O, Kf, E, sg⟩ :=
  D.addI (by rw [wrapEq h1 h2]; exact h) hx hy
theorem D.subN {a b : Int} (h : LD P f R k n w0 M σ Kb rest tags ⟨upd fr d (.int .i64 (a - b)), H, O, Kf, E, sg⟩) (hx : ∀ us, ev n (fill fr H us) x = .int .i64 a := by intro _; rfl) (hy : ∀ us, ev n (fill fr H us) y = .int .i64 b := by intro _; rfl) (h1 : -9223372036854775808 ≤ a - b := by omega) (h2 : a - b ≤ 9223372036854775807 := by omega) :
    LD P f R k n w0 M σ Kb (⟨some d, .binOp .sub t x y t', ty, pos, aft, none⟩ :: rest) (.free :: tags) ⟨fr, H, O, Kf, E, sg⟩ :=
  D.subI (by rw [wrapEq h1 h2]; exact h) hx hy
theorem D.cvN {kk : IntKind} {a : Int} [hs : TInt P t kk] [hd : TInt P t' .i64] (h : LD P f R k n w0 M σ Kb rest tags ⟨upd fr d (.int .i64 a), H, O, Kf, E, sg⟩) (hx : ∀ us, ev n (fill fr H us) x = .int kk a := by intro _; rfl) (h1 : -9223372036854775808 ≤ a := by omega) (h2 : a ≤ 9223372036854775807 := by omega) :
    LD P f R k n w0 M σ Kb (⟨some d, .convert t t' x, ty, pos, aft, none⟩ :: rest) (.free :: tags) ⟨fr, H, O, Kf, E, sg⟩ :=
  D.cvI (by rw [wrapEq h1 h2]; exact h) hx
theorem D.addK {a b c : Int} (e : a + b = c) (h : LD P f R k n w0 M σ Kb rest tags ⟨upd fr d (.int .i64 c), H, O, Kf, E, sg⟩) (hx : ∀ us, ev n (fill fr H us) x = .int .i64 a := by intro _; rfl) (hy : ∀ us, ev n (fill fr H us) y = .int .i64 b := by intro _; rfl) (h1 : -9223372036854775808 ≤ c := by omega) (h2 : c ≤ 9223372036854775807 := by omega) :
    LD P f R k n w0 M σ Kb (⟨some d, .binOp .add t x y t', ty, pos, aft, none⟩ :: rest) (.free :: tags) ⟨fr, H, O, Kf, E, sg⟩ :=
  by subst e; exact D.addN h hx hy h1 h2
theorem D.bld {pl : List (Nat × Nat)} {zs : List Value} {parts : Array (Nat × Operand)} {vals : List (Nat × Value)} (cs : List Value) [hp : TPl P t pl] [hz : TZero P t zs] (h : LD P f R k n w0 M σ Kb rest tags ⟨upd fr d (.agg cs.toArray), H, O, Kf, E, sg⟩)     (hx : ∀ us, parts.toList.map (fun p => (p.1, ev n (fill fr H us) p.2)) = vals := by intro _; rfl) (hc : fillL (nthP pl) zs vals = some cs := by rfl) :
    LD P f R k n w0 M σ Kb (⟨some d, .build t parts, ty, pos, aft, none⟩ :: rest) (.free :: tags) ⟨fr, H, O, Kf, E, sg⟩ :=
  D.free h fun us w => by
    have e : (parts.map fun (i, x) => (i, ev n (fill fr H us) x)) = vals.toArray := by rw [← hx us]; cases parts; simp
    simp [execOp, e, run_build w hp.eq hz.eq hc]
theorem D.shrI {kk kd : IntKind} {a b : Int} (h : LD P f R k n w0 M σ Kb rest tags ⟨upd fr d (.int kk (a.fdiv (2 ^ min b.toNat kk.bits))), H, O, Kf, E, sg⟩) (hx : ∀ us, ev n (fill fr H us) x = .int kk a := by intro _; rfl) (hy : ∀ us, ev n (fill fr H us) y = .int kd b := by intro _; rfl) (hb : 0 ≤ b := by omega) :
    LD P f R k n w0 M σ Kb (⟨some d, .binOp .shr t x y t', ty, pos, aft, none⟩ :: rest) (.free :: tags) ⟨fr, H, O, Kf, E, sg⟩ :=
  D.free h fun us w => by
    have hb' : ¬ b < 0 := by omega
    simp only [execOp, (hx us), (hy us), eqGuard, Sem.run_bind]
    split <;> simp [binOp, Op.shift, hb']
theorem D.cvU {kk : IntKind} {a : Int} [hs : TInt P t kk] [hd : TInt P t' .u64] (h : LD P f R k n w0 M σ Kb rest tags ⟨upd fr d (.int .u64 a), H, O, Kf, E, sg⟩) (hx : ∀ us, ev n (fill fr H us) x = .int kk a := by intro _; rfl) (h1 : 0 ≤ a := by omega) (h2 : a ≤ 9223372036854775807 := by omega) :
    LD P f R k n w0 M σ Kb (⟨some d, .convert t t' x, ty, pos, aft, none⟩ :: rest) (.free :: tags) ⟨fr, H, O, Kf, E, sg⟩ :=
  D.cvI (by rw [IntWalk.u64_in _ ⟨h1, by omega⟩]; exact h) hx
theorem D.quoN {a b : Int} (h : LD P f R k n w0 M σ Kb rest tags ⟨upd fr d (.int .i64 (a.tdiv b)), H, O, Kf, E, sg⟩) (hx : ∀ us, ev n (fill fr H us) x = .int .i64 a := by intro _; rfl) (hy : ∀ us, ev n (fill fr H us) y = .int .i64 b := by intro _; rfl) (ha : I64 a := by first | assumption | omega) (hb : 0 < b := by omega) :
    LD P f R k n w0 M σ Kb (⟨some d, .binOp .quo t x y t', ty, pos, aft, none⟩ :: rest) (.free :: tags) ⟨fr, H, O, Kf, E, sg⟩ :=
  D.quoI (by rw [wrapEq (tdivRange ha hb).1 (tdivRange ha hb).2]; exact h) hx hy (by omega)
theorem D.slc (l hh m : Nat) {a : Option Addr} {len cap s : Nat} {e : TypeId} {lo hi mx : Option Operand} [ht : TSlice P t e] [hs : TSz P e s]
    (h : LD P f R k n w0 M σ Kb rest tags ⟨upd fr d (.slice (if m = l then a else a.map (·.add (l * s))) (hh - l) (m - l)), H, O, Kf, E, sg⟩) (hx : ∀ us, ev n (fill fr H us) x = .slice a len cap := by intro _; rfl)
    (hb : ∀ us w, (Instr.sliceBounds true len cap (lo.map (ev n (fill fr H us))) (hi.map (ev n (fill fr H us))) (mx.map (ev n (fill fr H us)))).run P w = .ok (l, hh, m) w) :
    LD P f R k n w0 M σ Kb (⟨some d, .slice t x lo hi mx, ty, pos, aft, none⟩ :: rest) (.free :: tags) ⟨fr, H, O, Kf, E, sg⟩ :=
  D.free h fun us w => by
    simp [execOp, (hx us), Instr.sliceAt, run_underlying ht.eq, Instr.slice, hb us, run_sz w hs.eq]

end
end Go.JW
