/- A region that draws its order: one walk in the order of the text, each operation told of what it may see at whatever moment it comes. -/
import Derived.Test.YthnoaapghcadgaaDoorRep
namespace Go.JW

abbrev Us := Nat → Value
abbrev HS := List (Nat × (Value → PH → Prop))
/-- What is told of an operation: a value, in whatever world; a value, in the state at the region's begin; a call that answers a value; something new; a block of the call's own; something new, the state turned (these stand in a chain); a store. -/
inductive Info where
  | free (v : Value)
  | ex (v : Value)
  | exc (v : Value)
  | gr (T : Value → PH → Prop)
  | own (obj : Obj)
  | eff (T : Value → PH → Prop) (Kf : Us → List HP)
  | st (Kf : Us → List HP)
/-- (g: not an operation's: a guard's slot and what is in it.) -/
inductive Tag where
  | free | ex | own | eff | st
  | g (s : Nat) (b : Option Bool)
def Info.tag : Info → Tag
  | .free _ => .free
  | .ex _ | .exc _ | .gr _ => .ex
  | .own _ => .own
  | .eff .. => .eff
  | .st _ => .st
def Tag.isMut : Tag → Bool
  | .eff | .st => true
  | _ => false
def Tag.isFree : Tag → Bool
  | .free => true
  | _ => false
def Tag.isSt : Tag → Bool
  | .st => true
  | _ => false
def Info.isMut (i : Info) : Bool := i.tag.isMut
def Info.isFree (i : Info) : Bool := i.tag.isFree
def Info.isSt (i : Info) : Bool := i.tag.isSt
def fill (fr : Us) : HS → Us → Us
  | [], _ => fr
  | (s, _) :: H, us => upd (fill fr H us) s (us s)
def resE (E : List Nat) (us : Us) : Us := fun s => bif E.elem s then us s else undef
def ownHP (v : Value) (obj : Obj) : HP := ⟨fun g F => ∃ b, v = .pointer (some ⟨b, 0, none⟩) ∧ F b ∧ g.cur b = some obj, fun ⟨b, h1, h2, h3⟩ hg _ => ⟨b, h1, h2, by rw [hg _ h2]; exact h3⟩⟩
def ownsL (O : List (Nat × Obj)) (us : Us) : List HP := O.map fun p => ownHP (us p.1) p.2
def groupHP (K : List HP) : HP := ⟨fun g F => SepIn g K F, fun h hg hi => h.loc hg hi⟩
structure Stg where
  fr : Us
  H : HS
  O : List (Nat × Obj)
  Kf : Us → List HP
  E : List Nat
  sg : Bool
def Stg.slots (s : Stg) : List Nat := s.H.map (·.1)
def dstOf (o : Oper) : Nat := o.dst.getD 0
def readsTmp (o : Oper) : List Nat := o.op.operands.toList.filterMap fun | .tmp t => some t | _ => none
def Stg.seen (s : Stg) (o : Oper) : List Nat := (readsTmp o).filter (fun x => s.slots.elem x)
def Stg.next (s : Stg) (o : Oper) : Info → Stg
  | .free v | .ex v | .exc v => { s with fr := upd s.fr (dstOf o) v }
  | .gr T => { s with H := (dstOf o, T) :: s.H }
  | .own obj => { s with H := (dstOf o, fun _ _ => True) :: s.H, O := (dstOf o, obj) :: s.O }
  | .eff T Kf => { s with H := (dstOf o, T) :: s.H, Kf := fun us => Kf (resE (dstOf o :: (s.seen o ++ s.E)) us), E := dstOf o :: (s.seen o ++ s.E) }
  | .st Kf => { s with Kf := fun us => Kf (resE (s.O.map (·.1) ++ (s.seen o ++ s.E)) us), E := s.O.map (·.1) ++ (s.seen o ++ s.E), O := [], sg := true }
def StepsTo (P : Program) (ρ : Operand → Value) (o : Oper) (w : World) (Rel : Value → World → Prop) : Prop :=
  (∃ v w', (execOp ρ o).run P w = .ok (.value v) w' ∧ Rel v w') ∨ (∃ g args, (execOp ρ o).run P w = .ok (.enter g args) w ∧ Calls P g args w fun e w' => ∃ v, e = .returned v ∧ Rel v w')
def MonoT (T : Value → PH → Prop) : Prop := ∀ v σ σ', T v σ → PH.le σ σ' → T v σ'
section
variable (P : Program) (f : FuncId) (R : Ending → World → Prop) (k : List Item) (n : Nat) (w0 : World) (M : Nat → Prop) (σ : PH) (Kb : List HP)
def Ob (s : Stg) (o : Oper) (inf : Info) : Prop := o.guard = none ∧
  match inf with
  | .free v => o.dst.isSome = true ∧ ∀ us w, PH.le σ (hp w) → (execOp (ev n (fill s.fr s.H us)) o).run P w = .ok (.value v) w
  | .ex v => s.sg = false ∧ o.dst.isSome = true ∧ ∀ us σ' w, PH.le σ σ' → (∀ p ∈ s.H, p.1 ∈ readsTmp o → p.2 (us p.1) σ') → Sat w0 M σ' Kb w → (execOp (ev n (fill s.fr s.H us)) o).run P w = .ok (.value v) w
  | .exc v => s.sg = false ∧ o.dst.isSome = true ∧ ∀ us σ' w, PH.le σ σ' → (∀ p ∈ s.H, p.1 ∈ readsTmp o → p.2 (us p.1) σ') → Sat w0 M σ' Kb w →
      StepsTo P (ev n (fill s.fr s.H us)) o w fun u w' => RowKit.Below w.heap.size w w' ∧ u = v
  | .gr T => s.sg = false ∧ o.dst.isSome = true ∧ MonoT T ∧ ∀ us σ' w, PH.le σ σ' → (∀ p ∈ s.H, p.1 ∈ readsTmp o → p.2 (us p.1) σ') → Sat w0 M σ' Kb w →
      StepsTo P (ev n (fill s.fr s.H us)) o w fun u w' => RowKit.Below w.heap.size w w' ∧ T u (grow σ' w w')
  | .own obj => s.sg = false ∧ o.dst.isSome = true ∧ ∀ us w, (execOp (ev n (fill s.fr s.H us)) o).run P w = .ok (.value (.pointer (some ⟨w.heap.size, 0, none⟩))) (w.alloc obj)
  | .eff T Kf => s.sg = false ∧ o.dst.isSome = true ∧ MonoT T ∧ (∀ us, Less (Kf us) Kb) ∧ ∀ us σ' w X, PH.le σ σ' → (∀ p ∈ s.H, p.1 ∈ readsTmp o → p.2 (us p.1) σ') → Sat w0 M σ' (X :: s.Kf us) w →
      StepsTo P (ev n (fill s.fr s.H us)) o w fun u w' => ∃ σ'', PH.le σ' σ'' ∧ Sat w0 M σ'' (X :: Kf (upd us (dstOf o) u)) w' ∧ T u σ''
  | .st Kf => o.dst = none ∧ ∀ us σ' w, PH.le σ σ' → (∀ p ∈ s.H, p.1 ∈ readsTmp o → p.2 (us p.1) σ') → Sat w0 M σ' (ownsL s.O us ++ s.Kf us) w →
      ∃ w', (execOp (ev n (fill s.fr s.H us)) o).run P w = .ok .skip w' ∧ Sat w0 M σ' (Kf us) w'
def LDp : List (Oper × Info) → Stg → Prop
  | [], s => ∀ us σ', PH.le σ σ' → (∀ p ∈ s.H, p.2 (us p.1) σ') → RS P f R k n (fill s.fr s.H us) w0 M σ' (ownsL s.O us ++ s.Kf us)
  | (o, inf) :: l, s => Ob P n w0 M σ Kb s o inf ∧ LDp l (s.next o inf)
end
def stAt : List (Oper × Info) → Stg → Nat → Stg
  | _, s, 0 => s
  | [], s, _ + 1 => s
  | (o, inf) :: l, s, i + 1 => stAt l (s.next o inf) i
theorem stAt_succ : ∀ (l : List (Oper × Info)) (s : Stg) (i : Nat) (o : Oper) (inf : Info), l[i]? = some (o, inf) → stAt l s (i + 1) = (stAt l s i).next o inf := by
  intro l
  induction l with
  | nil => intro s i o inf h; simp at h
  | cons p l ih =>
    obtain ⟨o', inf'⟩ := p
    intro s i o inf h
    cases i with
    | zero => simp at h; obtain ⟨rfl, rfl⟩ := h; cases l <;> rfl
    | succ i => simp at h; exact ih _ _ _ _ h

/-! what is asked of the edges -/
def edgeTo (o : Oper) : List Nat := o.after.toList.filterMap fun e => if Region.binds .any e then some e.on else none
def orAll (acc : List Nat) : List Nat → Nat
  | [] => 0
  | e :: es => (2 ^ e ||| acc.getD e 0) ||| orAll acc es
/-- Of each operation, as bits, all that must come ahead of it. -/
def closL : List Oper → List Nat → List Nat
  | [], acc => acc
  | o :: l, acc => closL l (acc ++ [orAll acc (edgeTo o)])
def DownCl (l : List Oper) (L : Nat → Bool) : Prop := ∀ j o, l[j]? = some o → L j = true → ∀ e ∈ edgeTo o, L e = true
theorem orAll_bit {acc : List Nat} {i : Nat} : ∀ {es : List Nat}, (orAll acc es).testBit i = true → i ∈ es ∨ ∃ e ∈ es, (acc.getD e 0).testBit i = true := by
  intro es
  induction es with
  | nil => intro h; simp [orAll] at h
  | cons e es ih =>
    intro h
    simp only [orAll, Nat.testBit_or, Bool.or_eq_true, Nat.testBit_two_pow] at h
    rcases h with (h | h) | h
    · simp at h; exact .inl (by simp [h])
    · exact .inr ⟨e, by simp, h⟩
    · rcases ih h with h | ⟨e', h1, h2⟩
      · exact .inl (by simp [h])
      · exact .inr ⟨e', by simp [h1], h2⟩
theorem closL_sound (full : List Oper) (L : Nat → Bool) (hL : DownCl full L) : ∀ (l : List Oper) (acc : List Nat), (∀ j, l[j]? = full[acc.length + j]?) →
    (∀ j o, j < acc.length → full[j]? = some o → (∀ e ∈ edgeTo o, L e = true) → ∀ i, (acc.getD j 0).testBit i = true → L i = true) →
    ∀ j o, full[j]? = some o → (∀ e ∈ edgeTo o, L e = true) → ∀ i, ((closL l acc).getD j 0).testBit i = true → L i = true := by
  intro l
  induction l with
  | nil =>
    intro acc hl hacc j o hj he i hi
    simp only [closL] at hi
    rcases Nat.lt_or_ge j acc.length with h | h
    · exact hacc j o h hj he i hi
    · have := hl (j - acc.length)
      rw [show acc.length + (j - acc.length) = j by omega, hj] at this
      simp at this
  | cons o l ih =>
    intro acc hl hacc
    refine ih (acc ++ [orAll acc (edgeTo o)]) (fun j => ?_) ?_
    · have := hl (j + 1)
      simp only [List.length_append, List.length_cons, List.length_nil]
      rw [show acc.length + (0 + 1) + j = acc.length + (j + 1) by omega, ← this]; simp
    · intro j oj hj hoj he i hi
      simp only [List.length_append, List.length_cons, List.length_nil] at hj
      by_cases h : j < acc.length
      · rw [List.getD_eq_getElem?_getD, List.getElem?_append_left h, ← List.getD_eq_getElem?_getD] at hi
        exact hacc j oj h hoj he i hi
      · obtain rfl : j = acc.length := by omega
        have h0 := hl 0
        simp only [Nat.add_zero] at h0
        rw [hoj] at h0
        simp at h0
        subst h0
        rw [List.getD_eq_getElem?_getD, List.getElem?_append_right (by omega)] at hi
        simp at hi
        rcases orAll_bit hi with h1 | ⟨e, h1, h2⟩
        · exact he i h1
        · have hle := he e h1
          rcases Nat.lt_or_ge e acc.length with h3 | h3
          · have : ∃ oe, full[e]? = some oe := by
              rcases Nat.lt_or_ge e full.length with h4 | h4
              · exact ⟨_, List.getElem?_eq_getElem h4⟩
              · exfalso
                have h5 : full.length > acc.length := (List.getElem?_eq_some_iff.1 hoj).1
                omega
            obtain ⟨oe, hoe⟩ := this
            exact hacc e oe h3 hoe (hL e oe hoe hle) i h2
          · rw [List.getD_eq_getElem?_getD, List.getElem?_eq_none h3] at h2; simp at h2
def pairsOk (clos : List Nat) (l : List (Oper × Tag)) : List (Oper × Tag) → Nat → Bool
  | [], _ => true
  | (oj, fj) :: r, j =>
    (l.take j).zipIdx.all (fun p =>
      let oi := p.1.1; let fi := p.1.2; let i := p.2
      let before := (clos.getD j 0).testBit i
      (match oi.dst with
        | some d => (!(readsTmp oj).elem d || before) && (oj.dst != some d)
        | none => true) &&
      (match oj.dst with
        | some d => !(readsTmp oi).elem d || before
        | none => true) &&
      (!(fj.isMut && fi.isMut) || before) &&
      (!(fj.isSt && !fi.isFree) || before)) &&
    pairsOk clos l r (j + 1)
def drawOkT (ops : List Oper) (tags : List Tag) : Bool :=
  Region.noSelect ops.toArray && pairsOk (closL ops []) (ops.zip tags) (ops.zip tags) 0 && (ops.zipIdx.all (fun p => (edgeTo p.1).all fun e => decide (e < p.2)) && decide (ops.length = tags.length))
def drawOk (l : List (Oper × Info)) : Bool := drawOkT (l.map (·.1)) (l.map (·.2.tag))
structure PairOk (bef : Bool) (oi : Oper) (fi : Tag) (oj : Oper) (fj : Tag) : Prop where
  reads : ∀ d, oi.dst = some d → d ∈ readsTmp oj → bef = true
  ne : ∀ d, oi.dst = some d → oj.dst ≠ some d
  anti : ∀ d, oj.dst = some d → d ∈ readsTmp oi → bef = true
  chain : fj.isMut = true → fi.isMut = true → bef = true
  st : fj.isSt = true → fi.isFree = false → bef = true
theorem pairsOk_spec (clos : List Nat) (l : List (Oper × Tag)) : ∀ (r : List (Oper × Tag)) (k : Nat), (∀ j, r[j]? = l[k + j]?) → pairsOk clos l r k = true →
    ∀ i j oi fi oj fj, k ≤ j → i < j → l[i]? = some (oi, fi) → l[j]? = some (oj, fj) → PairOk ((clos.getD j 0).testBit i) oi fi oj fj := by
  intro r
  induction r with
  | nil =>
    intro k hr _ i j oi fi oj fj hk hij hi hj
    have := hr (j - k)
    rw [show k + (j - k) = j by omega, hj] at this; simp at this
  | cons p r ih =>
    obtain ⟨o, inf⟩ := p
    intro k hr h i j oi fi oj fj hk hij hi hj
    simp only [pairsOk, Bool.and_eq_true] at h
    by_cases hjk : j = k
    · subst hjk
      have h0 := hr 0
      simp only [Nat.add_zero] at h0
      rw [hj] at h0; simp at h0; obtain ⟨rfl, rfl⟩ := h0
      have h1 := List.all_eq_true.1 h.1 ((oi, fi), i) (by
        rw [List.mem_zipIdx_iff_getElem?]
        simp only [List.getElem?_take, hij, if_true]
        exact hi)
      simp only [Bool.and_eq_true, Bool.or_eq_true, Bool.not_eq_true'] at h1
      obtain ⟨⟨⟨h2, h3⟩, h4⟩, h5⟩ := h1
      refine ⟨fun d hd hr => ?_, fun d hd => ?_, fun d hd hr => ?_, fun a b => ?_, fun a b => ?_⟩
      · simp [hd, hr] at h2; exact h2.1
      · simp [hd] at h2; exact h2.2
      · simp [hd, hr] at h3; exact h3
      · rcases h4 with h4 | h4
        · simp [a, b] at h4
        · exact h4
      · rcases h5 with h5 | h5
        · simp [a, b] at h5
        · exact h5
    · refine ih (k + 1) (fun j => ?_) h.2 i j oi fi oj fj (by omega) hij hi hj
      have := hr (j + 1)
      rw [show k + 1 + j = k + (j + 1) by omega, ← this]; simp

/-! small laws -/
theorem resE_mem {E : List Nat} {us : Us} {s : Nat} (h : s ∈ E) : resE E us s = us s := by simp [resE, h]
theorem fill_mem : ∀ {H : HS} {fr us : Us} {s : Nat}, s ∈ H.map (·.1) → fill fr H us s = us s := by
  intro H
  induction H with
  | nil => intro fr us s h; simp at h
  | cons p H ih =>
    obtain ⟨d, T⟩ := p
    intro fr us s h
    simp only [fill, upd]
    by_cases e : Nat.beq s d = true
    · simp [Nat.eq_of_beq_eq_true e]
    · simp only [e, cond_false]
      simp only [List.map_cons, List.mem_cons] at h
      rcases h with h | h
      · subst h; simp at e
      · exact ih h
theorem fill_not : ∀ {H : HS} {fr us : Us} {s : Nat}, s ∉ H.map (·.1) → fill fr H us s = fr s := by
  intro H
  induction H with
  | nil => intros; rfl
  | cons p H ih =>
    obtain ⟨d, T⟩ := p
    intro fr us s h
    simp only [List.map_cons, List.mem_cons, not_or] at h
    have e : Nat.beq s d = false := by rw [Bool.eq_false_iff]; intro hb; exact h.1 (Nat.eq_of_beq_eq_true hb)
    simp only [fill, upd, e, cond_false]
    exact ih h.2
theorem upd_eq (fr : Us) (d : Nat) (v : Value) : upd fr d v d = v := by simp [upd]
theorem upd_ne {fr : Us} {d s : Nat} {v : Value} (h : s ≠ d) : upd fr d v s = fr s := by
  have e : Nat.beq s d = false := by rw [Bool.eq_false_iff]; intro hb; exact h (Nat.eq_of_beq_eq_true hb)
  simp [upd, e]
theorem SepIn.append {g : VH} : ∀ {A K : List HP} {F : Nat → Prop}, SepIn g (groupHP A :: K) F → SepIn g (A ++ K) F := by
  intro A
  induction A with
  | nil => rintro K F ⟨F1, _, _, h⟩; exact h.mono fun b hb => hb.1
  | cons B A ih =>
    rintro K F ⟨F1, ⟨F2, h1, h2, h3⟩, h4, h5⟩
    refine ⟨F2, h1, fun b hb => h4 b (h2 b hb), ih ⟨fun b => F1 b ∧ ¬ F2 b, h3, fun b hb => ⟨h4 b hb.1, hb.2⟩, h5.mono fun b hb => ⟨⟨hb.1, fun h => hb.2 (h2 b h)⟩, fun h => hb.2 h.1⟩⟩⟩
theorem SepIn.group {g : VH} : ∀ {A K : List HP} {F : Nat → Prop}, SepIn g (A ++ K) F → SepIn g (groupHP A :: K) F := by
  intro A
  induction A with
  | nil => intro K F h; exact ⟨fun _ => False, trivial, fun b hb => hb.elim, h.mono fun b hb => ⟨hb, fun h => h⟩⟩
  | cons B A ih =>
    rintro K F ⟨F2, h1, h2, h3⟩
    obtain ⟨F3, h4, h5, h6⟩ := ih h3
    refine ⟨fun b => F2 b ∨ F3 b, ⟨F2, h1, fun b hb => .inl hb, SepIn.mono h4 fun b hb => ⟨.inr hb, (h5 b hb).2⟩⟩, fun b hb => hb.elim (h2 b) (fun h => (h5 b h).1), h6.mono fun b hb => ⟨hb.1.1, fun h => h.elim hb.1.2 hb.2⟩⟩
theorem SepIn.perm {g : VH} {A B : List HP} (h : A.Perm B) : ∀ {F : Nat → Prop}, SepIn g A F → SepIn g B F := by
  induction h with
  | nil => exact fun h => h
  | cons x _ ih => exact fun h => SepIn.cons_sub (fun _ => ih) h
  | swap x y l => exact fun h => SepIn.swap h
  | trans _ _ ih1 ih2 => exact fun h => ih2 (ih1 h)
theorem Sat.perm {w0 w : World} {M : Nat → Prop} {σ : PH} {A B : List HP} (h : Sat w0 M σ A w) (hp : A.Perm B) : Sat w0 M σ B w := h.weak fun _ => SepIn.perm hp
theorem ownsL_congr {O : List (Nat × Obj)} {us us' : Us} (h : ∀ p ∈ O, us p.1 = us' p.1) : ownsL O us = ownsL O us' := by
  unfold ownsL
  exact List.map_congr_left fun p hp => by rw [h p hp]
theorem stAt_Kf_congr {l : List (Oper × Info)} {s0 : Stg} (hs : ∀ us us', s0.Kf us = s0.Kf us') : ∀ i, i ≤ l.length → ∀ us us', (∀ x ∈ (stAt l s0 i).E, us x = us' x) → (stAt l s0 i).Kf us = (stAt l s0 i).Kf us' := by
  intro i
  induction i with
  | zero => intro _ us us' _; cases l <;> exact hs us us'
  | succ i ih =>
    intro hi us us' h
    obtain ⟨o, inf⟩ : ∃ p : Oper × Info, True := ⟨l[i], trivial⟩
    have hp : l[i]? = some (l[i].1, l[i].2) := by simp [List.getElem?_eq_getElem (show i < l.length by omega)]
    rw [stAt_succ l s0 i _ _ hp] at h ⊢
    generalize l[i].1 = o at h ⊢
    generalize l[i].2 = inf at h ⊢
    have key : ∀ E : List Nat, (∀ x ∈ E, us x = us' x) → resE E us = resE E us' := by
      intro E hE
      funext x
      by_cases hx : x ∈ E
      · rw [resE_mem hx, resE_mem hx, hE x hx]
      · simp [resE, hx]
    cases inf <;> simp only [Stg.next] at h ⊢
    case eff T Kf => rw [key _ h]
    case st Kf => rw [key _ h]
    all_goals exact ih (by omega) us us' h
theorem stAt_Kf_same {l : List (Oper × Info)} {s0 : Stg} (j : Nat) : ∀ m, j + m ≤ l.length → (∀ i o inf, j ≤ i → i < j + m → l[i]? = some (o, inf) → inf.isMut = false) → (stAt l s0 (j + m)).Kf = (stAt l s0 j).Kf ∧ (stAt l s0 (j + m)).E = (stAt l s0 j).E := by
  intro m
  induction m with
  | zero => intro _ _; exact ⟨rfl, rfl⟩
  | succ m ih =>
    intro hl h
    have hp : l[j + m]? = some (l[j + m].1, l[j + m].2) := by simp [List.getElem?_eq_getElem (show j + m < l.length by omega)]
    have hm := h (j + m) _ _ (by omega) (by omega) hp
    obtain ⟨h1, h2⟩ := ih (by omega) fun i o inf a b c => h i o inf a (by omega) c
    rw [← Nat.add_assoc, stAt_succ l s0 (j + m) _ _ hp]
    generalize l[j + m].2 = inf at hm ⊢
    cases inf <;> simp [Info.isMut, Info.tag, Tag.isMut] at hm <;> simp only [Stg.next] <;> exact ⟨h1, h2⟩

section
variable {l : List (Oper × Info)} {s0 : Stg}
def Info.hs : Info → Bool
  | .gr _ | .own _ | .eff .. => true
  | _ => false
def Info.val? : Info → Option Value
  | .free v | .ex v | .exc v => some v
  | _ => none
theorem at_some {i : Nat} (h : i < l.length) : ∃ o inf, l[i]? = some (o, inf) := ⟨l[i].1, l[i].2, by simp [List.getElem?_eq_getElem h]⟩
theorem slots_iff (h0 : s0.H = []) : ∀ i, i ≤ l.length → ∀ x, x ∈ (stAt l s0 i).slots ↔ ∃ k o inf, k < i ∧ l[k]? = some (o, inf) ∧ inf.hs = true ∧ dstOf o = x := by
  intro i
  induction i with
  | zero => intro _ x; have : stAt l s0 0 = s0 := by cases l <;> rfl
            rw [this]; simp [Stg.slots, h0]
  | succ i ih =>
    intro hi x
    obtain ⟨o, inf, hp⟩ := at_some (l := l) (show i < l.length by omega)
    rw [stAt_succ l s0 i _ _ hp]
    have base := ih (by omega) x
    have split : (∃ k o' inf', k < i + 1 ∧ l[k]? = some (o', inf') ∧ inf'.hs = true ∧ dstOf o' = x) ↔ (inf.hs = true ∧ dstOf o = x) ∨ ∃ k o' inf', k < i ∧ l[k]? = some (o', inf') ∧ inf'.hs = true ∧ dstOf o' = x := by
      constructor
      · rintro ⟨k, o', inf', h1, h2, h3, h4⟩
        by_cases hk : k = i
        · subst hk; rw [hp] at h2; simp at h2; obtain ⟨rfl, rfl⟩ := h2; exact .inl ⟨h3, h4⟩
        · exact .inr ⟨k, o', inf', by omega, h2, h3, h4⟩
      · rintro (⟨h1, h2⟩ | ⟨k, o', inf', h1, h2, h3, h4⟩)
        · exact ⟨i, o, inf, by omega, hp, h1, h2⟩
        · exact ⟨k, o', inf', by omega, h2, h3, h4⟩
    rw [split, ← base]
    cases inf <;> simp [Stg.next, Stg.slots, Info.hs, eq_comm]
theorem fr_no (i : Nat) : i ≤ l.length → ∀ x, (∀ k o inf v, k < i → l[k]? = some (o, inf) → inf.val? = some v → dstOf o ≠ x) → (stAt l s0 i).fr x = s0.fr x := by
  induction i with
  | zero => intro _ x _; have : stAt l s0 0 = s0 := by cases l <;> rfl
            rw [this]
  | succ i ih =>
    intro hi x h
    obtain ⟨o, inf, hp⟩ := at_some (l := l) (show i < l.length by omega)
    have base := ih (by omega) x fun k o inf v a b c => h k o inf v (by omega) b c
    rw [stAt_succ l s0 i _ _ hp, ← base]
    cases inf <;> simp only [Stg.next]
    case free v => exact upd_ne (Ne.symm (h i o _ v (by omega) hp rfl))
    case ex v => exact upd_ne (Ne.symm (h i o _ v (by omega) hp rfl))
    case exc v => exact upd_ne (Ne.symm (h i o _ v (by omega) hp rfl))
theorem fr_yes (i : Nat) : i ≤ l.length → ∀ k o inf v, k < i → l[k]? = some (o, inf) → inf.val? = some v → (∀ k' o' inf', k < k' → l[k']? = some (o', inf') → dstOf o' ≠ dstOf o ∨ o'.dst = none ∧ inf'.val? = none) → (stAt l s0 i).fr (dstOf o) = v := by
  induction i with
  | zero => intro _ k o inf v hk; omega
  | succ i ih =>
    intro hi k o inf v hk hkp hv hd
    obtain ⟨oi, infi, hp⟩ := at_some (l := l) (show i < l.length by omega)
    rw [stAt_succ l s0 i _ _ hp]
    by_cases e : k = i
    · subst e
      rw [hp] at hkp; simp at hkp; obtain ⟨rfl, rfl⟩ := hkp
      cases infi <;> simp [Info.val?] at hv <;> subst hv <;> simp only [Stg.next] <;> exact upd_eq _ _ _
    · have base := ih (by omega) k o inf v (by omega) hkp hv hd
      rw [← base]
      have hne := hd i oi infi (by omega) hp
      cases infi <;> simp only [Stg.next]
      all_goals
        rcases hne with hne | ⟨_, hne⟩
        · exact upd_ne (Ne.symm hne)
        · simp [Info.val?] at hne
theorem sg_iff (h0 : s0.sg = false) : ∀ i, i ≤ l.length → ((stAt l s0 i).sg = false ↔ ∀ k o inf, k < i → l[k]? = some (o, inf) → inf.isSt = false) := by
  intro i
  induction i with
  | zero => intro _; have : stAt l s0 0 = s0 := by cases l <;> rfl
            rw [this, h0]; simp
  | succ i ih =>
    intro hi
    obtain ⟨o, inf, hp⟩ := at_some (l := l) (show i < l.length by omega)
    rw [stAt_succ l s0 i _ _ hp]
    have base := ih (by omega)
    have split : (∀ k o' inf', k < i + 1 → l[k]? = some (o', inf') → inf'.isSt = false) ↔ inf.isSt = false ∧ ∀ k o' inf', k < i → l[k]? = some (o', inf') → inf'.isSt = false := by
      constructor
      · intro h; exact ⟨h i o inf (by omega) hp, fun k o' inf' a b => h k o' inf' (by omega) b⟩
      · rintro ⟨h1, h2⟩ k o' inf' a b
        by_cases hk : k = i
        · subst hk; rw [hp] at b; simp at b; obtain ⟨_, rfl⟩ := b; exact h1
        · exact h2 k o' inf' (by omega) b
    rw [split, ← base]
    cases inf <;> simp [Stg.next, Info.isSt, Info.tag, Tag.isSt]
theorem own_iff (h0 : s0.O = []) (h1 : s0.sg = false) : ∀ i, i ≤ l.length → ((stAt l s0 i).sg = true → (∀ k o inf, k < l.length → l[k]? = some (o, inf) → inf matches .own _ → (stAt l s0 k).sg = false) → (stAt l s0 i).O = []) ∧
    ((stAt l s0 i).sg = false → ∀ p, p ∈ (stAt l s0 i).O ↔ ∃ k o obj, k < i ∧ l[k]? = some (o, .own obj) ∧ p = (dstOf o, obj)) := by
  intro i
  induction i with
  | zero =>
    intro _
    have : stAt l s0 0 = s0 := by cases l <;> rfl
    rw [this, h1, h0]; simp
  | succ i ih =>
    intro hi
    obtain ⟨o, inf, hp⟩ := at_some (l := l) (show i < l.length by omega)
    obtain ⟨ih1, ih2⟩ := ih (by omega)
    rw [stAt_succ l s0 i _ _ hp]
    have split : ∀ p : Nat × Obj, (∃ k o' obj, k < i + 1 ∧ l[k]? = some (o', .own obj) ∧ p = (dstOf o', obj)) ↔ (∃ obj, inf = .own obj ∧ p = (dstOf o, obj)) ∨ ∃ k o' obj, k < i ∧ l[k]? = some (o', .own obj) ∧ p = (dstOf o', obj) := by
      intro p
      constructor
      · rintro ⟨k, o', obj, a, b, c⟩
        by_cases hk : k = i
        · subst hk; rw [hp] at b; simp at b; obtain ⟨rfl, rfl⟩ := b; exact .inl ⟨obj, rfl, c⟩
        · exact .inr ⟨k, o', obj, by omega, b, c⟩
      · rintro (⟨obj, a, c⟩ | ⟨k, o', obj, a, b, c⟩)
        · subst a; exact ⟨i, o, obj, by omega, hp, c⟩
        · exact ⟨k, o', obj, by omega, b, c⟩
    refine ⟨fun hs hown => ?_, fun hs p => ?_⟩
    · cases inf <;> simp only [Stg.next] at hs ⊢
      case own obj => have := hown i o _ (by omega) hp rfl; rw [this] at hs; cases hs
      all_goals exact ih1 hs hown
    · rw [split p]
      cases inf <;> simp only [Stg.next] at hs ⊢
      case own obj => simp [ih2 hs p]
      case st Kf => cases hs
      all_goals simp [ih2 hs p]
theorem Ob_at {P : Program} {f : FuncId} {R : Ending → World → Prop} {k : List Item} {n : Nat} {w0 : World} {M : Nat → Prop} {σ : PH} {Kb : List HP} : ∀ (l : List (Oper × Info)) (s0 : Stg), LDp P f R k n w0 M σ Kb l s0 →
    (∀ i o inf, l[i]? = some (o, inf) → Ob P n w0 M σ Kb (stAt l s0 i) o inf) ∧ LDp P f R k n w0 M σ Kb [] (stAt l s0 l.length) := by
  intro l
  induction l with
  | nil => intro s0 h; exact ⟨fun i o inf hi => by simp at hi, h⟩
  | cons p l ih =>
    obtain ⟨o, inf⟩ := p
    rintro s0 ⟨h1, h2⟩
    obtain ⟨h3, h4⟩ := ih _ h2
    refine ⟨fun i o' inf' hi => ?_, h4⟩
    cases i with
    | zero => simp at hi; obtain ⟨rfl, rfl⟩ := hi; exact h1
    | succ i => simp at hi; exact h3 i o' inf' hi
end
end Go.JW
