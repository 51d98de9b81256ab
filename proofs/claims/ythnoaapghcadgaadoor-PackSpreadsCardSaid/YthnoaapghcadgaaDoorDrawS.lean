/- A region that draws its order: that the one walk serves every order. -/
import Derived.Test.YthnoaapghcadgaaDoorDraw
namespace Go.JW

def valOk (inf : Info) (v : Value) (σ' : PH) : Prop :=
  match inf with
  | .free u | .ex u | .exc u => v = u
  | .gr T | .eff T _ => T v σ'
  | .own _ => True
  | .st _ => True
section
variable {P : Program} {f : FuncId} {R : Ending → World → Prop} {k : List Item} {n : Nat} {w0 : World} {M : Nat → Prop} {σ : PH} {Kb : List HP} {l : List (Oper × Info)} {s0 : Stg}
structure DInv (w0 : World) (M : Nat → Prop) (σ : PH) (Kb : List HP) (l : List (Oper × Info)) (s0 : Stg) (L : Nat → Bool) (g : Us) (w : World) (σ' : PH) (Ol : List (Nat × Obj)) (j : Nat) : Prop where
  le : PH.le σ σ'
  down : DownCl (l.map (·.1)) L
  bound : ∀ i, L i = true → i < l.length
  jle : j ≤ l.length
  jlo : ∀ i o inf, i < j → l[i]? = some (o, inf) → inf.isMut = true → L i = true
  jhi : ∀ i o inf, j ≤ i → l[i]? = some (o, inf) → inf.isMut = true → L i = false
  sat : Sat w0 M σ' (groupHP (ownsL Ol g) :: (stAt l s0 j).Kf g) w
  base : (∀ i o inf, l[i]? = some (o, inf) → inf.isSt = true → L i = false) → ∀ us, Less ((stAt l s0 j).Kf us) Kb
  owns1 : (∀ i o inf, l[i]? = some (o, inf) → inf.isSt = true → L i = false) → Ol.Nodup ∧ ∀ p, p ∈ Ol ↔ ∃ i o obj, L i = true ∧ l[i]? = some (o, .own obj) ∧ p = (dstOf o, obj)
  owns2 : ¬ (∀ i o inf, l[i]? = some (o, inf) → inf.isSt = true → L i = false) → Ol = []
  vals : ∀ i o inf, L i = true → l[i]? = some (o, inf) → valOk inf (g (dstOf o)) σ'
  oth : ∀ s, (∀ i o inf, L i = true → l[i]? = some (o, inf) → o.dst = some s → False) → g s = s0.fr s
def Info.mono : Info → Prop
  | .gr T | .eff T _ => MonoT T
  | _ => True
theorem valOk_mono {inf : Info} {v : Value} {σ' σ'' : PH} (h : valOk inf v σ') (hle : PH.le σ' σ'') (hm : inf.mono) : valOk inf v σ'' := by
  cases inf <;> simp only [valOk, Info.mono] at h hm ⊢
  case gr T => exact hm _ _ _ h hle
  case eff T Kf => exact hm _ _ _ h hle
  all_goals exact h

variable (hp : ∀ i o inf, l[i]? = some (o, inf) → Ob P n w0 M σ Kb (stAt l s0 i) o inf) (hend : LDp P f R k n w0 M σ Kb [] (stAt l s0 l.length)) (hok : drawOk l = true)
  (hH : s0.H = []) (hO : s0.O = []) (hE : s0.E = []) (hsg : s0.sg = false) (hK : ∀ us us', s0.Kf us = s0.Kf us')
include hok in
theorem pair_of {i j : Nat} {oi oj : Oper} {fi fj : Info} (hij : i < j) (hi : l[i]? = some (oi, fi)) (hj : l[j]? = some (oj, fj)) : PairOk (((closL (l.map (·.1)) []).getD j 0).testBit i) oi fi.tag oj fj.tag := by
  simp only [drawOk, drawOkT, Bool.and_eq_true] at hok
  have z : ∀ (m : Nat) (o : Oper) (inf : Info), l[m]? = some (o, inf) → ((l.map (·.1)).zip (l.map (·.2.tag)))[m]? = some (o, inf.tag) := fun m o inf h => by
    rw [List.getElem?_zip_eq_some]; simp [h]
  exact pairsOk_spec _ _ _ 0 (fun j => by simp) hok.1.2 i j oi fi.tag oj fj.tag (by omega) hij (z _ _ _ hi) (z _ _ _ hj)
theorem clos_listed {L : Nat → Bool} (hd : DownCl (l.map (·.1)) L) {i j : Nat} {oj : Oper} {fj : Info} (hj : l[j]? = some (oj, fj)) (he : ∀ e ∈ edgeTo oj, L e = true) (hb : ((closL (l.map (·.1)) []).getD j 0).testBit i = true) : L i = true :=
  closL_sound (l.map (·.1)) L hd (l.map (·.1)) [] (fun j => by simp) (fun j o hj => by simp at hj) j oj (by simp [hj]) he i hb
include hp in
theorem dst_some {i : Nat} {o : Oper} {inf : Info} (hi : l[i]? = some (o, inf)) (hs : inf.isSt = false) : o.dst = some (dstOf o) := by
  have := (hp i o inf hi).2
  have h2 : o.dst.isSome = true := by
    cases inf <;> simp only [Info.isSt, Info.tag, Tag.isSt] at hs
    all_goals first | exact this.1 | exact this.2.1 | cases hs
  unfold dstOf
  cases e : o.dst with
  | none => rw [e] at h2; cases h2
  | some d => rfl
include hp in
theorem dst_none {i : Nat} {o : Oper} {inf : Info} (hi : l[i]? = some (o, inf)) (hs : inf.isSt = true) : o.dst = none := by
  have := (hp i o inf hi).2
  cases inf <;> simp only [Info.isSt, Info.tag, Tag.isSt] at hs
  all_goals first | exact this.1 | cases hs
include hp hok in
theorem dst_ne {i j : Nat} {oi oj : Oper} {fi fj : Info} (hij : i ≠ j) (hi : l[i]? = some (oi, fi)) (hj : l[j]? = some (oj, fj)) (hs : fi.isSt = false) (hs' : fj.isSt = false) : dstOf oi ≠ dstOf oj := by
  have ha := dst_some hp hi hs
  have hb := dst_some hp hj hs'
  intro e
  rcases Nat.lt_or_gt_of_ne hij with h | h
  · exact (pair_of hok h hi hj).ne _ ha (by rw [hb, e])
  · exact (pair_of hok h hj hi).ne _ hb (by rw [ha, ← e])
include hp hok hH in
/-- What an operation reads stands in its slot as the walk tells it. -/
theorem reads_as {L : Nat → Bool} {g us : Us} {w : World} {σ' : PH} {Ol : List (Nat × Obj)} {j : Nat} (I : DInv w0 M σ Kb l s0 L g w σ' Ol j) {i : Nat} {o : Oper} {inf : Info} (hi : l[i]? = some (o, inf)) (hn : L i = false) (he : ∀ e ∈ edgeTo o, L e = true)
    (hus : ∀ s ∈ (stAt l s0 i).seen o, us s = g s) : ∀ s ∈ readsTmp o, fill (stAt l s0 i).fr (stAt l s0 i).H us s = g s := by
  intro s hs
  have hil : i < l.length := (List.getElem?_eq_some_iff.1 hi).1
  by_cases hm : s ∈ (stAt l s0 i).slots
  · rw [fill_mem hm]
    exact hus s (by unfold Stg.seen; rw [List.mem_filter]; exact ⟨hs, by simpa using hm⟩)
  · rw [fill_not hm]
    by_cases hw : ∃ m om infm, m < i ∧ l[m]? = some (om, infm) ∧ om.dst = some s
    · obtain ⟨m, om, infm, h1, h2, h3⟩ := hw
      have hLm : L m = true := clos_listed I.down hi he ((pair_of hok h1 h2 hi).reads s h3 hs)
      have hst : infm.isSt = false := by
        cases hx : infm.isSt with
        | false => rfl
        | true => rw [dst_none hp h2 hx] at h3; cases h3
      have hds : dstOf om = s := by unfold dstOf; rw [h3]; rfl
      have hv : ∃ v, infm.val? = some v := by
        have : infm.hs = false := by
          cases hx : infm.hs with
          | false => rfl
          | true => exact absurd ((slots_iff hH i (by omega) s).2 ⟨m, om, infm, h1, h2, hx, hds⟩) hm
        cases infm <;> simp [Info.hs, Info.isSt, Info.tag, Tag.isSt] at this hst <;> simp [Info.val?]
      obtain ⟨v, hv⟩ := hv
      have := fr_yes (s0 := s0) i (by omega) m om infm v h1 h2 hv (fun k' o' inf' hk' hkp => by
        cases hx : inf'.isSt with
        | false => exact .inl (dst_ne hp hok (by omega) hkp h2 hx hst)
        | true => exact .inr ⟨dst_none hp hkp hx, by cases inf' <;> simp [Info.isSt, Info.tag, Tag.isSt] at hx <;> rfl⟩)
      rw [hds] at this
      rw [this]
      have hval := I.vals m om infm hLm h2
      rw [hds] at hval
      cases infm <;> simp [Info.val?] at hv <;> subst hv <;> exact hval.symm
    · rw [fr_no i (by omega) s fun m om infm v h1 h2 h3 h4 => hw ⟨m, om, infm, h1, h2, by
        have := dst_some hp h2 (by cases infm <;> simp [Info.val?] at h3 <;> rfl)
        rw [this, h4]⟩]
      refine (I.oth s fun m om infm h1 h2 h3 => ?_).symm
      have hml := I.bound m h1
      rcases Nat.lt_trichotomy m i with h | h | h
      · exact hw ⟨m, om, infm, h, h2, h3⟩
      · subst h; rw [hn] at h1; cases h1
      · have hb := (pair_of hok h hi h2).anti s h3 hs
        have : L i = true := clos_listed I.down h2 (fun e hee => I.down m om (by simp [h2]) h1 e hee) hb
        rw [hn] at this; cases this
include hok in
theorem exec_as {g : Us} {i : Nat} {o : Oper} {inf : Info} (hi : l[i]? = some (o, inf)) {fr' : Us} (h : ∀ s ∈ readsTmp o, fr' s = g s) : execOp (ev n fr') o = execOp (ev n g) o := by
  have hsel : ∀ cs b, o.op ≠ .select cs b := by
    simp only [drawOk, drawOkT, Bool.and_eq_true] at hok
    exact fun cs b => Region.noSelect_spec hok.1.1 i o cs b (by simp [hi])
  refine execOp_congr o hsel fun x hx => ?_
  cases x with
  | tmp s =>
    have : s ∈ readsTmp o := by
      unfold readsTmp
      rw [List.mem_filterMap]
      exact ⟨.tmp s, by simpa using hx, rfl⟩
    simp only [ev, h s this]
  | _ => rfl
theorem H_of (hH : s0.H = []) : ∀ i, i ≤ l.length → ∀ p, p ∈ (stAt l s0 i).H → ∃ m om infm, m < i ∧ l[m]? = some (om, infm) ∧ infm.hs = true ∧ dstOf om = p.1 ∧ ∀ v σ', valOk infm v σ' → p.2 v σ' := by
  intro i
  induction i with
  | zero => intro _ p h; have : stAt l s0 0 = s0 := by cases l <;> rfl
            rw [this, hH] at h; simp at h
  | succ i ih =>
    intro hi p h
    obtain ⟨o, inf, hpp⟩ := at_some (l := l) (show i < l.length by omega)
    rw [stAt_succ l s0 i _ _ hpp] at h
    have old : p ∈ (stAt l s0 i).H → ∃ m om infm, m < i + 1 ∧ l[m]? = some (om, infm) ∧ infm.hs = true ∧ dstOf om = p.1 ∧ ∀ v σ', valOk infm v σ' → p.2 v σ' := fun h => by
      obtain ⟨m, om, infm, a, b⟩ := ih (by omega) p h; exact ⟨m, om, infm, by omega, b⟩
    cases inf <;> simp only [Stg.next, List.mem_cons] at h
    case gr T => rcases h with rfl | h; exact ⟨i, o, _, by omega, hpp, rfl, rfl, fun _ _ h => h⟩; exact old h
    case own T => rcases h with rfl | h; exact ⟨i, o, _, by omega, hpp, rfl, rfl, fun _ _ h => h⟩; exact old h
    case eff T Kf => rcases h with rfl | h; exact ⟨i, o, _, by omega, hpp, rfl, rfl, fun _ _ h => h⟩; exact old h
    all_goals exact old h
include hp hok hH in
theorem H_facts {L : Nat → Bool} {g : Us} {w : World} {σ' : PH} {Ol : List (Nat × Obj)} {j : Nat} (I : DInv w0 M σ Kb l s0 L g w σ' Ol j) {i : Nat} {o : Oper} {inf : Info} (hi : l[i]? = some (o, inf)) (he : ∀ e ∈ edgeTo o, L e = true) :
    ∀ p ∈ (stAt l s0 i).H, p.1 ∈ readsTmp o → p.2 (g p.1) σ' := by
  intro p hpm hr
  have hil : i < l.length := (List.getElem?_eq_some_iff.1 hi).1
  obtain ⟨m, om, infm, h1, h2, h3, h4, h5⟩ := H_of hH i (by omega) p hpm
  have hd := dst_some hp h2 (by cases infm <;> simp [Info.hs] at h3 <;> rfl)
  have hL := clos_listed I.down hi he ((pair_of hok h1 h2 hi).reads p.1 (by rw [hd, h4]) hr)
  have := I.vals m om infm hL h2
  rw [h4] at this
  exact h5 _ _ this
include hp hok hH hO hE hsg in
/-- What the state's assertions lean on has come. -/
theorem E_listed {L : Nat → Bool} (hd : DownCl (l.map (·.1)) L) : ∀ i, i ≤ l.length → (∀ m om infm, m < i → l[m]? = some (om, infm) → infm.isMut = true → L m = true) → ∀ x ∈ (stAt l s0 i).E, ∃ m om infm, m < i ∧ L m = true ∧ l[m]? = some (om, infm) ∧ infm.hs = true ∧ dstOf om = x := by
  intro i
  induction i with
  | zero => intro _ _ x h; have : stAt l s0 0 = s0 := by cases l <;> rfl
            rw [this, hE] at h; simp at h
  | succ i ih =>
    intro hi hm x h
    obtain ⟨o, inf, hpp⟩ := at_some (l := l) (show i < l.length by omega)
    rw [stAt_succ l s0 i _ _ hpp] at h
    have old : x ∈ (stAt l s0 i).E → ∃ m om infm, m < i + 1 ∧ L m = true ∧ l[m]? = some (om, infm) ∧ infm.hs = true ∧ dstOf om = x := fun h => by
      obtain ⟨m, om, infm, a, b⟩ := ih (by omega) (fun m om infm a b c => hm m om infm (by omega) b c) x h; exact ⟨m, om, infm, by omega, b⟩
    have hsl : x ∈ (stAt l s0 i).slots → ∃ m om infm, m < i ∧ l[m]? = some (om, infm) ∧ infm.hs = true ∧ dstOf om = x := fun h => (slots_iff hH i (by omega) x).1 h
    have seenL : L i = true → x ∈ (stAt l s0 i).seen o → ∃ m om infm, m < i + 1 ∧ L m = true ∧ l[m]? = some (om, infm) ∧ infm.hs = true ∧ dstOf om = x := fun hLi h => by
      unfold Stg.seen at h
      rw [List.mem_filter] at h
      obtain ⟨m, om, infm, a, b, c, d⟩ := hsl (by simpa using h.2)
      have hdd := dst_some hp b (by cases infm <;> simp [Info.hs] at c <;> rfl)
      exact ⟨m, om, infm, by omega, clos_listed hd hpp (hd i o (by simp [hpp]) hLi) ((pair_of hok a b hpp).reads x (by rw [hdd, d]) h.1), b, c, d⟩
    cases inf <;> simp only [Stg.next] at h
    case eff T Kf =>
      have hLi := hm i o _ (by omega) hpp rfl
      simp only [List.mem_cons, List.mem_append] at h
      rcases h with rfl | h | h
      · exact ⟨i, o, _, by omega, hLi, hpp, rfl, rfl⟩
      · exact seenL hLi h
      · exact old h
    case st Kf =>
      have hLi := hm i o _ (by omega) hpp rfl
      simp only [List.mem_append] at h
      rcases h with h | h | h
      · rw [List.mem_map] at h
        obtain ⟨q, hq, rfl⟩ := h
        have hof := own_iff (l := l) hO hsg i (by omega)
        have hsgi : (stAt l s0 i).sg = false := by
          cases hx : (stAt l s0 i).sg with
          | false => rfl
          | true => rw [hof.1 hx (fun m om infm hml hlm hown => by
              have := (hp m om infm hlm).2
              cases infm <;> simp at hown
              exact this.1)] at hq; simp at hq
        obtain ⟨m, om, obj, a, b, c⟩ := (hof.2 hsgi q).1 hq
        exact ⟨m, om, _, by omega, clos_listed hd hpp (hd i o (by simp [hpp]) hLi) ((pair_of hok a b hpp).st rfl rfl), b, rfl, by rw [c]⟩
      · exact seenL hLi h
      · exact old h
    all_goals exact old h

/-! one step -/
def more (L : Nat → Bool) (i : Nat) : Nat → Bool := fun x => bif Nat.beq x i then true else L x
theorem more_at {L : Nat → Bool} {i : Nat} : more L i i = true := by simp [more]
theorem more_of {L : Nat → Bool} {i x : Nat} (h : L x = true) : more L i x = true := by simp [more, h]
theorem more_ne {L : Nat → Bool} {i x : Nat} (h : x ≠ i) : more L i x = L x := by
  have : Nat.beq x i = false := by rw [Bool.eq_false_iff]; intro hb; exact h (Nat.eq_of_beq_eq_true hb)
  simp [more, this]
theorem more_down {L : Nat → Bool} {i : Nat} {o : Oper} {inf : Info} (hd : DownCl (l.map (·.1)) L) (hi : l[i]? = some (o, inf)) (he : ∀ e ∈ edgeTo o, L e = true) : DownCl (l.map (·.1)) (more L i) := by
  intro j oj hj hL e hee
  by_cases hji : j = i
  · subst hji
    simp [hi] at hj; subst hj
    exact more_of (he e hee)
  · rw [more_ne hji] at hL
    exact more_of (hd j oj hj hL e hee)
include hp in
theorem mono_of {i : Nat} {o : Oper} {inf : Info} (hi : l[i]? = some (o, inf)) : inf.mono := by
  have := (hp i o inf hi).2
  cases inf <;> first | trivial | exact this.2.2.1
include hp hok in
theorem vals_step {L : Nat → Bool} {g : Us} {σ' σ'' : PH} (hv : ∀ i o inf, L i = true → l[i]? = some (o, inf) → valOk inf (g (dstOf o)) σ') (hle : PH.le σ' σ'') {i : Nat} {o : Oper} {inf : Info} (hi : l[i]? = some (o, inf)) (hst : inf.isSt = false) (hn : L i = false) {v : Value} (hval : valOk inf v σ'') :
    ∀ m om infm, more L i m = true → l[m]? = some (om, infm) → valOk infm (upd g (dstOf o) v (dstOf om)) σ'' := by
  intro m om infm hL hm
  by_cases hmi : m = i
  · subst hmi
    rw [hi] at hm; simp at hm; obtain ⟨rfl, rfl⟩ := hm
    rw [upd_eq]; exact hval
  · rw [more_ne hmi] at hL
    cases hx : infm.isSt with
    | true => cases infm <;> simp [Info.isSt, Info.tag, Tag.isSt] at hx; trivial
    | false =>
      rw [upd_ne (dst_ne hp hok hmi hm hi hx hst)]
      exact valOk_mono (hv m om infm hL hm) hle (mono_of hp hm)
include hp in
theorem oth_step {L : Nat → Bool} {g : Us} (ho : ∀ s, (∀ i o inf, L i = true → l[i]? = some (o, inf) → o.dst = some s → False) → g s = s0.fr s) {i : Nat} {o : Oper} {inf : Info} (hi : l[i]? = some (o, inf)) (hst : inf.isSt = false) {v : Value} :
    ∀ s, (∀ m om infm, more L i m = true → l[m]? = some (om, infm) → om.dst = some s → False) → upd g (dstOf o) v s = s0.fr s := by
  intro s h
  have hne : s ≠ dstOf o := fun e => h i o inf more_at hi (by rw [dst_some hp hi hst, e])
  rw [upd_ne hne]
  exact ho s fun m om infm a b c => h m om infm (more_of a) b c
include hp hok hH hO hE hsg hK in
theorem K_step {L : Nat → Bool} {g : Us} {w : World} {σ' : PH} {Ol : List (Nat × Obj)} {j : Nat} (I : DInv w0 M σ Kb l s0 L g w σ' Ol j) {i : Nat} {o : Oper} {inf : Info} (hi : l[i]? = some (o, inf)) (hst : inf.isSt = false) (hn : L i = false) (v : Value) :
    (stAt l s0 j).Kf (upd g (dstOf o) v) = (stAt l s0 j).Kf g ∧ ownsL Ol (upd g (dstOf o) v) = ownsL Ol g := by
  constructor
  · refine stAt_Kf_congr hK j I.jle _ _ fun x hx => upd_ne fun e => ?_
    obtain ⟨m, om, infm, _, h2, h3, h4, h5⟩ := E_listed hp hok hH hO hE hsg I.down j I.jle I.jlo x hx
    have hne : m ≠ i := fun e => by subst e; rw [hn] at h2; cases h2
    exact dst_ne hp hok hne h3 hi (by cases infm <;> simp [Info.hs] at h4 <;> rfl) hst (h5.trans e)
  · refine ownsL_congr fun p hpm => upd_ne fun e => ?_
    by_cases hs : ∀ i o inf, l[i]? = some (o, inf) → inf.isSt = true → L i = false
    · obtain ⟨m, om, obj, h1, h2, h3⟩ := ((I.owns1 hs).2 p).1 hpm
      have hne : m ≠ i := fun e => by subst e; rw [hn] at h1; cases h1
      exact dst_ne hp hok hne h2 hi rfl hst (by rw [← e, h3])
    · rw [I.owns2 hs] at hpm; simp at hpm
include hp hok hH hO hE hsg hK in
/-- A value: free, of the begin's state, or new. -/
theorem step_val {L : Nat → Bool} {g : Us} {w w' : World} {σ' σ'' : PH} {Ol : List (Nat × Obj)} {j : Nat} (I : DInv w0 M σ Kb l s0 L g w σ' Ol j) {i : Nat} {o : Oper} {inf : Info} (hi : l[i]? = some (o, inf)) (hn : L i = false) (he : ∀ e ∈ edgeTo o, L e = true)
    (hm : inf.isMut = false) (hno : ¬ inf matches .own _) {v : Value} (hle : PH.le σ' σ'') (hw : Sat w0 M σ'' (groupHP (ownsL Ol g) :: (stAt l s0 j).Kf g) w') (hval : valOk inf v σ'') :
    DInv w0 M σ Kb l s0 (more L i) (upd g (dstOf o) v) w' σ'' Ol j := by
  have hst : inf.isSt = false := by cases inf <;> simp [Info.isMut, Info.tag, Tag.isMut] at hm <;> rfl
  have hil : i < l.length := (List.getElem?_eq_some_iff.1 hi).1
  obtain ⟨hk1, hk2⟩ := K_step hp hok hH hO hE hsg hK I hi hst hn v
  have stEq : (∀ m om infm, l[m]? = some (om, infm) → infm.isSt = true → more L i m = false) → ∀ m om infm, l[m]? = some (om, infm) → infm.isSt = true → L m = false := fun h m om infm a b => by
    have := h m om infm a b
    by_cases hmi : m = i
    · subst hmi; rw [hi] at a; simp at a; obtain ⟨_, rfl⟩ := a; rw [hst] at b; cases b
    · rwa [more_ne hmi] at this
  have stEq' : (∀ m om infm, l[m]? = some (om, infm) → infm.isSt = true → L m = false) → ∀ m om infm, l[m]? = some (om, infm) → infm.isSt = true → more L i m = false := fun h m om infm a b => by
    by_cases hmi : m = i
    · subst hmi; rw [hi] at a; simp at a; obtain ⟨_, rfl⟩ := a; rw [hst] at b; cases b
    · rw [more_ne hmi]; exact h m om infm a b
  refine ⟨PH.le_trans I.le hle, more_down I.down hi he, fun m hm => ?_, I.jle, fun m om infm a b c => more_of (I.jlo m om infm a b c), fun m om infm a b c => ?_, by rw [hk1, hk2]; exact hw, fun h => I.base (stEq h), fun h => ?_, fun h => I.owns2 fun h' => h (stEq' h'), vals_step hp hok I.vals hle hi hst hn hval, oth_step hp I.oth hi hst⟩
  · by_cases hmi : m = i
    · omega
    · rw [more_ne hmi] at hm; exact I.bound m hm
  · have hmi : m ≠ i := fun e => by subst e; rw [hi] at b; simp at b; obtain ⟨_, rfl⟩ := b; rw [hm] at c; cases c
    rw [more_ne hmi]; exact I.jhi m om infm a b c
  · obtain ⟨h1, h2⟩ := I.owns1 (stEq h)
    refine ⟨h1, fun p => (h2 p).trans ?_⟩
    constructor
    · rintro ⟨m, om, obj, a, b, c⟩; exact ⟨m, om, obj, more_of a, b, c⟩
    · rintro ⟨m, om, obj, a, b, c⟩
      have hmi : m ≠ i := fun e => by subst e; rw [hi] at b; simp at b; obtain ⟨_, rfl⟩ := b; exact hno rfl
      rw [more_ne hmi] at a
      exact ⟨m, om, obj, a, b, c⟩
include hp hok hH hO hE hsg hK in
/-- A block of the call's own. -/
theorem step_own {L : Nat → Bool} {g : Us} {w : World} {σ' : PH} {Ol : List (Nat × Obj)} {j : Nat} (I : DInv w0 M σ Kb l s0 L g w σ' Ol j) {i : Nat} {o : Oper} {obj : Obj} (hi : l[i]? = some (o, .own obj)) (hn : L i = false) (he : ∀ e ∈ edgeTo o, L e = true) :
    DInv w0 M σ Kb l s0 (more L i) (upd g (dstOf o) (.pointer (some ⟨w.heap.size, 0, none⟩))) (w.alloc obj) σ' ((dstOf o, obj) :: Ol) j := by
  have hil : i < l.length := (List.getElem?_eq_some_iff.1 hi).1
  obtain ⟨hk1, hk2⟩ := K_step hp hok hH hO hE hsg hK I hi rfl hn (.pointer (some ⟨w.heap.size, 0, none⟩))
  have hsgi : (stAt l s0 i).sg = false := (hp i o _ hi).2.1
  have noSt : ∀ m om infm, l[m]? = some (om, infm) → infm.isSt = true → L m = false := fun m om infm a b => by
    cases hL : L m with
    | false => rfl
    | true =>
      rcases Nat.lt_trichotomy m i with h | h | h
      · have := (sg_iff hsg i (by omega)).1 hsgi m om infm h a
        rw [b] at this; cases this
      · subst h; rw [hi] at a; simp at a; obtain ⟨_, rfl⟩ := a; cases b
      · have hb := (pair_of hok h hi a).st b rfl
        have := clos_listed I.down a (I.down m om (by simp [a]) hL) hb
        rw [hn] at this; cases this
  have noSt' : ∀ m om infm, l[m]? = some (om, infm) → infm.isSt = true → more L i m = false := fun m om infm a b => by
    by_cases hmi : m = i
    · subst hmi; rw [hi] at a; simp at a; obtain ⟨_, rfl⟩ := a; cases b
    · rw [more_ne hmi]; exact noSt m om infm a b
  refine ⟨I.le, more_down I.down hi he, fun m hm => ?_, I.jle, fun m om infm a b c => more_of (I.jlo m om infm a b c), fun m om infm a b c => ?_, ?_, fun _ => I.base noSt, fun _ => ?_, fun h => absurd noSt' h, vals_step hp hok I.vals (PH.le_refl _) hi rfl hn trivial, oth_step hp I.oth hi rfl⟩
  · by_cases hmi : m = i
    · omega
    · rw [more_ne hmi] at hm; exact I.bound m hm
  · have hmi : m ≠ i := fun e => by subst e; rw [hi] at b; simp at b; obtain ⟨_, rfl⟩ := b; cases c
    rw [more_ne hmi]; exact I.jhi m om infm a b c
  · rw [hk1]
    refine (I.sat.alloc obj).weak fun F h => ?_
    obtain ⟨F1, ⟨h1, h2⟩, h3, h4⟩ := h
    refine SepIn.group (A := ownsL ((dstOf o, obj) :: Ol) _) ?_
    refine ⟨F1, ⟨_, upd_eq _ _ _, h1, h2⟩, h3, ?_⟩
    have := SepIn.append h4
    rw [← hk2] at this
    exact this
  · obtain ⟨h1, h2⟩ := I.owns1 noSt
    have key : ∀ p, p ∈ (dstOf o, obj) :: Ol ↔ ∃ m om obj', more L i m = true ∧ l[m]? = some (om, .own obj') ∧ p = (dstOf om, obj') := by
      intro p
      rw [List.mem_cons, h2 p]
      constructor
      · rintro (rfl | ⟨m, om, obj', a, b, c⟩)
        · exact ⟨i, o, obj, more_at, hi, rfl⟩
        · exact ⟨m, om, obj', more_of a, b, c⟩
      · rintro ⟨m, om, obj', a, b, c⟩
        by_cases hmi : m = i
        · subst hmi; rw [hi] at b; simp at b; obtain ⟨rfl, rfl⟩ := b; exact .inl c
        · rw [more_ne hmi] at a; exact .inr ⟨m, om, obj', a, b, c⟩
    refine ⟨List.nodup_cons.2 ⟨fun hm => ?_, h1⟩, key⟩
    obtain ⟨m, om, obj', a, b, c⟩ := (h2 _).1 hm
    have hmi : m ≠ i := fun e => by subst e; rw [hn] at a; cases a
    exact dst_ne hp hok hmi b hi rfl rfl (by have := congrArg Prod.fst c; exact this.symm)
include hok in
/-- Between what has turned the state and what is to, nothing does. -/
theorem Kf_at {L : Nat → Bool} {g : Us} {w : World} {σ' : PH} {Ol : List (Nat × Obj)} {j : Nat} (I : DInv w0 M σ Kb l s0 L g w σ' Ol j) {i : Nat} {o : Oper} {inf : Info} (hi : l[i]? = some (o, inf)) (hn : L i = false) (he : ∀ e ∈ edgeTo o, L e = true) (hm : inf.isMut = true) :
    (stAt l s0 i).Kf = (stAt l s0 j).Kf ∧ (stAt l s0 i).E = (stAt l s0 j).E ∧ (∀ m om infm, m < i → l[m]? = some (om, infm) → infm.isMut = true → L m = true) ∧ j ≤ i := by
  have hil : i < l.length := (List.getElem?_eq_some_iff.1 hi).1
  have hji : j ≤ i := by
    rcases Nat.lt_or_ge i j with h | h
    · have := I.jlo i o inf h hi hm; rw [hn] at this; cases this
    · exact h
  have hall : ∀ m om infm, m < i → l[m]? = some (om, infm) → infm.isMut = true → L m = true := fun m om infm a b c => clos_listed I.down hi he ((pair_of hok a b hi).chain hm c)
  have := stAt_Kf_same (l := l) (s0 := s0) j (i - j) (by omega) fun m om infm a b c => by
    cases hx : infm.isMut with
    | false => rfl
    | true =>
      have h1 := hall m om infm (by omega) c hx
      have h2 := I.jhi m om infm a c hx
      rw [h2] at h1; cases h1
  rw [show j + (i - j) = i by omega] at this
  exact ⟨this.1, this.2, hall, hji⟩
include hp hok hH hO hE hsg hK in
/-- Something that turns the state. -/
theorem step_eff {L : Nat → Bool} {g : Us} {w w' : World} {σ' σ'' : PH} {Ol : List (Nat × Obj)} {j : Nat} (I : DInv w0 M σ Kb l s0 L g w σ' Ol j) {i : Nat} {o : Oper} {T : Value → PH → Prop} {Kf : Us → List HP} (hi : l[i]? = some (o, .eff T Kf)) (hn : L i = false) (he : ∀ e ∈ edgeTo o, L e = true)
    {u : Value} (hle : PH.le σ' σ'') (hw : Sat w0 M σ'' (groupHP (ownsL Ol g) :: Kf (upd (resE ((stAt l s0 i).seen o ++ (stAt l s0 i).E) g) (dstOf o) u)) w') (hval : T u σ'') :
    DInv w0 M σ Kb l s0 (more L i) (upd g (dstOf o) u) w' σ'' Ol (i + 1) := by
  have hil : i < l.length := (List.getElem?_eq_some_iff.1 hi).1
  obtain ⟨hk1, hk2⟩ := K_step hp hok hH hO hE hsg hK I hi rfl hn u
  obtain ⟨_, _, hall, hji⟩ := Kf_at hok I hi hn he rfl
  have hsgi : (stAt l s0 i).sg = false := (hp i o _ hi).2.1
  have hbase := (hp i o _ hi).2.2.2.2.1
  have stEq : (∀ m om infm, l[m]? = some (om, infm) → infm.isSt = true → more L i m = false) ↔ ∀ m om infm, l[m]? = some (om, infm) → infm.isSt = true → L m = false := by
    constructor
    · intro h m om infm a b
      have := h m om infm a b
      by_cases hmi : m = i
      · subst hmi; exact hn
      · rwa [more_ne hmi] at this
    · intro h m om infm a b
      by_cases hmi : m = i
      · subst hmi; rw [hi] at a; simp at a; obtain ⟨_, rfl⟩ := a; cases b
      · rw [more_ne hmi]; exact h m om infm a b
  have hKf : (stAt l s0 (i + 1)).Kf (upd g (dstOf o) u) = Kf (upd (resE ((stAt l s0 i).seen o ++ (stAt l s0 i).E) g) (dstOf o) u) := by
    rw [stAt_succ l s0 i _ _ hi]
    simp only [Stg.next]
    congr 1
    funext x
    by_cases hx : x = dstOf o
    · subst hx; rw [resE_mem (by simp), upd_eq, upd_eq]
    · rw [upd_ne hx]
      by_cases hm : x ∈ (stAt l s0 i).seen o ++ (stAt l s0 i).E
      · rw [resE_mem (by simp only [List.mem_cons]; exact .inr hm), upd_ne hx, resE_mem hm]
      · simp only [resE]
        rw [show (List.elem x (dstOf o :: ((stAt l s0 i).seen o ++ (stAt l s0 i).E))) = false by rw [Bool.eq_false_iff]; intro h; simp only [List.elem_eq_mem, decide_eq_true_eq, List.mem_cons] at h; exact h.elim hx hm,
          show (List.elem x ((stAt l s0 i).seen o ++ (stAt l s0 i).E)) = false by rw [Bool.eq_false_iff]; intro h; simp only [List.elem_eq_mem, decide_eq_true_eq] at h; exact hm h]
        rfl
  refine ⟨PH.le_trans I.le hle, more_down I.down hi he, fun m hm => ?_, by omega, fun m om infm a b c => ?_, fun m om infm a b c => ?_, by rw [hKf, hk2]; exact hw, fun _ us => ?_, fun h => ?_, fun h => I.owns2 fun h' => h (stEq.2 h'), vals_step hp hok I.vals hle hi rfl hn hval, oth_step hp I.oth hi rfl⟩
  · by_cases hmi : m = i
    · omega
    · rw [more_ne hmi] at hm; exact I.bound m hm
  · by_cases hmi : m = i
    · subst hmi; exact more_at
    · exact more_of (hall m om infm (by omega) b c)
  · rw [more_ne (by omega)]; exact I.jhi m om infm (by omega) b c
  · rw [stAt_succ l s0 i _ _ hi]; exact hbase _
  · obtain ⟨h1, h2⟩ := I.owns1 (stEq.1 h)
    refine ⟨h1, fun p => (h2 p).trans ?_⟩
    constructor
    · rintro ⟨m, om, obj, a, b, c⟩; exact ⟨m, om, obj, more_of a, b, c⟩
    · rintro ⟨m, om, obj, a, b, c⟩
      have hmi : m ≠ i := fun e => by subst e; rw [hi] at b; simp at b
      rw [more_ne hmi] at a
      exact ⟨m, om, obj, a, b, c⟩
include hp hok hO hsg in
theorem O_nodup : ∀ i, i ≤ l.length → (stAt l s0 i).sg = false → (stAt l s0 i).O.Nodup := by
  intro i
  induction i with
  | zero => intro _ _; have : stAt l s0 0 = s0 := by cases l <;> rfl
            rw [this, hO]; simp
  | succ i ih =>
    intro hi hs
    obtain ⟨o, inf, hpp⟩ := at_some (l := l) (show i < l.length by omega)
    have hsi : (stAt l s0 i).sg = false := (sg_iff hsg i (by omega)).2 fun m om infm a b => (sg_iff hsg (i + 1) hi).1 hs m om infm (by omega) b
    have base := ih (by omega) hsi
    rw [stAt_succ l s0 i _ _ hpp] at hs ⊢
    cases inf <;> simp only [Stg.next] at hs ⊢
    case own obj =>
      refine List.nodup_cons.2 ⟨fun h => ?_, base⟩
      obtain ⟨m, om, obj', a, b, c⟩ := ((own_iff hO hsg i (by omega)).2 hsi _).1 h
      exact dst_ne hp hok (by omega) b hpp rfl rfl (by have := congrArg Prod.fst c; exact this.symm)
    case st Kf => cases hs
    all_goals exact base
include hp hok hO hsg in
/-- What is to be stored into has come, all of it. -/
theorem O_perm {L : Nat → Bool} {g : Us} {w : World} {σ' : PH} {Ol : List (Nat × Obj)} {j : Nat} (I : DInv w0 M σ Kb l s0 L g w σ' Ol j) {i : Nat} (hil : i ≤ l.length)
    (hst : ∀ m om infm, l[m]? = some (om, infm) → infm.isSt = true → (L m = true ↔ m < i)) (how : ∀ m om obj, l[m]? = some (om, .own obj) → (stAt l s0 i).sg = false → (L m = true ↔ m < i)) : Ol.Perm (stAt l s0 i).O := by
  cases hs : (stAt l s0 i).sg with
  | false =>
    have noSt : ∀ m om infm, l[m]? = some (om, infm) → infm.isSt = true → L m = false := fun m om infm a b => by
      cases hL : L m with
      | false => rfl
      | true =>
        have := (sg_iff hsg i hil).1 hs m om infm ((hst m om infm a b).1 hL) a
        rw [b] at this; cases this
    obtain ⟨h1, h2⟩ := I.owns1 noSt
    rw [List.perm_ext_iff_of_nodup h1 (O_nodup hp hok hO hsg i hil hs)]
    intro p
    rw [h2 p, (own_iff hO hsg i hil).2 hs p]
    constructor
    · rintro ⟨m, om, obj, a, b, c⟩; exact ⟨m, om, obj, (how m om obj b hs).1 a, b, c⟩
    · rintro ⟨m, om, obj, a, b, c⟩; exact ⟨m, om, obj, (how m om obj b hs).2 a, b, c⟩
  | true =>
    have hex : ¬ ∀ m om infm, l[m]? = some (om, infm) → infm.isSt = true → L m = false := fun h => by
      have : (stAt l s0 i).sg = false := (sg_iff hsg i hil).2 fun m om infm a b => by
        cases hx : infm.isSt with
        | false => rfl
        | true =>
          have h1 := h m om infm b hx
          rw [(hst m om infm b hx).2 a] at h1; cases h1
      rw [hs] at this; cases this
    rw [I.owns2 hex, (own_iff hO hsg i hil).1 hs fun m om infm hml hlm hown => by
      have := (hp m om infm hlm).2
      cases infm <;> simp at hown
      exact this.1]
include hp hok in
/-- A store. -/
theorem step_st {L : Nat → Bool} {g : Us} {w w' : World} {σ' : PH} {Ol : List (Nat × Obj)} {j : Nat} (I : DInv w0 M σ Kb l s0 L g w σ' Ol j) {i : Nat} {o : Oper} {Kf : Us → List HP} (hi : l[i]? = some (o, .st Kf)) (hn : L i = false) (he : ∀ e ∈ edgeTo o, L e = true)
    (hw : Sat w0 M σ' (Kf (resE ((stAt l s0 i).O.map (·.1) ++ ((stAt l s0 i).seen o ++ (stAt l s0 i).E)) g)) w') :
    DInv w0 M σ Kb l s0 (more L i) g w' σ' [] (i + 1) := by
  have hil : i < l.length := (List.getElem?_eq_some_iff.1 hi).1
  obtain ⟨_, _, hall, hji⟩ := Kf_at hok I hi hn he rfl
  have hdn := dst_none hp hi rfl
  refine ⟨I.le, more_down I.down hi he, fun m hm => ?_, by omega, fun m om infm a b c => ?_, fun m om infm a b c => ?_, ?_, fun h => ?_, fun h => ?_, fun _ => rfl, fun m om infm a b => ?_, fun s h => I.oth s fun m om infm a b c => h m om infm (more_of a) b c⟩
  · by_cases hmi : m = i
    · omega
    · rw [more_ne hmi] at hm; exact I.bound m hm
  · by_cases hmi : m = i
    · subst hmi; exact more_at
    · exact more_of (hall m om infm (by omega) b c)
  · rw [more_ne (by omega)]; exact I.jhi m om infm (by omega) b c
  · rw [stAt_succ l s0 i _ _ hi]
    exact hw.weak fun F h => SepIn.group (A := []) h
  · have := h i o _ hi rfl; rw [more_at] at this; cases this
  · have := h i o _ hi rfl; rw [more_at] at this; cases this
  · by_cases hmi : m = i
    · subst hmi; rw [hi] at b; simp at b; obtain ⟨_, rfl⟩ := b; trivial
    · rw [more_ne hmi] at a; exact I.vals m om infm a b
include hp hend hok hH hO hsg in
/-- When all have come. -/
theorem all_done {L : Nat → Bool} {g : Us} {w : World} {σ' : PH} {Ol : List (Nat × Obj)} {j : Nat} (I : DInv w0 M σ Kb l s0 L g w σ' Ol j) (hall : ∀ i, i < l.length → L i = true) : Run P f R k (act n g) w := by
  have hfr : fill (stAt l s0 l.length).fr (stAt l s0 l.length).H g = g := by
    funext s
    by_cases hm : s ∈ (stAt l s0 l.length).slots
    · exact fill_mem hm
    · rw [fill_not hm]
      by_cases hw : ∃ m om infm v, m < l.length ∧ l[m]? = some (om, infm) ∧ infm.val? = some v ∧ dstOf om = s
      · obtain ⟨m, om, infm, v, h1, h2, h3, h4⟩ := hw
        have hst : infm.isSt = false := by cases infm <;> simp [Info.val?] at h3 <;> rfl
        have := fr_yes (s0 := s0) l.length (Nat.le_refl _) m om infm v h1 h2 h3 (fun k' o' inf' hk' hkp => by
          cases hx : inf'.isSt with
          | false => exact .inl (dst_ne hp hok (by omega) hkp h2 hx hst)
          | true => exact .inr ⟨dst_none hp hkp hx, by cases inf' <;> simp [Info.isSt, Info.tag, Tag.isSt] at hx <;> rfl⟩)
        rw [h4] at this
        rw [this]
        have hval := I.vals m om infm (hall m h1) h2
        rw [h4] at hval
        cases infm <;> simp [Info.val?] at h3 <;> subst h3 <;> exact hval.symm
      · rw [fr_no l.length (Nat.le_refl _) s fun m om infm v h1 h2 h3 h4 => hw ⟨m, om, infm, v, h1, h2, h3, h4⟩]
        refine (I.oth s fun m om infm h1 h2 h3 => ?_).symm
        have hml := I.bound m h1
        have hds : dstOf om = s := by unfold dstOf; rw [h3]; rfl
        cases hx : infm.hs with
        | true => exact hm ((slots_iff hH l.length (Nat.le_refl _) s).2 ⟨m, om, infm, hml, h2, hx, hds⟩)
        | false =>
          cases hy : infm.isSt with
          | true => rw [dst_none hp h2 hy] at h3; cases h3
          | false =>
            have : ∃ v, infm.val? = some v := by cases infm <;> simp [Info.hs, Info.isSt, Info.tag, Tag.isSt] at hx hy <;> simp [Info.val?]
            obtain ⟨v, hv⟩ := this
            exact hw ⟨m, om, infm, v, hml, h2, hv, hds⟩
  have hKe : (stAt l s0 l.length).Kf = (stAt l s0 j).Kf := by
    have := stAt_Kf_same (l := l) (s0 := s0) j (l.length - j) (by have := I.jle; omega) fun m om infm a b c => by
      cases hx : infm.isMut with
      | false => rfl
      | true =>
        have h2 := I.jhi m om infm a c hx
        rw [hall m (by have := I.jle; omega)] at h2; cases h2
    rw [show j + (l.length - j) = l.length by have := I.jle; omega] at this
    exact this.1
  have hperm := O_perm hp hok hO hsg I (Nat.le_refl _) (fun m om infm a _ => ⟨fun _ => (List.getElem?_eq_some_iff.1 a).1, fun h => hall m h⟩) (fun m om obj a _ => ⟨fun _ => (List.getElem?_eq_some_iff.1 a).1, fun h => hall m h⟩)
  have hfacts : ∀ p ∈ (stAt l s0 l.length).H, p.2 (g p.1) σ' := fun p hpm => by
    obtain ⟨m, om, infm, h1, h2, _, h4, h5⟩ := H_of hH l.length (Nat.le_refl _) p hpm
    have := I.vals m om infm (hall m h1) h2
    rw [h4] at this; exact h5 _ _ this
  have hR := hend g σ' I.le hfacts
  rw [hfr] at hR
  refine hR.out w (I.sat.weak fun F h => ?_)
  rw [hKe]
  exact SepIn.perm ((hperm.map _).append_right _) (SepIn.append h)
include hp hok hH hO hE hsg hK in
/-- One operation, whichever comes. -/
theorem step_any {Q' : Exit → Act → World → Prop} {L : Nat → Bool} {g : Us} {w : World} {σ' : PH} {Ol : List (Nat × Obj)} {j : Nat} (I : DInv w0 M σ Kb l s0 L g w σ' Ol j) {i : Nat} {o : Oper} {inf : Info} (hi : l[i]? = some (o, inf)) (hn : L i = false) (he : ∀ e ∈ edgeTo o, L e = true)
    {K' : Act → World → Prop} (hnext : ∀ g' w' σ'' Ol' j', DInv w0 M σ Kb l s0 (more L i) g' w' σ'' Ol' j' → K' (act n g') w') : o.wp P (act n g) w K' Q' := by
  have hil : i < l.length := (List.getElem?_eq_some_iff.1 hi).1
  have facts := H_facts hp hok hH I hi he
  have ob := (hp i o inf hi).2
  have same : ∀ us : Us, (∀ s ∈ (stAt l s0 i).seen o, us s = g s) → execOp (ev n (fill (stAt l s0 i).fr (stAt l s0 i).H us)) o = execOp (ev n g) o := fun us hus =>
    exec_as hok hi (reads_as hp hok hH I hi hn he hus)
  have noSt : (stAt l s0 i).sg = false → inf.isFree = false → ∀ m om infm, l[m]? = some (om, infm) → infm.isSt = true → L m = false := fun hs hf m om infm a b => by
    cases hL : L m with
    | false => rfl
    | true =>
      rcases Nat.lt_trichotomy m i with h | h | h
      · have := (sg_iff hsg i (by omega)).1 hs m om infm h a
        rw [b] at this; cases this
      · subst h; rw [hn] at hL; cases hL
      · have hb := (pair_of hok h hi a).st b hf
        have := clos_listed I.down a (I.down m om (by simp [a]) hL) hb
        rw [hn] at this; cases this
  have hbase : (stAt l s0 i).sg = false → inf.isFree = false → Sat w0 M σ' Kb w := fun hs hf => I.sat.weak fun F h => (I.base (noSt hs hf) g).get (SepIn.tail h)
  have dsome : inf.isSt = false → ∀ v, (act n g).put o.dst v = act n (upd g (dstOf o) v) := fun h v => by rw [dst_some hp hi h, act_put]
  have calls : ∀ (hst : inf.isSt = false) {ρ : Operand → Value} {Rel : Value → World → Prop}, execOp ρ o = execOp (ev n g) o → StepsTo P ρ o w Rel → (∀ v w', Rel v w' → K' (act n (upd g (dstOf o) v)) w') → o.wp P (act n g) w K' Q' := fun hst ρ Rel heq hs hr => by
    unfold Oper.wp
    rw [act_eval]
    rcases hs with ⟨v, w', h1, h2⟩ | ⟨gg, args, h1, h2⟩
    · rw [heq] at h1; rw [h1, Oper.upon_value, dsome hst]; exact hr v w' h2
    · rw [heq] at h1; rw [h1, Oper.upon_enter]
      refine h2.mono ?_
      rintro e w' ⟨v, rfl, h3⟩
      simp only [dsome hst]; exact hr v w' h3
  cases inf with
  | free v =>
    refine calls rfl (same g fun _ _ => rfl) (Rel := fun u w' => u = v ∧ w' = w) (.inl ⟨v, w, ob.2 g w (PH.le_trans I.le I.sat.imm), rfl, rfl⟩) ?_
    rintro _ _ ⟨rfl, rfl⟩
    exact hnext _ _ _ _ _ (step_val hp hok hH hO hE hsg hK I hi hn he rfl (by simp) (PH.le_refl _) I.sat rfl)
  | ex v =>
    refine calls rfl (same g fun _ _ => rfl) (Rel := fun u w' => u = v ∧ w' = w) (.inl ⟨v, w, ob.2.2 g σ' w I.le facts (hbase ob.1 rfl), rfl, rfl⟩) ?_
    rintro _ _ ⟨rfl, rfl⟩
    exact hnext _ _ _ _ _ (step_val hp hok hH hO hE hsg hK I hi hn he rfl (by simp) (PH.le_refl _) I.sat rfl)
  | exc v =>
    refine calls rfl (same g fun _ _ => rfl) (ob.2.2 g σ' w I.le facts (hbase ob.1 rfl)) ?_
    rintro u w' ⟨hb, rfl⟩
    exact hnext _ _ _ _ _ (step_val hp hok hH hO hE hsg hK I hi hn he rfl (by simp) (PH.le_refl _) (I.sat.ext hb) rfl)
  | gr T =>
    refine calls rfl (same g fun _ _ => rfl) (ob.2.2.2 g σ' w I.le facts (hbase ob.1 rfl)) ?_
    rintro u w' ⟨hb, hT⟩
    exact hnext _ _ _ _ _ (step_val hp hok hH hO hE hsg hK I hi hn he rfl (by simp) (grow_le I.sat) (I.sat.grow hb) hT)
  | own obj =>
    refine calls rfl (same g fun _ _ => rfl) (Rel := fun u w' => u = .pointer (some ⟨w.heap.size, 0, none⟩) ∧ w' = w.alloc obj) (.inl ⟨_, _, ob.2.2 g w, rfl, rfl⟩) ?_
    rintro _ _ ⟨rfl, rfl⟩
    exact hnext _ _ _ _ _ (step_own hp hok hH hO hE hsg hK I hi hn he)
  | eff T Kf =>
    obtain ⟨h1, h2, _, hji⟩ := Kf_at hok I hi hn he rfl
    have hseen : ∀ s ∈ (stAt l s0 i).seen o, resE ((stAt l s0 i).seen o ++ (stAt l s0 i).E) g s = g s := fun s hs => resE_mem (by simp [hs])
    have hS : Sat w0 M σ' (groupHP (ownsL Ol g) :: (stAt l s0 i).Kf (resE ((stAt l s0 i).seen o ++ (stAt l s0 i).E) g)) w := by
      rw [h1, stAt_Kf_congr hK j I.jle _ g fun x hx => resE_mem (by rw [← h2] at hx; simp [hx])]
      exact I.sat
    refine calls rfl (same _ hseen) (ob.2.2.2.2 _ σ' w _ I.le (fun p hpm hr => ?_) hS) ?_
    · rw [hseen p.1 (by unfold Stg.seen; rw [List.mem_filter]; exact ⟨hr, by simp only [Stg.slots, List.elem_eq_mem, decide_eq_true_eq]; exact List.mem_map.2 ⟨p, hpm, rfl⟩⟩)]
      exact facts p hpm hr
    · rintro u w' ⟨σ'', hle, hw, hT⟩
      exact hnext _ _ _ _ _ (step_eff hp hok hH hO hE hsg hK I hi hn he hle hw hT)
  | st Kf =>
    obtain ⟨h1, h2, hall, hji⟩ := Kf_at hok I hi hn he rfl
    have hseen : ∀ s ∈ (stAt l s0 i).seen o, resE ((stAt l s0 i).O.map (·.1) ++ ((stAt l s0 i).seen o ++ (stAt l s0 i).E)) g s = g s := fun s hs => resE_mem (by simp [hs])
    have hperm := O_perm hp hok hO hsg I (i := i) (by omega) (fun m om infm a b => ⟨fun hL => (by
        rcases Nat.lt_trichotomy m i with h | h | h
        · exact h
        · subst h; rw [hn] at hL; cases hL
        · have hb := (pair_of hok h hi a).st b rfl
          have := clos_listed I.down a (I.down m om (by simp [a]) hL) hb
          rw [hn] at this; cases this), fun h => hall m om infm h a (by cases infm <;> simp [Info.isSt, Info.tag, Tag.isSt] at b; rfl)⟩)
      (fun m om obj a hs => ⟨fun hL => (by
        rcases Nat.lt_trichotomy m i with h | h | h
        · exact h
        · subst h; rw [hn] at hL; cases hL
        · have := (hp m om _ a).2.1
          have h3 := (sg_iff hsg m (by have := (List.getElem?_eq_some_iff.1 a).1; omega)).1 this i o _ h hi
          cases h3), fun h => clos_listed I.down hi he ((pair_of hok h a hi).st rfl rfl)⟩)
    have hS : Sat w0 M σ' (ownsL (stAt l s0 i).O (resE ((stAt l s0 i).O.map (·.1) ++ ((stAt l s0 i).seen o ++ (stAt l s0 i).E)) g) ++ (stAt l s0 i).Kf (resE ((stAt l s0 i).O.map (·.1) ++ ((stAt l s0 i).seen o ++ (stAt l s0 i).E)) g)) w := by
      rw [h1, stAt_Kf_congr hK j I.jle _ g fun x hx => resE_mem (by rw [← h2] at hx; simp [hx]), ownsL_congr fun p hpm => resE_mem (by simp only [List.mem_append, List.mem_map]; exact .inl ⟨p, hpm, rfl⟩)]
      exact I.sat.weak fun F h => SepIn.perm ((hperm.map _).append_right _) (SepIn.append h)
    obtain ⟨w', hr, hw⟩ := ob.2 _ σ' w I.le (fun p hpm hr => by
      rw [hseen p.1 (by unfold Stg.seen; rw [List.mem_filter]; exact ⟨hr, by simp only [Stg.slots, List.elem_eq_mem, decide_eq_true_eq]; exact List.mem_map.2 ⟨p, hpm, rfl⟩⟩)]
      exact facts p hpm hr) hS
    unfold Oper.wp
    rw [act_eval]
    rw [same _ hseen] at hr
    rw [hr, Oper.upon_skip, dst_none hp hi rfl, act_put_none]
    exact hnext _ _ _ _ _ (step_st hp hok I hi hn he hw)
include hp hend hok hH hO hE hsg hK in
theorem any_order {rl : List Oper} (hrl : rl.length = l.length) (hreal : ∀ i o inf, l[i]? = some (o, inf) → ∃ r, rl[i]? = some r ∧ r.after = o.after ∧
      ∀ L g w σ' Ol j, DInv w0 M σ Kb l s0 L g w σ' Ol j → (∀ e ∈ edgeTo o, L e = true) → ∀ K' Q', o.wp P (act n g) w K' Q' → wpOp P rl.toArray Q' i K' (act n g) w) : ∀ (fuel : Nat) (listed : Array Bool) (g : Us) (w : World) (σ' : PH) (Ol : List (Nat × Obj)) (j : Nat), listed.size = l.length → (listed.toList.filter (!·)).length = fuel →
    DInv w0 M σ Kb l s0 (fun i => listed.getD i false) g w σ' Ol j → wpAny P .any rl.toArray (QN (Run P f R k)) fuel listed (act n g) w := by
  intro fuel
  induction fuel with
  | zero =>
    intro listed g w σ' Ol j hsz hc I
    have hall : ∀ i, i < l.length → listed.getD i false = true := fun i hi => by
      have h1 : listed[i]'(by omega) ∈ listed.toList := by simp
      have h2 := List.length_eq_zero_iff.1 hc
      rw [List.filter_eq_nil_iff] at h2
      have := h2 _ h1
      simp at this
      simp [Array.getD, hsz, hi, this]
    refine ⟨?_, all_done hp hend hok hH hO hsg I hall⟩
    rw [List.eq_nil_iff_forall_not_mem]
    intro i hi
    obtain ⟨h0, o, ho, _⟩ := mem_ready.1 hi
    have hil : i < l.length := by have := (Array.getElem?_eq_some_iff.1 ho).1; rw [← hrl]; simpa using this
    have := hall i hil
    simp [Array.getD, hsz, hil] at this h0
    rw [this] at h0; cases h0
  | succ fuel ih =>
    intro listed g w σ' Ol j hsz hc I
    refine ⟨fun hr => ?_, fun i hi => ?_⟩
    · exfalso
      have hex : ∃ i, i < l.length ∧ listed.getD i false = false := by
        refine Classical.byContradiction fun hno => ?_
        have : listed.toList.filter (!·) = [] := by
          rw [List.filter_eq_nil_iff]
          intro x hx
          obtain ⟨i, hi, rfl⟩ := List.mem_iff_getElem.1 hx
          have hi' : i < l.length := by rw [← hsz]; simpa using hi
          cases hxx : listed.toList[i] with
          | true => simp
          | false => exact absurd ⟨i, hi', by simp at hxx; simp [Array.getD, hsz, hi', hxx]⟩ hno
        rw [this] at hc; simp at hc
      obtain ⟨i, ⟨hi, hin⟩, hmin⟩ : ∃ i, (i < l.length ∧ listed.getD i false = false) ∧ ∀ m, m < i → ¬ (m < l.length ∧ listed.getD m false = false) := by
        obtain ⟨i0, h0⟩ := hex
        clear ih hr I
        induction i0 using Nat.strongRecOn with
        | _ i0 ihh =>
          by_cases h : ∃ m, m < i0 ∧ m < l.length ∧ listed.getD m false = false
          · obtain ⟨m, h1, h2⟩ := h
            exact ihh m h1 h2
          · exact ⟨i0, h0, fun m hm h2 => h ⟨m, hm, h2⟩⟩
      obtain ⟨o, inf, hio⟩ := at_some (l := l) hi
      obtain ⟨r, hr1, hr2, _⟩ := hreal i o inf hio
      have hmem : i ∈ Region.ready .any rl.toArray listed := by
        rw [mem_ready]
        refine ⟨by simp [Array.getD, hsz, hi] at hin ⊢; exact hin, r, by simpa using hr1, fun e hee hb => ?_⟩
        rw [hr2] at hee
        have hle : e.on < i := by
          simp only [drawOk, drawOkT, Bool.and_eq_true] at hok
          have := List.all_eq_true.1 hok.2.1 (o, i) (by rw [List.mem_zipIdx_iff_getElem?]; simp [hio])
          have h2 := List.all_eq_true.1 this e.on (by unfold edgeTo; rw [List.mem_filterMap]; exact ⟨e, by simpa using hee, by simp [hb]⟩)
          simpa using h2
        cases hx : listed.getD e.on false with
        | true => rfl
        | false => exact absurd ⟨by omega, hx⟩ (hmin e.on hle)
      rw [hr] at hmem; simp at hmem
    · obtain ⟨h0, r, ho, hall⟩ := mem_ready.1 hi
      have hil : i < l.length := by have := (Array.getElem?_eq_some_iff.1 ho).1; rw [← hrl]; simpa using this
      obtain ⟨o', inf, hio⟩ := at_some (l := l) hil
      obtain ⟨r', hr1, hr2, hr3⟩ := hreal i o' inf hio
      have hrr : r' = r := by
        have : rl.toArray[i]? = some r' := by simpa using hr1
        rw [ho] at this; simpa using this.symm
      subst hrr
      have hn : listed.getD i false = false := by simp [Array.getD, hsz, hil] at h0 ⊢; exact h0
      have hed : ∀ e ∈ edgeTo o', listed.getD e false = true := fun e hee => by
        unfold edgeTo at hee
        rw [List.mem_filterMap] at hee
        obtain ⟨ed, h1, h2⟩ := hee
        split at h2
        · rename_i hb; simp at h2; subst h2; exact hall ed (by rw [hr2]; simpa using h1) hb
        · cases h2
      refine hr3 _ g w σ' Ol j I hed _ _ (step_any hp hok hH hO hE hsg hK I hio hn hed fun g' w' σ'' Ol' j' I' => ?_)
      refine ih (listed.setIfInBounds i true) g' w' σ'' Ol' j' (by simpa using hsz) ?_ ?_
      · have hlist : (listed.setIfInBounds i true).toList = listed.toList.set i true := by simp
        rw [hlist]
        have hli : i < listed.toList.length := by simp; omega
        have hval : listed.toList[i] = false := by simp [Array.getD, hsz, hil] at hn; simpa using hn
        have e1 : listed.toList = listed.toList.take i ++ false :: listed.toList.drop (i + 1) := by
          have := (List.take_append_drop i listed.toList).symm
          rw [List.drop_eq_getElem_cons hli, hval] at this; exact this
        have e2 : listed.toList.set i true = listed.toList.take i ++ true :: listed.toList.drop (i + 1) := by
          rw [List.set_eq_take_append_cons_drop, if_pos hli]
        rw [e1] at hc
        rw [e2]
        simp only [List.filter_append, List.filter_cons, List.length_append, Bool.not_false, Bool.not_true, if_true, List.length_cons, Bool.false_eq_true, if_false] at hc ⊢
        omega
      · have : (fun x => (listed.setIfInBounds i true).getD x false) = more (fun x => listed.getD x false) i := by
          funext x
          by_cases hx : x = i
          · subst hx; rw [more_at]; simp [Array.getD, hsz, hil]
          · rw [more_ne hx]; exact getD_set_ne false (Ne.symm hx)
        rw [this]; exact I'
end
/-- A region that draws: one walk. -/
theorem RS.drawReal {P : Program} {f : FuncId} {R : Ending → World → Prop} {k : List Item} {n : Nat} {fr : Nat → Value} {w0 : World} {M : Nat → Prop} {σ : PH} {K Kb : List HP} {id : Nat} {l : List (Oper × Info)} {rl : List Oper} (hrl : rl.length = l.length)
    (hreal : (∀ i o inf, l[i]? = some (o, inf) → Ob P n w0 M σ Kb (stAt l ⟨fr, [], [], fun _ => K, [], false⟩ i) o inf) → ∀ i o inf, l[i]? = some (o, inf) → ∃ r, rl[i]? = some r ∧ r.after = o.after ∧
      ∀ L g w σ' Ol j, DInv w0 M σ Kb l ⟨fr, [], [], fun _ => K, [], false⟩ L g w σ' Ol j → (∀ e ∈ edgeTo o, L e = true) → ∀ K' Q', o.wp P (act n g) w K' Q' → wpOp P rl.toArray Q' i K' (act n g) w)
    (hm : P.follows .mixedOrders = true) (hok : drawOk l = true) (hb : Less K Kb) (h : LDp P f R k n w0 M σ Kb l ⟨fr, [], [], fun _ => K, [], false⟩) :
    RS P f R (.code (.region id rl.toArray true) :: k) n fr w0 M σ K := by
  obtain ⟨hp, hend⟩ := Ob_at l _ h
  refine ⟨fun w hw => Run.wp (wp_region_any hm ?_)⟩
  have hsz : rl.toArray.size = l.length := by simpa using hrl
  rw [hsz]
  have h0 : stAt l ⟨fr, [], [], fun _ => K, [], false⟩ 0 = ⟨fr, [], [], fun _ => K, [], false⟩ := by cases l <;> rfl
  have rep : ∀ i, (Array.replicate l.length false).getD i false = false := fun i => by
    simp only [Array.getD_eq_getD_getElem?, Array.getElem?_replicate]; split <;> rfl
  refine any_order hp hend hok rfl rfl rfl rfl (fun _ _ => rfl) hrl (hreal hp) l.length (Array.replicate l.length false) fr w.drew σ [] 0 (by simp) (by simp) ⟨PH.le_refl _, fun j o _ hL => ?_, fun i hL => ?_, by omega, fun i _ _ hi => by omega, fun i _ _ _ _ _ => rep i, ?_, fun _ us => by rw [h0]; exact hb, fun _ => ⟨by simp, fun p => ?_⟩, fun _ => rfl, fun i _ _ hL => ?_, fun s _ => rfl⟩
  · rw [rep] at hL; cases hL
  · rw [rep] at hL; cases hL
  · rw [h0]; exact hw.drew.weak fun F h => SepIn.group (A := []) h
  · constructor
    · intro h; simp at h
    · rintro ⟨i, _, _, hL, _⟩; rw [rep] at hL; cases hL
  · rw [rep] at hL; cases hL
theorem RS.drawAll {P : Program} {f : FuncId} {R : Ending → World → Prop} {k : List Item} {n : Nat} {fr : Nat → Value} {w0 : World} {M : Nat → Prop} {σ : PH} {K Kb : List HP} {id : Nat} {l : List (Oper × Info)}
    (hm : P.follows .mixedOrders = true) (hok : drawOk l = true) (hb : Less K Kb) (h : LDp P f R k n w0 M σ Kb l ⟨fr, [], [], fun _ => K, [], false⟩) :
    RS P f R (.code (.region id (l.map (·.1)).toArray true) :: k) n fr w0 M σ K := by
  refine RS.drawReal (by simp) (fun hp i o inf hio => ⟨o, by simp [hio], rfl, fun L g w σ' Ol j I he K' Q' hw => ?_⟩) hm hok hb h
  have hg := (hp i o inf hio).1
  unfold wpOp
  have hoi : (l.map (·.1)).toArray[i]? = some o := by simp [hio]
  rw [hoi]
  simp only [Region.wanted, hg, if_true]
  exact .inl hw
end Go.JW
