/- The base of the walks: rules, contracts, plain laws, part 2. -/
import Derived.Test.YtealabaiamaojaaGreatDoorQ1
namespace Go.JW

def valOk (inf : Info) (v : Value) (σ' : PH) : Prop :=
  match inf with
  | .free u | .ex u | .exc u => v = u
  | .gr T | .eff T _ => T v σ'
  | .own _ => True
  | .st _ => True
section
variable {P : Program} {f : FuncId} {R : Ending → World → Prop} {k : List Item} {n : Nat} {w0 : World} {M : Nat → Prop} {σ : PH} {Kb : List HP} {l : List (Oper × Info)} {s0 : Stg}
structure DInv (w0 : World) (M : Nat → Prop) (σ : PH) (Kb : List HP) (l : List (Oper × Info)) (s0 : Stg) (L : Nat → Bool) (g : Us) (w : World) (σ' : PH) (Ol : List (Nat × Obj)) (j : Nat) : Prop where
  le : PH.le σ σ'
  down : DownCl (l.map (·.1)) L
  bound : ∀ i, L i = true → i < l.length
  jle : j ≤ l.length
  jlo : ∀ i o inf, i < j → l[i]? = some (o, inf) → inf.isMut = true → L i = true
  jhi : ∀ i o inf, j ≤ i → l[i]? = some (o, inf) → inf.isMut = true → L i = false
  sat : Sat w0 M σ' (groupHP (ownsL Ol g) :: (stAt l s0 j).Kf g) w
  base : (∀ i o inf, l[i]? = some (o, inf) → inf.isSt = true → L i = false) → ∀ us, Less ((stAt l s0 j).Kf us) Kb
  owns1 : (∀ i o inf, l[i]? = some (o, inf) → inf.isSt = true → L i = false) → Ol.Nodup ∧ ∀ p, p ∈ Ol ↔ ∃ i o obj, L i = true ∧ l[i]? = some (o, .own obj) ∧ p = (dstOf o, obj)
  owns2 : ¬ (∀ i o inf, l[i]? = some (o, inf) → inf.isSt = true → L i = false) → Ol = []
  vals : ∀ i o inf, L i = true → l[i]? = some (o, inf) → valOk inf (g (dstOf o)) σ'
  oth : ∀ s, (∀ i o inf, L i = true → l[i]? = some (o, inf) → o.dst = some s → False) → g s = s0.fr s
def Info.mono : Info → Prop
  | .gr T | .eff T _ => MonoT T
  | _ => True
theorem valOk_mono {inf : Info} {v : Value} {σ' σ'' : PH} (h : valOk inf v σ') (hle : PH.le σ' σ'') (hm : inf.mono) : valOk inf v σ'' := by
  cases inf <;> simp only [valOk, Info.mono] at h hm ⊢
  case gr T => exact hm _ _ _ h hle
  case eff T Kf => exact hm _ _ _ h hle
  all_goals exact h

variable (hp : ∀ i o inf, l[i]? = some (o, inf) → Ob P n w0 M σ Kb (stAt l s0 i) o inf) (hend : LDp P f R k n w0 M σ Kb [] (stAt l s0 l.length)) (hok : drawOk l = true)
  (hH : s0.H = []) (hO : s0.O = []) (hE : s0.E = []) (hsg : s0.sg = false) (hK : ∀ us us', s0.Kf us = s0.Kf us')
include hok in
theorem pair_of {i j : Nat} {oi oj : Oper} {fi fj : Info} (hij : i < j) (hi : l[i]? = some (oi, fi)) (hj : l[j]? = some (oj, fj)) : PairOk (((closL (l.map (·.1)) []).getD j 0).testBit i) oi fi.tag oj fj.tag := by
  simp only [drawOk, drawOkT, Bool.and_eq_true] at hok
  have z : ∀ (m : Nat) (o : Oper) (inf : Info), l[m]? = some (o, inf) → ((l.map (·.1)).zip (l.map (·.2.tag)))[m]? = some (o, inf.tag) := fun m o inf h => by
    rw [List.getElem?_zip_eq_some]; simp [h]
  exact pairsOk_spec _ _ _ 0 (fun j => by simp) hok.1.2 i j oi fi.tag oj fj.tag (by omega) hij (z _ _ _ hi) (z _ _ _ hj)
theorem clos_listed {L : Nat → Bool} (hd : DownCl (l.map (·.1)) L) {i j : Nat} {oj : Oper} {fj : Info} (hj : l[j]? = some (oj, fj)) (he : ∀ e ∈ edgeTo oj, L e = true) (hb : ((closL (l.map (·.1)) []).getD j 0).testBit i = true) : L i = true :=
  closL_sound (l.map (·.1)) L hd (l.map (·.1)) [] (fun j => by simp) (fun j o hj => by simp at hj) j oj (by simp [hj]) he i hb
include hp in
theorem dst_some {i : Nat} {o : Oper} {inf : Info} (hi : l[i]? = some (o, inf)) (hs : inf.isSt = false) : o.dst = some (dstOf o) := by
  have := (hp i o inf hi).2
  have h2 : o.dst.isSome = true := by
    cases inf <;> simp only [Info.isSt, Info.tag, Tag.isSt] at hs
    all_goals first | exact this.1 | exact this.2.1 | cases hs
  unfold dstOf
  cases e : o.dst with
  | none => rw [e] at h2; cases h2
  | some d => rfl
include hp in
theorem dst_none {i : Nat} {o : Oper} {inf : Info} (hi : l[i]? = some (o, inf)) (hs : inf.isSt = true) : o.dst = none := by
  have := (hp i o inf hi).2
  cases inf <;> simp only [Info.isSt, Info.tag, Tag.isSt] at hs
  all_goals first | exact this.1 | cases hs
include hp hok in
theorem dst_ne {i j : Nat} {oi oj : Oper} {fi fj : Info} (hij : i ≠ j) (hi : l[i]? = some (oi, fi)) (hj : l[j]? = some (oj, fj)) (hs : fi.isSt = false) (hs' : fj.isSt = false) : dstOf oi ≠ dstOf oj := by
  have ha := dst_some hp hi hs
  have hb := dst_some hp hj hs'
  intro e
  rcases Nat.lt_or_gt_of_ne hij with h | h
  · exact (pair_of hok h hi hj).ne _ ha (by rw [hb, e])
  · exact (pair_of hok h hj hi).ne _ hb (by rw [ha, ← e])
include hp hok hH in
theorem reads_as {L : Nat → Bool} {g us : Us} {w : World} {σ' : PH} {Ol : List (Nat × Obj)} {j : Nat} (I : DInv w0 M σ Kb l s0 L g w σ' Ol j) {i : Nat} {o : Oper} {inf : Info} (hi : l[i]? = some (o, inf)) (hn : L i = false) (he : ∀ e ∈ edgeTo o, L e = true)
    (hus : ∀ s ∈ (stAt l s0 i).seen o, us s = g s) : ∀ s ∈ readsTmp o, fill (stAt l s0 i).fr (stAt l s0 i).H us s = g s := by
  intro s hs
  have hil : i < l.length := (List.getElem?_eq_some_iff.1 hi).1
  by_cases hm : s ∈ (stAt l s0 i).slots
  · rw [fill_mem hm]
    exact hus s (by unfold Stg.seen; rw [List.mem_filter]; exact ⟨hs, by simpa using hm⟩)
  · rw [fill_not hm]
    by_cases hw : ∃ m om infm, m < i ∧ l[m]? = some (om, infm) ∧ om.dst = some s
    · obtain ⟨m, om, infm, h1, h2, h3⟩ := hw
      have hLm : L m = true := clos_listed I.down hi he ((pair_of hok h1 h2 hi).reads s h3 hs)
      have hst : infm.isSt = false := by
        cases hx : infm.isSt with
        | false => rfl
        | true => rw [dst_none hp h2 hx] at h3; cases h3
      have hds : dstOf om = s := by unfold dstOf; rw [h3]; rfl
      have hv : ∃ v, infm.val? = some v := by
        have : infm.hs = false := by
          cases hx : infm.hs with
          | false => rfl
          | true => exact absurd ((slots_iff hH i (by omega) s).2 ⟨m, om, infm, h1, h2, hx, hds⟩) hm
        cases infm <;> simp [Info.hs, Info.isSt, Info.tag, Tag.isSt] at this hst <;> simp [Info.val?]
      obtain ⟨v, hv⟩ := hv
      have := fr_yes (s0 := s0) i (by omega) m om infm v h1 h2 hv (fun k' o' inf' hk' hkp => by
        cases hx : inf'.isSt with
        | false => exact .inl (dst_ne hp hok (by omega) hkp h2 hx hst)
        | true => exact .inr ⟨dst_none hp hkp hx, by cases inf' <;> simp [Info.isSt, Info.tag, Tag.isSt] at hx <;> rfl⟩)
      rw [hds] at this
      rw [this]
      have hval := I.vals m om infm hLm h2
      rw [hds] at hval
      cases infm <;> simp [Info.val?] at hv <;> subst hv <;> exact hval.symm
    · rw [fr_no i (by omega) s fun m om infm v h1 h2 h3 h4 => hw ⟨m, om, infm, h1, h2, by
        have := dst_some hp h2 (by cases infm <;> simp [Info.val?] at h3 <;> rfl)
        rw [this, h4]⟩]
      refine (I.oth s fun m om infm h1 h2 h3 => ?_).symm
      have hml := I.bound m h1
      rcases Nat.lt_trichotomy m i with h | h | h
      · exact hw ⟨m, om, infm, h, h2, h3⟩
      · subst h; rw [hn] at h1; cases h1
      · have hb := (pair_of hok h hi h2).anti s h3 hs
        have : L i = true := clos_listed I.down h2 (fun e hee => I.down m om (by simp [h2]) h1 e hee) hb
        rw [hn] at this; cases this
include hok in
theorem exec_as {g : Us} {i : Nat} {o : Oper} {inf : Info} (hi : l[i]? = some (o, inf)) {fr' : Us} (h : ∀ s ∈ readsTmp o, fr' s = g s) : execOp (ev n fr') o = execOp (ev n g) o := by
  have hsel : ∀ cs b, o.op ≠ .select cs b := by
    simp only [drawOk, drawOkT, Bool.and_eq_true] at hok
    exact fun cs b => Region.noSelect_spec hok.1.1 i o cs b (by simp [hi])
  refine execOp_congr o hsel fun x hx => ?_
  cases x with
  | tmp s =>
    have : s ∈ readsTmp o := by
      unfold readsTmp
      rw [List.mem_filterMap]
      exact ⟨.tmp s, by simpa using hx, rfl⟩
    simp only [ev, h s this]
  | _ => rfl
theorem H_of (hH : s0.H = []) : ∀ i, i ≤ l.length → ∀ p, p ∈ (stAt l s0 i).H → ∃ m om infm, m < i ∧ l[m]? = some (om, infm) ∧ infm.hs = true ∧ dstOf om = p.1 ∧ ∀ v σ', valOk infm v σ' → p.2 v σ' := by
  intro i
  induction i with
  | zero => intro _ p h; have : stAt l s0 0 = s0 := by cases l <;> rfl
            rw [this, hH] at h; simp at h
  | succ i ih =>
    intro hi p h
    obtain ⟨o, inf, hpp⟩ := at_some (l := l) (show i < l.length by omega)
    rw [stAt_succ l s0 i _ _ hpp] at h
    have old : p ∈ (stAt l s0 i).H → ∃ m om infm, m < i + 1 ∧ l[m]? = some (om, infm) ∧ infm.hs = true ∧ dstOf om = p.1 ∧ ∀ v σ', valOk infm v σ' → p.2 v σ' := fun h => by
      obtain ⟨m, om, infm, a, b⟩ := ih (by omega) p h; exact ⟨m, om, infm, by omega, b⟩
    cases inf <;> simp only [Stg.next, List.mem_cons] at h
    case gr T => rcases h with rfl | h; exact ⟨i, o, _, by omega, hpp, rfl, rfl, fun _ _ h => h⟩; exact old h
    case own T => rcases h with rfl | h; exact ⟨i, o, _, by omega, hpp, rfl, rfl, fun _ _ h => h⟩; exact old h
    case eff T Kf => rcases h with rfl | h; exact ⟨i, o, _, by omega, hpp, rfl, rfl, fun _ _ h => h⟩; exact old h
    all_goals exact old h
include hp hok hH in
theorem H_facts {L : Nat → Bool} {g : Us} {w : World} {σ' : PH} {Ol : List (Nat × Obj)} {j : Nat} (I : DInv w0 M σ Kb l s0 L g w σ' Ol j) {i : Nat} {o : Oper} {inf : Info} (hi : l[i]? = some (o, inf)) (he : ∀ e ∈ edgeTo o, L e = true) :
    ∀ p ∈ (stAt l s0 i).H, p.1 ∈ readsTmp o → p.2 (g p.1) σ' := by
  intro p hpm hr
  have hil : i < l.length := (List.getElem?_eq_some_iff.1 hi).1
  obtain ⟨m, om, infm, h1, h2, h3, h4, h5⟩ := H_of hH i (by omega) p hpm
  have hd := dst_some hp h2 (by cases infm <;> simp [Info.hs] at h3 <;> rfl)
  have hL := clos_listed I.down hi he ((pair_of hok h1 h2 hi).reads p.1 (by rw [hd, h4]) hr)
  have := I.vals m om infm hL h2
  rw [h4] at this
  exact h5 _ _ this
include hp hok hH hO hE hsg in
theorem E_listed {L : Nat → Bool} (hd : DownCl (l.map (·.1)) L) : ∀ i, i ≤ l.length → (∀ m om infm, m < i → l[m]? = some (om, infm) → infm.isMut = true → L m = true) → ∀ x ∈ (stAt l s0 i).E, ∃ m om infm, m < i ∧ L m = true ∧ l[m]? = some (om, infm) ∧ infm.hs = true ∧ dstOf om = x := by
  intro i
  induction i with
  | zero => intro _ _ x h; have : stAt l s0 0 = s0 := by cases l <;> rfl
            rw [this, hE] at h; simp at h
  | succ i ih =>
    intro hi hm x h
    obtain ⟨o, inf, hpp⟩ := at_some (l := l) (show i < l.length by omega)
    rw [stAt_succ l s0 i _ _ hpp] at h
    have old : x ∈ (stAt l s0 i).E → ∃ m om infm, m < i + 1 ∧ L m = true ∧ l[m]? = some (om, infm) ∧ infm.hs = true ∧ dstOf om = x := fun h => by
      obtain ⟨m, om, infm, a, b⟩ := ih (by omega) (fun m om infm a b c => hm m om infm (by omega) b c) x h; exact ⟨m, om, infm, by omega, b⟩
    have hsl : x ∈ (stAt l s0 i).slots → ∃ m om infm, m < i ∧ l[m]? = some (om, infm) ∧ infm.hs = true ∧ dstOf om = x := fun h => (slots_iff hH i (by omega) x).1 h
    have seenL : L i = true → x ∈ (stAt l s0 i).seen o → ∃ m om infm, m < i + 1 ∧ L m = true ∧ l[m]? = some (om, infm) ∧ infm.hs = true ∧ dstOf om = x := fun hLi h => by
      unfold Stg.seen at h
      rw [List.mem_filter] at h
      obtain ⟨m, om, infm, a, b, c, d⟩ := hsl (by simpa using h.2)
      have hdd := dst_some hp b (by cases infm <;> simp [Info.hs] at c <;> rfl)
      exact ⟨m, om, infm, by omega, clos_listed hd hpp (hd i o (by simp [hpp]) hLi) ((pair_of hok a b hpp).reads x (by rw [hdd, d]) h.1), b, c, d⟩
    cases inf <;> simp only [Stg.next] at h
    case eff T Kf =>
      have hLi := hm i o _ (by omega) hpp rfl
      simp only [List.mem_cons, List.mem_append] at h
      rcases h with rfl | h | h
      · exact ⟨i, o, _, by omega, hLi, hpp, rfl, rfl⟩
      · exact seenL hLi h
      · exact old h
    case st Kf =>
      have hLi := hm i o _ (by omega) hpp rfl
      simp only [List.mem_append] at h
      rcases h with h | h | h
      · rw [List.mem_map] at h
        obtain ⟨q, hq, rfl⟩ := h
        have hof := own_iff (l := l) hO hsg i (by omega)
        have hsgi : (stAt l s0 i).sg = false := by
          cases hx : (stAt l s0 i).sg with
          | false => rfl
          | true => rw [hof.1 hx (fun m om infm hml hlm hown => by
              have := (hp m om infm hlm).2
              cases infm <;> simp at hown
              exact this.1)] at hq; simp at hq
        obtain ⟨m, om, obj, a, b, c⟩ := (hof.2 hsgi q).1 hq
        exact ⟨m, om, _, by omega, clos_listed hd hpp (hd i o (by simp [hpp]) hLi) ((pair_of hok a b hpp).st rfl rfl), b, rfl, by rw [c]⟩
      · exact seenL hLi h
      · exact old h
    all_goals exact old h

def more (L : Nat → Bool) (i : Nat) : Nat → Bool := fun x => bif Nat.beq x i then true else L x
theorem more_at {L : Nat → Bool} {i : Nat} : more L i i = true := by simp [more]
theorem more_of {L : Nat → Bool} {i x : Nat} (h : L x = true) : more L i x = true := by simp [more, h]
theorem more_ne {L : Nat → Bool} {i x : Nat} (h : x ≠ i) : more L i x = L x := by
  have : Nat.beq x i = false := by rw [Bool.eq_false_iff]; intro hb; exact h (Nat.eq_of_beq_eq_true hb)
  simp [more, this]
theorem more_down {L : Nat → Bool} {i : Nat} {o : Oper} {inf : Info} (hd : DownCl (l.map (·.1)) L) (hi : l[i]? = some (o, inf)) (he : ∀ e ∈ edgeTo o, L e = true) : DownCl (l.map (·.1)) (more L i) := by
  intro j oj hj hL e hee
  by_cases hji : j = i
  · subst hji
    simp [hi] at hj; subst hj
    exact more_of (he e hee)
  · rw [more_ne hji] at hL
    exact more_of (hd j oj hj hL e hee)
include hp in
theorem mono_of {i : Nat} {o : Oper} {inf : Info} (hi : l[i]? = some (o, inf)) : inf.mono := by
  have := (hp i o inf hi).2
  cases inf <;> first | trivial | exact this.2.2.1
include hp hok in
theorem vals_step {L : Nat → Bool} {g : Us} {σ' σ'' : PH} (hv : ∀ i o inf, L i = true → l[i]? = some (o, inf) → valOk inf (g (dstOf o)) σ') (hle : PH.le σ' σ'') {i : Nat} {o : Oper} {inf : Info} (hi : l[i]? = some (o, inf)) (hst : inf.isSt = false) (hn : L i = false) {v : Value} (hval : valOk inf v σ'') :
    ∀ m om infm, more L i m = true → l[m]? = some (om, infm) → valOk infm (upd g (dstOf o) v (dstOf om)) σ'' := by
  intro m om infm hL hm
  by_cases hmi : m = i
  · subst hmi
    rw [hi] at hm; simp at hm; obtain ⟨rfl, rfl⟩ := hm
    rw [upd_eq]; exact hval
  · rw [more_ne hmi] at hL
    cases hx : infm.isSt with
    | true => cases infm <;> simp [Info.isSt, Info.tag, Tag.isSt] at hx; trivial
    | false =>
      rw [upd_ne (dst_ne hp hok hmi hm hi hx hst)]
      exact valOk_mono (hv m om infm hL hm) hle (mono_of hp hm)
include hp in
theorem oth_step {L : Nat → Bool} {g : Us} (ho : ∀ s, (∀ i o inf, L i = true → l[i]? = some (o, inf) → o.dst = some s → False) → g s = s0.fr s) {i : Nat} {o : Oper} {inf : Info} (hi : l[i]? = some (o, inf)) (hst : inf.isSt = false) {v : Value} :
    ∀ s, (∀ m om infm, more L i m = true → l[m]? = some (om, infm) → om.dst = some s → False) → upd g (dstOf o) v s = s0.fr s := by
  intro s h
  have hne : s ≠ dstOf o := fun e => h i o inf more_at hi (by rw [dst_some hp hi hst, e])
  rw [upd_ne hne]
  exact ho s fun m om infm a b c => h m om infm (more_of a) b c
include hp hok hH hO hE hsg hK in
theorem K_step {L : Nat → Bool} {g : Us} {w : World} {σ' : PH} {Ol : List (Nat × Obj)} {j : Nat} (I : DInv w0 M σ Kb l s0 L g w σ' Ol j) {i : Nat} {o : Oper} {inf : Info} (hi : l[i]? = some (o, inf)) (hst : inf.isSt = false) (hn : L i = false) (v : Value) :
    (stAt l s0 j).Kf (upd g (dstOf o) v) = (stAt l s0 j).Kf g ∧ ownsL Ol (upd g (dstOf o) v) = ownsL Ol g := by
  constructor
  · refine stAt_Kf_congr hK j I.jle _ _ fun x hx => upd_ne fun e => ?_
    obtain ⟨m, om, infm, _, h2, h3, h4, h5⟩ := E_listed hp hok hH hO hE hsg I.down j I.jle I.jlo x hx
    have hne : m ≠ i := fun e => by subst e; rw [hn] at h2; cases h2
    exact dst_ne hp hok hne h3 hi (by cases infm <;> simp [Info.hs] at h4 <;> rfl) hst (h5.trans e)
  · refine ownsL_congr fun p hpm => upd_ne fun e => ?_
    by_cases hs : ∀ i o inf, l[i]? = some (o, inf) → inf.isSt = true → L i = false
    · obtain ⟨m, om, obj, h1, h2, h3⟩ := ((I.owns1 hs).2 p).1 hpm
      have hne : m ≠ i := fun e => by subst e; rw [hn] at h1; cases h1
      exact dst_ne hp hok hne h2 hi rfl hst (by rw [← e, h3])
    · rw [I.owns2 hs] at hpm; simp at hpm
include hp hok hH hO hE hsg hK in
theorem step_val {L : Nat → Bool} {g : Us} {w w' : World} {σ' σ'' : PH} {Ol : List (Nat × Obj)} {j : Nat} (I : DInv w0 M σ Kb l s0 L g w σ' Ol j) {i : Nat} {o : Oper} {inf : Info} (hi : l[i]? = some (o, inf)) (hn : L i = false) (he : ∀ e ∈ edgeTo o, L e = true)
    (hm : inf.isMut = false) (hno : ¬ inf matches .own _) {v : Value} (hle : PH.le σ' σ'') (hw : Sat w0 M σ'' (groupHP (ownsL Ol g) :: (stAt l s0 j).Kf g) w') (hval : valOk inf v σ'') :
    DInv w0 M σ Kb l s0 (more L i) (upd g (dstOf o) v) w' σ'' Ol j := by
  have hst : inf.isSt = false := by cases inf <;> simp [Info.isMut, Info.tag, Tag.isMut] at hm <;> rfl
  have hil : i < l.length := (List.getElem?_eq_some_iff.1 hi).1
  obtain ⟨hk1, hk2⟩ := K_step hp hok hH hO hE hsg hK I hi hst hn v
  have stEq : (∀ m om infm, l[m]? = some (om, infm) → infm.isSt = true → more L i m = false) → ∀ m om infm, l[m]? = some (om, infm) → infm.isSt = true → L m = false := fun h m om infm a b => by
    have := h m om infm a b
    by_cases hmi : m = i
    · subst hmi; rw [hi] at a; simp at a; obtain ⟨_, rfl⟩ := a; rw [hst] at b; cases b
    · rwa [more_ne hmi] at this
  have stEq' : (∀ m om infm, l[m]? = some (om, infm) → infm.isSt = true → L m = false) → ∀ m om infm, l[m]? = some (om, infm) → infm.isSt = true → more L i m = false := fun h m om infm a b => by
    by_cases hmi : m = i
    · subst hmi; rw [hi] at a; simp at a; obtain ⟨_, rfl⟩ := a; rw [hst] at b; cases b
    · rw [more_ne hmi]; exact h m om infm a b
  refine ⟨PH.le_trans I.le hle, more_down I.down hi he, fun m hm => ?_, I.jle, fun m om infm a b c => more_of (I.jlo m om infm a b c), fun m om infm a b c => ?_, by rw [hk1, hk2]; exact hw, fun h => I.base (stEq h), fun h => ?_, fun h => I.owns2 fun h' => h (stEq' h'), vals_step hp hok I.vals hle hi hst hn hval, oth_step hp I.oth hi hst⟩
  · by_cases hmi : m = i
    · omega
    · rw [more_ne hmi] at hm; exact I.bound m hm
  · have hmi : m ≠ i := fun e => by subst e; rw [hi] at b; simp at b; obtain ⟨_, rfl⟩ := b; rw [hm] at c; cases c
    rw [more_ne hmi]; exact I.jhi m om infm a b c
  · obtain ⟨h1, h2⟩ := I.owns1 (stEq h)
    refine ⟨h1, fun p => (h2 p).trans ?_⟩
    constructor
    · rintro ⟨m, om, obj, a, b, c⟩; exact ⟨m, om, obj, more_of a, b, c⟩
    · rintro ⟨m, om, obj, a, b, c⟩
      have hmi : m ≠ i := fun e => by subst e; rw [hi] at b; simp at b; obtain ⟨_, rfl⟩ := b; exact hno rfl
      rw [more_ne hmi] at a
      exact ⟨m, om, obj, a, b, c⟩
include hp hok hH hO hE hsg hK in
theorem step_own {L : Nat → Bool} {g : Us} {w : World} {σ' : PH} {Ol : List (Nat × Obj)} {j : Nat} (I : DInv w0 M σ Kb l s0 L g w σ' Ol j) {i : Nat} {o : Oper} {obj : Obj} (hi : l[i]? = some (o, .own obj)) (hn : L i = false) (he : ∀ e ∈ edgeTo o, L e = true) :
    DInv w0 M σ Kb l s0 (more L i) (upd g (dstOf o) (.pointer (some ⟨w.heap.size, 0, none⟩))) (w.alloc obj) σ' ((dstOf o, obj) :: Ol) j := by
  have hil : i < l.length := (List.getElem?_eq_some_iff.1 hi).1
  obtain ⟨hk1, hk2⟩ := K_step hp hok hH hO hE hsg hK I hi rfl hn (.pointer (some ⟨w.heap.size, 0, none⟩))
  have hsgi : (stAt l s0 i).sg = false := (hp i o _ hi).2.1
  have noSt : ∀ m om infm, l[m]? = some (om, infm) → infm.isSt = true → L m = false := fun m om infm a b => by
    cases hL : L m with
    | false => rfl
    | true =>
      rcases Nat.lt_trichotomy m i with h | h | h
      · have := (sg_iff hsg i (by omega)).1 hsgi m om infm h a
        rw [b] at this; cases this
      · subst h; rw [hi] at a; simp at a; obtain ⟨_, rfl⟩ := a; cases b
      · have hb := (pair_of hok h hi a).st b rfl
        have := clos_listed I.down a (I.down m om (by simp [a]) hL) hb
        rw [hn] at this; cases this
  have noSt' : ∀ m om infm, l[m]? = some (om, infm) → infm.isSt = true → more L i m = false := fun m om infm a b => by
    by_cases hmi : m = i
    · subst hmi; rw [hi] at a; simp at a; obtain ⟨_, rfl⟩ := a; cases b
    · rw [more_ne hmi]; exact noSt m om infm a b
  refine ⟨I.le, more_down I.down hi he, fun m hm => ?_, I.jle, fun m om infm a b c => more_of (I.jlo m om infm a b c), fun m om infm a b c => ?_, ?_, fun _ => I.base noSt, fun _ => ?_, fun h => absurd noSt' h, vals_step hp hok I.vals (PH.le_refl _) hi rfl hn trivial, oth_step hp I.oth hi rfl⟩
  · by_cases hmi : m = i
    · omega
    · rw [more_ne hmi] at hm; exact I.bound m hm
  · have hmi : m ≠ i := fun e => by subst e; rw [hi] at b; simp at b; obtain ⟨_, rfl⟩ := b; cases c
    rw [more_ne hmi]; exact I.jhi m om infm a b c
  · rw [hk1]
    refine (I.sat.alloc obj).weak fun F h => ?_
    obtain ⟨F1, ⟨h1, h2⟩, h3, h4⟩ := h
    refine SepIn.group (A := ownsL ((dstOf o, obj) :: Ol) _) ?_
    refine ⟨F1, ⟨_, upd_eq _ _ _, h1, h2⟩, h3, ?_⟩
    have := SepIn.append h4
    rw [← hk2] at this
    exact this
  · obtain ⟨h1, h2⟩ := I.owns1 noSt
    have key : ∀ p, p ∈ (dstOf o, obj) :: Ol ↔ ∃ m om obj', more L i m = true ∧ l[m]? = some (om, .own obj') ∧ p = (dstOf om, obj') := by
      intro p
      rw [List.mem_cons, h2 p]
      constructor
      · rintro (rfl | ⟨m, om, obj', a, b, c⟩)
        · exact ⟨i, o, obj, more_at, hi, rfl⟩
        · exact ⟨m, om, obj', more_of a, b, c⟩
      · rintro ⟨m, om, obj', a, b, c⟩
        by_cases hmi : m = i
        · subst hmi; rw [hi] at b; simp at b; obtain ⟨rfl, rfl⟩ := b; exact .inl c
        · rw [more_ne hmi] at a; exact .inr ⟨m, om, obj', a, b, c⟩
    refine ⟨List.nodup_cons.2 ⟨fun hm => ?_, h1⟩, key⟩
    obtain ⟨m, om, obj', a, b, c⟩ := (h2 _).1 hm
    have hmi : m ≠ i := fun e => by subst e; rw [hn] at a; cases a
    exact dst_ne hp hok hmi b hi rfl rfl (by have := congrArg Prod.fst c; exact this.symm)
include hok in
theorem Kf_at {L : Nat → Bool} {g : Us} {w : World} {σ' : PH} {Ol : List (Nat × Obj)} {j : Nat} (I : DInv w0 M σ Kb l s0 L g w σ' Ol j) {i : Nat} {o : Oper} {inf : Info} (hi : l[i]? = some (o, inf)) (hn : L i = false) (he : ∀ e ∈ edgeTo o, L e = true) (hm : inf.isMut = true) :
    (stAt l s0 i).Kf = (stAt l s0 j).Kf ∧ (stAt l s0 i).E = (stAt l s0 j).E ∧ (∀ m om infm, m < i → l[m]? = some (om, infm) → infm.isMut = true → L m = true) ∧ j ≤ i := by
  have hil : i < l.length := (List.getElem?_eq_some_iff.1 hi).1
  have hji : j ≤ i := by
    rcases Nat.lt_or_ge i j with h | h
    · have := I.jlo i o inf h hi hm; rw [hn] at this; cases this
    · exact h
  have hall : ∀ m om infm, m < i → l[m]? = some (om, infm) → infm.isMut = true → L m = true := fun m om infm a b c => clos_listed I.down hi he ((pair_of hok a b hi).chain hm c)
  have := stAt_Kf_same (l := l) (s0 := s0) j (i - j) (by omega) fun m om infm a b c => by
    cases hx : infm.isMut with
    | false => rfl
    | true =>
      have h1 := hall m om infm (by omega) c hx
      have h2 := I.jhi m om infm a c hx
      rw [h2] at h1; cases h1
  rw [show j + (i - j) = i by omega] at this
  exact ⟨this.1, this.2, hall, hji⟩
include hp hok hH hO hE hsg hK in
theorem step_eff {L : Nat → Bool} {g : Us} {w w' : World} {σ' σ'' : PH} {Ol : List (Nat × Obj)} {j : Nat} (I : DInv w0 M σ Kb l s0 L g w σ' Ol j) {i : Nat} {o : Oper} {T : Value → PH → Prop} {Kf : Us → List HP} (hi : l[i]? = some (o, .eff T Kf)) (hn : L i = false) (he : ∀ e ∈ edgeTo o, L e = true)
    {u : Value} (hle : PH.le σ' σ'') (hw : Sat w0 M σ'' (groupHP (ownsL Ol g) :: Kf (upd (resE ((stAt l s0 i).seen o ++ (stAt l s0 i).E) g) (dstOf o) u)) w') (hval : T u σ'') :
    DInv w0 M σ Kb l s0 (more L i) (upd g (dstOf o) u) w' σ'' Ol (i + 1) := by
  have hil : i < l.length := (List.getElem?_eq_some_iff.1 hi).1
  obtain ⟨hk1, hk2⟩ := K_step hp hok hH hO hE hsg hK I hi rfl hn u
  obtain ⟨_, _, hall, hji⟩ := Kf_at hok I hi hn he rfl
  have hsgi : (stAt l s0 i).sg = false := (hp i o _ hi).2.1
  have hbase := (hp i o _ hi).2.2.2.2.1
  have stEq : (∀ m om infm, l[m]? = some (om, infm) → infm.isSt = true → more L i m = false) ↔ ∀ m om infm, l[m]? = some (om, infm) → infm.isSt = true → L m = false := by
    constructor
    · intro h m om infm a b
      have := h m om infm a b
      by_cases hmi : m = i
      · subst hmi; exact hn
      · rwa [more_ne hmi] at this
    · intro h m om infm a b
      by_cases hmi : m = i
      · subst hmi; rw [hi] at a; simp at a; obtain ⟨_, rfl⟩ := a; cases b
      · rw [more_ne hmi]; exact h m om infm a b
  have hKf : (stAt l s0 (i + 1)).Kf (upd g (dstOf o) u) = Kf (upd (resE ((stAt l s0 i).seen o ++ (stAt l s0 i).E) g) (dstOf o) u) := by
    rw [stAt_succ l s0 i _ _ hi]
    simp only [Stg.next]
    congr 1
    funext x
    by_cases hx : x = dstOf o
    · subst hx; rw [resE_mem (by simp), upd_eq, upd_eq]
    · rw [upd_ne hx]
      by_cases hm : x ∈ (stAt l s0 i).seen o ++ (stAt l s0 i).E
      · rw [resE_mem (by simp only [List.mem_cons]; exact .inr hm), upd_ne hx, resE_mem hm]
      · simp only [resE]
        rw [show (List.elem x (dstOf o :: ((stAt l s0 i).seen o ++ (stAt l s0 i).E))) = false by rw [Bool.eq_false_iff]; intro h; simp only [List.elem_eq_mem, decide_eq_true_eq, List.mem_cons] at h; exact h.elim hx hm,
          show (List.elem x ((stAt l s0 i).seen o ++ (stAt l s0 i).E)) = false by rw [Bool.eq_false_iff]; intro h; simp only [List.elem_eq_mem, decide_eq_true_eq] at h; exact hm h]
        rfl
  refine ⟨PH.le_trans I.le hle, more_down I.down hi he, fun m hm => ?_, by omega, fun m om infm a b c => ?_, fun m om infm a b c => ?_, by rw [hKf, hk2]; exact hw, fun _ us => ?_, fun h => ?_, fun h => I.owns2 fun h' => h (stEq.2 h'), vals_step hp hok I.vals hle hi rfl hn hval, oth_step hp I.oth hi rfl⟩
  · by_cases hmi : m = i
    · omega
    · rw [more_ne hmi] at hm; exact I.bound m hm
  · by_cases hmi : m = i
    · subst hmi; exact more_at
    · exact more_of (hall m om infm (by omega) b c)
  · rw [more_ne (by omega)]; exact I.jhi m om infm (by omega) b c
  · rw [stAt_succ l s0 i _ _ hi]; exact hbase _
  · obtain ⟨h1, h2⟩ := I.owns1 (stEq.1 h)
    refine ⟨h1, fun p => (h2 p).trans ?_⟩
    constructor
    · rintro ⟨m, om, obj, a, b, c⟩; exact ⟨m, om, obj, more_of a, b, c⟩
    · rintro ⟨m, om, obj, a, b, c⟩
      have hmi : m ≠ i := fun e => by subst e; rw [hi] at b; simp at b
      rw [more_ne hmi] at a
      exact ⟨m, om, obj, a, b, c⟩
include hp hok hO hsg in
theorem O_nodup : ∀ i, i ≤ l.length → (stAt l s0 i).sg = false → (stAt l s0 i).O.Nodup := by
  intro i
  induction i with
  | zero => intro _ _; have : stAt l s0 0 = s0 := by cases l <;> rfl
            rw [this, hO]; simp
  | succ i ih =>
    intro hi hs
    obtain ⟨o, inf, hpp⟩ := at_some (l := l) (show i < l.length by omega)
    have hsi : (stAt l s0 i).sg = false := (sg_iff hsg i (by omega)).2 fun m om infm a b => (sg_iff hsg (i + 1) hi).1 hs m om infm (by omega) b
    have base := ih (by omega) hsi
    rw [stAt_succ l s0 i _ _ hpp] at hs ⊢
    cases inf <;> simp only [Stg.next] at hs ⊢
    case own obj =>
      refine List.nodup_cons.2 ⟨fun h => ?_, base⟩
      obtain ⟨m, om, obj', a, b, c⟩ := ((own_iff hO hsg i (by omega)).2 hsi _).1 h
      exact dst_ne hp hok (by omega) b hpp rfl rfl (by have := congrArg Prod.fst c; exact this.symm)
    case st Kf => cases hs
    all_goals exact base
include hp hok hO hsg in
theorem O_perm {L : Nat → Bool} {g : Us} {w : World} {σ' : PH} {Ol : List (Nat × Obj)} {j : Nat} (I : DInv w0 M σ Kb l s0 L g w σ' Ol j) {i : Nat} (hil : i ≤ l.length)
    (hst : ∀ m om infm, l[m]? = some (om, infm) → infm.isSt = true → (L m = true ↔ m < i)) (how : ∀ m om obj, l[m]? = some (om, .own obj) → (stAt l s0 i).sg = false → (L m = true ↔ m < i)) : Ol.Perm (stAt l s0 i).O := by
  cases hs : (stAt l s0 i).sg with
  | false =>
    have noSt : ∀ m om infm, l[m]? = some (om, infm) → infm.isSt = true → L m = false := fun m om infm a b => by
      cases hL : L m with
      | false => rfl
      | true =>
        have := (sg_iff hsg i hil).1 hs m om infm ((hst m om infm a b).1 hL) a
        rw [b] at this; cases this
    obtain ⟨h1, h2⟩ := I.owns1 noSt
    rw [List.perm_ext_iff_of_nodup h1 (O_nodup hp hok hO hsg i hil hs)]
    intro p
    rw [h2 p, (own_iff hO hsg i hil).2 hs p]
    constructor
    · rintro ⟨m, om, obj, a, b, c⟩; exact ⟨m, om, obj, (how m om obj b hs).1 a, b, c⟩
    · rintro ⟨m, om, obj, a, b, c⟩; exact ⟨m, om, obj, (how m om obj b hs).2 a, b, c⟩
  | true =>
    have hex : ¬ ∀ m om infm, l[m]? = some (om, infm) → infm.isSt = true → L m = false := fun h => by
      have : (stAt l s0 i).sg = false := (sg_iff hsg i hil).2 fun m om infm a b => by
        cases hx : infm.isSt with
        | false => rfl
        | true =>
          have h1 := h m om infm b hx
          rw [(hst m om infm b hx).2 a] at h1; cases h1
      rw [hs] at this; cases this
    rw [I.owns2 hex, (own_iff hO hsg i hil).1 hs fun m om infm hml hlm hown => by
      have := (hp m om infm hlm).2
      cases infm <;> simp at hown
      exact this.1]
include hp hok in
theorem step_st {L : Nat → Bool} {g : Us} {w w' : World} {σ' : PH} {Ol : List (Nat × Obj)} {j : Nat} (I : DInv w0 M σ Kb l s0 L g w σ' Ol j) {i : Nat} {o : Oper} {Kf : Us → List HP} (hi : l[i]? = some (o, .st Kf)) (hn : L i = false) (he : ∀ e ∈ edgeTo o, L e = true)
    (hw : Sat w0 M σ' (Kf (resE ((stAt l s0 i).O.map (·.1) ++ ((stAt l s0 i).seen o ++ (stAt l s0 i).E)) g)) w') :
    DInv w0 M σ Kb l s0 (more L i) g w' σ' [] (i + 1) := by
  have hil : i < l.length := (List.getElem?_eq_some_iff.1 hi).1
  obtain ⟨_, _, hall, hji⟩ := Kf_at hok I hi hn he rfl
  have hdn := dst_none hp hi rfl
  refine ⟨I.le, more_down I.down hi he, fun m hm => ?_, by omega, fun m om infm a b c => ?_, fun m om infm a b c => ?_, ?_, fun h => ?_, fun h => ?_, fun _ => rfl, fun m om infm a b => ?_, fun s h => I.oth s fun m om infm a b c => h m om infm (more_of a) b c⟩
  · by_cases hmi : m = i
    · omega
    · rw [more_ne hmi] at hm; exact I.bound m hm
  · by_cases hmi : m = i
    · subst hmi; exact more_at
    · exact more_of (hall m om infm (by omega) b c)
  · rw [more_ne (by omega)]; exact I.jhi m om infm (by omega) b c
  · rw [stAt_succ l s0 i _ _ hi]
    exact hw.weak fun F h => SepIn.group (A := []) h
  · have := h i o _ hi rfl; rw [more_at] at this; cases this
  · have := h i o _ hi rfl; rw [more_at] at this; cases this
  · by_cases hmi : m = i
    · subst hmi; rw [hi] at b; simp at b; obtain ⟨_, rfl⟩ := b; trivial
    · rw [more_ne hmi] at a; exact I.vals m om infm a b
include hp hend hok hH hO hsg in
theorem all_done {L : Nat → Bool} {g : Us} {w : World} {σ' : PH} {Ol : List (Nat × Obj)} {j : Nat} (I : DInv w0 M σ Kb l s0 L g w σ' Ol j) (hall : ∀ i, i < l.length → L i = true) : Run P f R k (act n g) w := by
  have hfr : fill (stAt l s0 l.length).fr (stAt l s0 l.length).H g = g := by
    funext s
    by_cases hm : s ∈ (stAt l s0 l.length).slots
    · exact fill_mem hm
    · rw [fill_not hm]
      by_cases hw : ∃ m om infm v, m < l.length ∧ l[m]? = some (om, infm) ∧ infm.val? = some v ∧ dstOf om = s
      · obtain ⟨m, om, infm, v, h1, h2, h3, h4⟩ := hw
        have hst : infm.isSt = false := by cases infm <;> simp [Info.val?] at h3 <;> rfl
        have := fr_yes (s0 := s0) l.length (Nat.le_refl _) m om infm v h1 h2 h3 (fun k' o' inf' hk' hkp => by
          cases hx : inf'.isSt with
          | false => exact .inl (dst_ne hp hok (by omega) hkp h2 hx hst)
          | true => exact .inr ⟨dst_none hp hkp hx, by cases inf' <;> simp [Info.isSt, Info.tag, Tag.isSt] at hx <;> rfl⟩)
        rw [h4] at this
        rw [this]
        have hval := I.vals m om infm (hall m h1) h2
        rw [h4] at hval
        cases infm <;> simp [Info.val?] at h3 <;> subst h3 <;> exact hval.symm
      · rw [fr_no l.length (Nat.le_refl _) s fun m om infm v h1 h2 h3 h4 => hw ⟨m, om, infm, v, h1, h2, h3, h4⟩]
        refine (I.oth s fun m om infm h1 h2 h3 => ?_).symm
        have hml := I.bound m h1
        have hds : dstOf om = s := by unfold dstOf; rw [h3]; rfl
        cases hx : infm.hs with
        | true => exact hm ((slots_iff hH l.length (Nat.le_refl _) s).2 ⟨m, om, infm, hml, h2, hx, hds⟩)
        | false =>
          cases hy : infm.isSt with
          | true => rw [dst_none hp h2 hy] at h3; cases h3
          | false =>
            have : ∃ v, infm.val? = some v := by cases infm <;> simp [Info.hs, Info.isSt, Info.tag, Tag.isSt] at hx hy <;> simp [Info.val?]
            obtain ⟨v, hv⟩ := this
            exact hw ⟨m, om, infm, v, hml, h2, hv, hds⟩
  have hKe : (stAt l s0 l.length).Kf = (stAt l s0 j).Kf := by
    have := stAt_Kf_same (l := l) (s0 := s0) j (l.length - j) (by have := I.jle; omega) fun m om infm a b c => by
      cases hx : infm.isMut with
      | false => rfl
      | true =>
        have h2 := I.jhi m om infm a c hx
        rw [hall m (by have := I.jle; omega)] at h2; cases h2
    rw [show j + (l.length - j) = l.length by have := I.jle; omega] at this
    exact this.1
  have hperm := O_perm hp hok hO hsg I (Nat.le_refl _) (fun m om infm a _ => ⟨fun _ => (List.getElem?_eq_some_iff.1 a).1, fun h => hall m h⟩) (fun m om obj a _ => ⟨fun _ => (List.getElem?_eq_some_iff.1 a).1, fun h => hall m h⟩)
  have hfacts : ∀ p ∈ (stAt l s0 l.length).H, p.2 (g p.1) σ' := fun p hpm => by
    obtain ⟨m, om, infm, h1, h2, _, h4, h5⟩ := H_of hH l.length (Nat.le_refl _) p hpm
    have := I.vals m om infm (hall m h1) h2
    rw [h4] at this; exact h5 _ _ this
  have hR := hend g σ' I.le hfacts
  rw [hfr] at hR
  refine hR.out w (I.sat.weak fun F h => ?_)
  rw [hKe]
  exact SepIn.perm ((hperm.map _).append_right _) (SepIn.append h)
include hp hok hH hO hE hsg hK in
theorem step_any {Q' : Exit → Act → World → Prop} {L : Nat → Bool} {g : Us} {w : World} {σ' : PH} {Ol : List (Nat × Obj)} {j : Nat} (I : DInv w0 M σ Kb l s0 L g w σ' Ol j) {i : Nat} {o : Oper} {inf : Info} (hi : l[i]? = some (o, inf)) (hn : L i = false) (he : ∀ e ∈ edgeTo o, L e = true)
    {K' : Act → World → Prop} (hnext : ∀ g' w' σ'' Ol' j', DInv w0 M σ Kb l s0 (more L i) g' w' σ'' Ol' j' → K' (act n g') w') : o.wp P (act n g) w K' Q' := by
  have hil : i < l.length := (List.getElem?_eq_some_iff.1 hi).1
  have facts := H_facts hp hok hH I hi he
  have ob := (hp i o inf hi).2
  have same : ∀ us : Us, (∀ s ∈ (stAt l s0 i).seen o, us s = g s) → execOp (ev n (fill (stAt l s0 i).fr (stAt l s0 i).H us)) o = execOp (ev n g) o := fun us hus =>
    exec_as hok hi (reads_as hp hok hH I hi hn he hus)
  have noSt : (stAt l s0 i).sg = false → inf.isFree = false → ∀ m om infm, l[m]? = some (om, infm) → infm.isSt = true → L m = false := fun hs hf m om infm a b => by
    cases hL : L m with
    | false => rfl
    | true =>
      rcases Nat.lt_trichotomy m i with h | h | h
      · have := (sg_iff hsg i (by omega)).1 hs m om infm h a
        rw [b] at this; cases this
      · subst h; rw [hn] at hL; cases hL
      · have hb := (pair_of hok h hi a).st b hf
        have := clos_listed I.down a (I.down m om (by simp [a]) hL) hb
        rw [hn] at this; cases this
  have hbase : (stAt l s0 i).sg = false → inf.isFree = false → Sat w0 M σ' Kb w := fun hs hf => I.sat.weak fun F h => (I.base (noSt hs hf) g).get (SepIn.tail h)
  have dsome : inf.isSt = false → ∀ v, (act n g).put o.dst v = act n (upd g (dstOf o) v) := fun h v => by rw [dst_some hp hi h, act_put]
  have calls : ∀ (hst : inf.isSt = false) {ρ : Operand → Value} {Rel : Value → World → Prop}, execOp ρ o = execOp (ev n g) o → StepsTo P ρ o w Rel → (∀ v w', Rel v w' → K' (act n (upd g (dstOf o) v)) w') → o.wp P (act n g) w K' Q' := fun hst ρ Rel heq hs hr => by
    unfold Oper.wp
    rw [act_eval]
    rcases hs with ⟨v, w', h1, h2⟩ | ⟨gg, args, h1, h2⟩
    · rw [heq] at h1; rw [h1, Oper.upon_value, dsome hst]; exact hr v w' h2
    · rw [heq] at h1; rw [h1, Oper.upon_enter]
      refine h2.mono ?_
      rintro e w' ⟨v, rfl, h3⟩
      simp only [dsome hst]; exact hr v w' h3
  cases inf with
  | free v =>
    refine calls rfl (same g fun _ _ => rfl) (Rel := fun u w' => u = v ∧ w' = w) (.inl ⟨v, w, ob.2 g σ' w I.le I.sat.imm facts, rfl, rfl⟩) ?_
    rintro _ _ ⟨rfl, rfl⟩
    exact hnext _ _ _ _ _ (step_val hp hok hH hO hE hsg hK I hi hn he rfl (by simp) (PH.le_refl _) I.sat rfl)
  | ex v =>
    refine calls rfl (same g fun _ _ => rfl) (Rel := fun u w' => u = v ∧ w' = w) (.inl ⟨v, w, ob.2.2 g σ' w I.le facts (hbase ob.1 rfl), rfl, rfl⟩) ?_
    rintro _ _ ⟨rfl, rfl⟩
    exact hnext _ _ _ _ _ (step_val hp hok hH hO hE hsg hK I hi hn he rfl (by simp) (PH.le_refl _) I.sat rfl)
  | exc v =>
    refine calls rfl (same g fun _ _ => rfl) (ob.2.2 g σ' w I.le facts (hbase ob.1 rfl)) ?_
    rintro u w' ⟨hb, rfl⟩
    exact hnext _ _ _ _ _ (step_val hp hok hH hO hE hsg hK I hi hn he rfl (by simp) (PH.le_refl _) (I.sat.ext hb) rfl)
  | gr T =>
    refine calls rfl (same g fun _ _ => rfl) (ob.2.2.2 g σ' w I.le facts (hbase ob.1 rfl)) ?_
    rintro u w' ⟨hb, hT⟩
    exact hnext _ _ _ _ _ (step_val hp hok hH hO hE hsg hK I hi hn he rfl (by simp) (grow_le I.sat) (I.sat.grow hb) hT)
  | own obj =>
    refine calls rfl (same g fun _ _ => rfl) (Rel := fun u w' => u = .pointer (some ⟨w.heap.size, 0, none⟩) ∧ w' = w.alloc obj) (.inl ⟨_, _, ob.2.2 g w, rfl, rfl⟩) ?_
    rintro _ _ ⟨rfl, rfl⟩
    exact hnext _ _ _ _ _ (step_own hp hok hH hO hE hsg hK I hi hn he)
  | eff T Kf =>
    obtain ⟨h1, h2, _, hji⟩ := Kf_at hok I hi hn he rfl
    have hseen : ∀ s ∈ (stAt l s0 i).seen o, resE ((stAt l s0 i).seen o ++ (stAt l s0 i).E) g s = g s := fun s hs => resE_mem (by simp [hs])
    have hS : Sat w0 M σ' (groupHP (ownsL Ol g) :: (stAt l s0 i).Kf (resE ((stAt l s0 i).seen o ++ (stAt l s0 i).E) g)) w := by
      rw [h1, stAt_Kf_congr hK j I.jle _ g fun x hx => resE_mem (by rw [← h2] at hx; simp [hx])]
      exact I.sat
    refine calls rfl (same _ hseen) (ob.2.2.2.2 _ σ' w _ I.le (fun p hpm hr => ?_) hS) ?_
    · rw [hseen p.1 (by unfold Stg.seen; rw [List.mem_filter]; exact ⟨hr, by simp only [Stg.slots, List.elem_eq_mem, decide_eq_true_eq]; exact List.mem_map.2 ⟨p, hpm, rfl⟩⟩)]
      exact facts p hpm hr
    · rintro u w' ⟨σ'', hle, hw, hT⟩
      exact hnext _ _ _ _ _ (step_eff hp hok hH hO hE hsg hK I hi hn he hle hw hT)
  | st Kf =>
    obtain ⟨h1, h2, hall, hji⟩ := Kf_at hok I hi hn he rfl
    have hseen : ∀ s ∈ (stAt l s0 i).seen o, resE ((stAt l s0 i).O.map (·.1) ++ ((stAt l s0 i).seen o ++ (stAt l s0 i).E)) g s = g s := fun s hs => resE_mem (by simp [hs])
    have hperm := O_perm hp hok hO hsg I (i := i) (by omega) (fun m om infm a b => ⟨fun hL => (by
        rcases Nat.lt_trichotomy m i with h | h | h
        · exact h
        · subst h; rw [hn] at hL; cases hL
        · have hb := (pair_of hok h hi a).st b rfl
          have := clos_listed I.down a (I.down m om (by simp [a]) hL) hb
          rw [hn] at this; cases this), fun h => hall m om infm h a (by cases infm <;> simp [Info.isSt, Info.tag, Tag.isSt] at b; rfl)⟩)
      (fun m om obj a hs => ⟨fun hL => (by
        rcases Nat.lt_trichotomy m i with h | h | h
        · exact h
        · subst h; rw [hn] at hL; cases hL
        · have := (hp m om _ a).2.1
          have h3 := (sg_iff hsg m (by have := (List.getElem?_eq_some_iff.1 a).1; omega)).1 this i o _ h hi
          cases h3), fun h => clos_listed I.down hi he ((pair_of hok h a hi).st rfl rfl)⟩)
    have hS : Sat w0 M σ' (ownsL (stAt l s0 i).O (resE ((stAt l s0 i).O.map (·.1) ++ ((stAt l s0 i).seen o ++ (stAt l s0 i).E)) g) ++ (stAt l s0 i).Kf (resE ((stAt l s0 i).O.map (·.1) ++ ((stAt l s0 i).seen o ++ (stAt l s0 i).E)) g)) w := by
      rw [h1, stAt_Kf_congr hK j I.jle _ g fun x hx => resE_mem (by rw [← h2] at hx; simp [hx]), ownsL_congr fun p hpm => resE_mem (by simp only [List.mem_append, List.mem_map]; exact .inl ⟨p, hpm, rfl⟩)]
      exact I.sat.weak fun F h => SepIn.perm ((hperm.map _).append_right _) (SepIn.append h)
    obtain ⟨w', hr, hw⟩ := ob.2 _ σ' w I.le (fun p hpm hr => by
      rw [hseen p.1 (by unfold Stg.seen; rw [List.mem_filter]; exact ⟨hr, by simp only [Stg.slots, List.elem_eq_mem, decide_eq_true_eq]; exact List.mem_map.2 ⟨p, hpm, rfl⟩⟩)]
      exact facts p hpm hr) hS
    unfold Oper.wp
    rw [act_eval]
    rw [same _ hseen] at hr
    rcases hr with hr | ⟨v, hr⟩
    · rw [hr, Oper.upon_skip, dst_none hp hi rfl, act_put_none]
      exact hnext _ _ _ _ _ (step_st hp hok I hi hn he hw)
    · rw [hr, Oper.upon_value, dst_none hp hi rfl, act_put_none]
      exact hnext _ _ _ _ _ (step_st hp hok I hi hn he hw)
include hp hend hok hH hO hE hsg hK in
theorem any_order {rl : List Oper} (hrl : rl.length = l.length) (hreal : ∀ i o inf, l[i]? = some (o, inf) → ∃ r, rl[i]? = some r ∧ r.after = o.after ∧
      ∀ L g w σ' Ol j, DInv w0 M σ Kb l s0 L g w σ' Ol j → (∀ e ∈ edgeTo o, L e = true) → ∀ K' Q', o.wp P (act n g) w K' Q' → wpOp P rl.toArray Q' i K' (act n g) w) : ∀ (fuel : Nat) (listed : Array Bool) (g : Us) (w : World) (σ' : PH) (Ol : List (Nat × Obj)) (j : Nat), listed.size = l.length → (listed.toList.filter (!·)).length = fuel →
    DInv w0 M σ Kb l s0 (fun i => listed.getD i false) g w σ' Ol j → wpAny P .any rl.toArray (QN (Run P f R k)) fuel listed (act n g) w := by
  intro fuel
  induction fuel with
  | zero =>
    intro listed g w σ' Ol j hsz hc I
    have hall : ∀ i, i < l.length → listed.getD i false = true := fun i hi => by
      have h1 : listed[i]'(by omega) ∈ listed.toList := by simp
      have h2 := List.length_eq_zero_iff.1 hc
      rw [List.filter_eq_nil_iff] at h2
      have := h2 _ h1
      simp at this
      simp [Array.getD, hsz, hi, this]
    refine ⟨?_, all_done hp hend hok hH hO hsg I hall⟩
    rw [List.eq_nil_iff_forall_not_mem]
    intro i hi
    obtain ⟨h0, o, ho, _⟩ := mem_ready.1 hi
    have hil : i < l.length := by have := (Array.getElem?_eq_some_iff.1 ho).1; rw [← hrl]; simpa using this
    have := hall i hil
    simp [Array.getD, hsz, hil] at this h0
    rw [this] at h0; cases h0
  | succ fuel ih =>
    intro listed g w σ' Ol j hsz hc I
    refine ⟨fun hr => ?_, fun i hi => ?_⟩
    · exfalso
      have hex : ∃ i, i < l.length ∧ listed.getD i false = false := by
        refine Classical.byContradiction fun hno => ?_
        have : listed.toList.filter (!·) = [] := by
          rw [List.filter_eq_nil_iff]
          intro x hx
          obtain ⟨i, hi, rfl⟩ := List.mem_iff_getElem.1 hx
          have hi' : i < l.length := by rw [← hsz]; simpa using hi
          cases hxx : listed.toList[i] with
          | true => simp
          | false => exact absurd ⟨i, hi', by simp at hxx; simp [Array.getD, hsz, hi', hxx]⟩ hno
        rw [this] at hc; simp at hc
      obtain ⟨i, ⟨hi, hin⟩, hmin⟩ : ∃ i, (i < l.length ∧ listed.getD i false = false) ∧ ∀ m, m < i → ¬ (m < l.length ∧ listed.getD m false = false) := by
        obtain ⟨i0, h0⟩ := hex
        clear ih hr I
        induction i0 using Nat.strongRecOn with
        | _ i0 ihh =>
          by_cases h : ∃ m, m < i0 ∧ m < l.length ∧ listed.getD m false = false
          · obtain ⟨m, h1, h2⟩ := h
            exact ihh m h1 h2
          · exact ⟨i0, h0, fun m hm h2 => h ⟨m, hm, h2⟩⟩
      obtain ⟨o, inf, hio⟩ := at_some (l := l) hi
      obtain ⟨r, hr1, hr2, _⟩ := hreal i o inf hio
      have hmem : i ∈ Region.ready .any rl.toArray listed := by
        rw [mem_ready]
        refine ⟨by simp [Array.getD, hsz, hi] at hin ⊢; exact hin, r, by simpa using hr1, fun e hee hb => ?_⟩
        rw [hr2] at hee
        have hle : e.on < i := by
          simp only [drawOk, drawOkT, Bool.and_eq_true] at hok
          have := List.all_eq_true.1 hok.2.1 (o, i) (by rw [List.mem_zipIdx_iff_getElem?]; simp [hio])
          have h2 := List.all_eq_true.1 this e.on (by unfold edgeTo; rw [List.mem_filterMap]; exact ⟨e, by simpa using hee, by simp [hb]⟩)
          simpa using h2
        cases hx : listed.getD e.on false with
        | true => rfl
        | false => exact absurd ⟨by omega, hx⟩ (hmin e.on hle)
      rw [hr] at hmem; simp at hmem
    · obtain ⟨h0, r, ho, hall⟩ := mem_ready.1 hi
      have hil : i < l.length := by have := (Array.getElem?_eq_some_iff.1 ho).1; rw [← hrl]; simpa using this
      obtain ⟨o', inf, hio⟩ := at_some (l := l) hil
      obtain ⟨r', hr1, hr2, hr3⟩ := hreal i o' inf hio
      have hrr : r' = r := by
        have : rl.toArray[i]? = some r' := by simpa using hr1
        rw [ho] at this; simpa using this.symm
      subst hrr
      have hn : listed.getD i false = false := by simp [Array.getD, hsz, hil] at h0 ⊢; exact h0
      have hed : ∀ e ∈ edgeTo o', listed.getD e false = true := fun e hee => by
        unfold edgeTo at hee
        rw [List.mem_filterMap] at hee
        obtain ⟨ed, h1, h2⟩ := hee
        split at h2
        · rename_i hb; simp at h2; subst h2; exact hall ed (by rw [hr2]; simpa using h1) hb
        · cases h2
      refine hr3 _ g w σ' Ol j I hed _ _ (step_any hp hok hH hO hE hsg hK I hio hn hed fun g' w' σ'' Ol' j' I' => ?_)
      refine ih (listed.setIfInBounds i true) g' w' σ'' Ol' j' (by simpa using hsz) ?_ ?_
      · have hlist : (listed.setIfInBounds i true).toList = listed.toList.set i true := by simp
        rw [hlist]
        have hli : i < listed.toList.length := by simp; omega
        have hval : listed.toList[i] = false := by simp [Array.getD, hsz, hil] at hn; simpa using hn
        have e1 : listed.toList = listed.toList.take i ++ false :: listed.toList.drop (i + 1) := by
          have := (List.take_append_drop i listed.toList).symm
          rw [List.drop_eq_getElem_cons hli, hval] at this; exact this
        have e2 : listed.toList.set i true = listed.toList.take i ++ true :: listed.toList.drop (i + 1) := by
          rw [List.set_eq_take_append_cons_drop, if_pos hli]
        rw [e1] at hc
        rw [e2]
        simp only [List.filter_append, List.filter_cons, List.length_append, Bool.not_false, Bool.not_true, if_true, List.length_cons, Bool.false_eq_true, if_false] at hc ⊢
        omega
      · have : (fun x => (listed.setIfInBounds i true).getD x false) = more (fun x => listed.getD x false) i := by
          funext x
          by_cases hx : x = i
          · subst hx; rw [more_at]; simp [Array.getD, hsz, hil]
          · rw [more_ne hx]; exact getD_set_ne false (Ne.symm hx)
        rw [this]; exact I'
end
theorem RS.drawReal {P : Program} {f : FuncId} {R : Ending → World → Prop} {k : List Item} {n : Nat} {fr : Nat → Value} {w0 : World} {M : Nat → Prop} {σ : PH} {K Kb : List HP} {id : Nat} {l : List (Oper × Info)} {rl : List Oper} (hrl : rl.length = l.length)
    (hreal : (∀ i o inf, l[i]? = some (o, inf) → Ob P n w0 M σ Kb (stAt l ⟨fr, [], [], fun _ => K, [], false⟩ i) o inf) → ∀ i o inf, l[i]? = some (o, inf) → ∃ r, rl[i]? = some r ∧ r.after = o.after ∧
      ∀ L g w σ' Ol j, DInv w0 M σ Kb l ⟨fr, [], [], fun _ => K, [], false⟩ L g w σ' Ol j → (∀ e ∈ edgeTo o, L e = true) → ∀ K' Q', o.wp P (act n g) w K' Q' → wpOp P rl.toArray Q' i K' (act n g) w)
    (hm : P.follows .mixedOrders = true) (hok : drawOk l = true) (hb : Less K Kb) (h : LDp P f R k n w0 M σ Kb l ⟨fr, [], [], fun _ => K, [], false⟩) :
    RS P f R (.code (.region id rl.toArray true) :: k) n fr w0 M σ K := by
  obtain ⟨hp, hend⟩ := Ob_at l _ h
  refine ⟨fun w hw => Run.wp (wp_region_any hm ?_)⟩
  have hsz : rl.toArray.size = l.length := by simpa using hrl
  rw [hsz]
  have h0 : stAt l ⟨fr, [], [], fun _ => K, [], false⟩ 0 = ⟨fr, [], [], fun _ => K, [], false⟩ := by cases l <;> rfl
  have rep : ∀ i, (Array.replicate l.length false).getD i false = false := fun i => by
    simp only [Array.getD_eq_getD_getElem?, Array.getElem?_replicate]; split <;> rfl
  refine any_order hp hend hok rfl rfl rfl rfl (fun _ _ => rfl) hrl (hreal hp) l.length (Array.replicate l.length false) fr w.drew σ [] 0 (by simp) (by simp) ⟨PH.le_refl _, fun j o _ hL => ?_, fun i hL => ?_, by omega, fun i _ _ hi => by omega, fun i _ _ _ _ _ => rep i, ?_, fun _ us => by rw [h0]; exact hb, fun _ => ⟨by simp, fun p => ?_⟩, fun _ => rfl, fun i _ _ hL => ?_, fun s _ => rfl⟩
  · rw [rep] at hL; cases hL
  · rw [rep] at hL; cases hL
  · rw [h0]; exact hw.drew.weak fun F h => SepIn.group (A := []) h
  · constructor
    · intro h; simp at h
    · rintro ⟨i, _, _, hL, _⟩; rw [rep] at hL; cases hL
  · rw [rep] at hL; cases hL
theorem RS.drawAll {P : Program} {f : FuncId} {R : Ending → World → Prop} {k : List Item} {n : Nat} {fr : Nat → Value} {w0 : World} {M : Nat → Prop} {σ : PH} {K Kb : List HP} {id : Nat} {l : List (Oper × Info)}
    (hm : P.follows .mixedOrders = true) (hok : drawOk l = true) (hb : Less K Kb) (h : LDp P f R k n w0 M σ Kb l ⟨fr, [], [], fun _ => K, [], false⟩) :
    RS P f R (.code (.region id (l.map (·.1)).toArray true) :: k) n fr w0 M σ K := by
  refine RS.drawReal (by simp) (fun hp i o inf hio => ⟨o, by simp [hio], rfl, fun L g w σ' Ol j I he K' Q' hw => ?_⟩) hm hok hb h
  have hg := (hp i o inf hio).1
  unfold wpOp
  have hoi : (l.map (·.1)).toArray[i]? = some o := by simp [hio]
  rw [hoi]
  simp only [Region.wanted, hg, if_true]
  exact .inl hw
end Go.JW
namespace Go.JW

def Facts : HS → List Nat → Us → PH → Prop
  | [], _, _, _ => True
  | (s, T) :: H, rd, us, σ => (bif rd.elem s then T (us s) σ else True) ∧ Facts H rd us σ
theorem facts_of {rd : List Nat} {us : Us} {σ : PH} : ∀ {H : HS}, (∀ p ∈ H, p.1 ∈ rd → p.2 (us p.1) σ) → Facts H rd us σ := by
  intro H
  induction H with
  | nil => intro _; trivial
  | cons p H ih =>
    intro h
    refine ⟨?_, ih fun p hp => h p (by simp [hp])⟩
    by_cases e : rd.elem p.1 = true
    · rw [e]; exact h p (by simp) (by simpa using e)
    · rw [Bool.not_eq_true] at e; rw [e]; trivial
def AllFacts : HS → Us → PH → Prop
  | [], _, _ => True
  | (s, T) :: H, us, σ => T (us s) σ ∧ AllFacts H us σ
theorem allFacts_of {us : Us} {σ : PH} : ∀ {H : HS}, (∀ p ∈ H, p.2 (us p.1) σ) → AllFacts H us σ := by
  intro H
  induction H with
  | nil => intro _; trivial
  | cons p H ih => intro h; exact ⟨h p (by simp), ih fun p hp => h p (by simp [hp])⟩
def New (w0 : World) (τ : PH) : Prop := ∀ b, b < w0.heap.size → τ b = none
theorem New.since {w0 w w' : World} (h : w0.heap.size ≤ w.heap.size) : New w0 (since w w') := fun b hb => by simp only [JW.since]; rw [if_neg (by omega)]
theorem New.le_since {w0 w : World} {M : Nat → Prop} {σ τ : PH} {K : List HP} (hn : New w0 τ) (hs : PH.le τ σ) (hw : Sat w0 M σ K w) : PH.le τ (JW.since w0 w) := fun b o hb => by
  have h1 := hw.imm b o (hs b o hb)
  have h2 : ¬ b < w0.heap.size := fun h => by rw [hn b h] at hb; cases hb
  simp only [JW.since]; rw [if_pos (by omega)]; exact h1
def guardV : Option Bool → Value
  | some b => .bool b
  | none => undef
def GEnd (s : Stg) : List (Nat × Option Bool) → Prop
  | [] => True
  | p :: gl => (s.fr p.1 = guardV p.2 ∧ s.slots.elem p.1 = false) ∧ GEnd s gl
theorem GEnd.at_ {s : Stg} : ∀ {gl : List (Nat × Option Bool)}, GEnd s gl → ∀ p ∈ gl, s.fr p.1 = guardV p.2 ∧ p.1 ∉ s.slots := by
  intro gl
  induction gl with
  | nil => intro _ p hp; simp at hp
  | cons q gl ih =>
    rintro ⟨h1, h2⟩ p hp
    rcases List.mem_cons.1 hp with rfl | hp
    · exact ⟨h1.1, by simpa using h1.2⟩
    · exact ih h2 p hp
structure LD (P : Program) (f : FuncId) (R : Ending → World → Prop) (k : List Item) (n : Nat) (w0 : World) (M : Nat → Prop) (σ : PH) (Kb : List HP) (l : List Oper) (tags : List Tag) (s : Stg) : Prop where
  out : ∃ (infos : List Info) (gl : List (Nat × Option Bool)), infos.map Info.tag ++ gl.map (fun p => Tag.g p.1 p.2) = tags ∧ infos.length = l.length ∧ LDp P f R k n w0 M σ Kb (l.zip infos) s ∧ GEnd (stAt (l.zip infos) s l.length) gl
theorem zip_fst {l : List Oper} {infos : List Info} (h : infos.length = l.length) : (l.zip infos).map (·.1) = l := by
  have := List.map_fst_zip (l₁ := l) (l₂ := infos) (by omega)
  exact this
theorem zip_snd {l : List Oper} {infos : List Info} (h : infos.length = l.length) : (l.zip infos).map (fun p => p.2.tag) = infos.map Info.tag := by
  have h2 := List.map_snd_zip (l₁ := l) (l₂ := infos) (by omega)
  have : (l.zip infos).map (fun p => p.2.tag) = ((l.zip infos).map Prod.snd).map Info.tag := by rw [List.map_map]; rfl
  rw [this, h2]
section
variable {P : Program} {f : FuncId} {R : Ending → World → Prop} {k : List Item} {n : Nat} {fr : Nat → Value} {w0 : World} {M : Nat → Prop} {σ : PH} {K Kb : List HP}
variable {H : HS} {O : List (Nat × Obj)} {Kf : Us → List HP} {E : List Nat} {sg : Bool} {rest : List Oper} {tags : List Tag}
variable {d : Nat} {op : Op} {ty : TypeId} {pos : String} {aft : Array Edge} {x y z : Operand} {t t' : TypeId}
theorem RS.draw {id : Nat} {l : List Oper} (tags : List Tag) (Kb : List HP) (h : LD P f R k n w0 M σ Kb l tags ⟨fr, [], [], fun _ => K, [], false⟩) (hm : P.follows .mixedOrders = true) (hok : drawOkT l tags = true) (hL : Less K Kb) :
    RS P f R (.code (.region id l.toArray true) :: k) n fr w0 M σ K := by
  obtain ⟨infos, gl, h1, h2, h3, _⟩ := h.out
  have hlen : l.length = tags.length := by
    simp only [drawOkT, Bool.and_eq_true, decide_eq_true_eq] at hok; exact hok.2.2
  have hgl : gl = [] := by
    have := congrArg List.length h1
    simp only [List.length_append, List.length_map] at this
    exact List.eq_nil_of_length_eq_zero (by omega)
  subst hgl
  simp only [List.map_nil, List.append_nil] at h1
  have := RS.drawAll (l := l.zip infos) (id := id) hm (by unfold drawOk; rw [zip_fst h2, zip_snd h2, h1]; exact hok) hL h3
  rwa [zip_fst h2] at this
theorem D.cons {o : Oper} {s : Stg} (inf : Info) (ho : Ob P n w0 M σ Kb s o inf) (h : LD P f R k n w0 M σ Kb rest tags (s.next o inf)) : LD P f R k n w0 M σ Kb (o :: rest) (inf.tag :: tags) s := by
  obtain ⟨infos, gl, h1, h2, h3, h4⟩ := h.out
  exact ⟨inf :: infos, gl, by simp [← h1], by simp [h2], ⟨ho, h3⟩, h4⟩
theorem D.done (h : ∀ us σ', PH.le σ σ' → AllFacts H us σ' → RS P f R k n (fill fr H us) w0 M σ' (ownsL O us ++ Kf us)) : LD P f R k n w0 M σ Kb [] [] ⟨fr, H, O, Kf, E, sg⟩ :=
  ⟨[], [], rfl, rfl, fun us σ' hle hf => h us σ' hle (allFacts_of hf), trivial⟩
theorem D.doneG (gl : List (Nat × Option Bool)) (hg : GEnd ⟨fr, H, O, Kf, E, sg⟩ gl) (h : ∀ us σ', PH.le σ σ' → AllFacts H us σ' → RS P f R k n (fill fr H us) w0 M σ' (ownsL O us ++ Kf us)) (ht : tags = gl.map (fun p => Tag.g p.1 p.2) := by rfl) : LD P f R k n w0 M σ Kb [] tags ⟨fr, H, O, Kf, E, sg⟩ :=
  ⟨[], gl, ht.symm, rfl, fun us σ' hle hf => h us σ' hle (allFacts_of hf), hg⟩
theorem D.free {v : Value} (h : LD P f R k n w0 M σ Kb rest tags ⟨upd fr d v, H, O, Kf, E, sg⟩) (ho : ∀ us w, (execOp (ev n (fill fr H us)) ⟨some d, op, ty, pos, aft, none⟩).run P w = .ok (.value v) w) :
    LD P f R k n w0 M σ Kb (⟨some d, op, ty, pos, aft, none⟩ :: rest) (.free :: tags) ⟨fr, H, O, Kf, E, sg⟩ := D.cons (.free v) ⟨rfl, rfl, fun us _ w _ _ _ => ho us w⟩ h
theorem D.freeI {v : Value} (h : LD P f R k n w0 M σ Kb rest tags ⟨upd fr d v, H, O, Kf, E, sg⟩) (ho : ∀ us w, PH.le σ (hp w) → (execOp (ev n (fill fr H us)) ⟨some d, op, ty, pos, aft, none⟩).run P w = .ok (.value v) w) :
    LD P f R k n w0 M σ Kb (⟨some d, op, ty, pos, aft, none⟩ :: rest) (.free :: tags) ⟨fr, H, O, Kf, E, sg⟩ := D.cons (.free v) ⟨rfl, rfl, fun us _ w h1 h2 _ => ho us w (PH.le_trans h1 h2)⟩ h
theorem D.ex {v : Value} (h : LD P f R k n w0 M σ Kb rest tags ⟨upd fr d v, H, O, Kf, E, false⟩)
    (ho : ∀ us σ' w, PH.le σ σ' → Facts H (readsTmp ⟨some d, op, ty, pos, aft, none⟩) us σ' → Sat w0 M σ' Kb w → (execOp (ev n (fill fr H us)) ⟨some d, op, ty, pos, aft, none⟩).run P w = .ok (.value v) w) :
    LD P f R k n w0 M σ Kb (⟨some d, op, ty, pos, aft, none⟩ :: rest) (.ex :: tags) ⟨fr, H, O, Kf, E, false⟩ :=
  D.cons (.ex v) ⟨rfl, rfl, rfl, fun us σ' w hle hf hw => ho us σ' w hle (facts_of hf) hw⟩ h
theorem D.gr (T : Value → PH → Prop) (hT : MonoT T) (h : LD P f R k n w0 M σ Kb rest tags ⟨fr, (d, T) :: H, O, Kf, E, false⟩)
    (ho : ∀ us σ' w, PH.le σ σ' → Facts H (readsTmp ⟨some d, op, ty, pos, aft, none⟩) us σ' → Sat w0 M σ' Kb w → StepsTo P (ev n (fill fr H us)) ⟨some d, op, ty, pos, aft, none⟩ w fun u w' => RowKit.Below w.heap.size w w' ∧ T u (grow σ' w w')) :
    LD P f R k n w0 M σ Kb (⟨some d, op, ty, pos, aft, none⟩ :: rest) (.ex :: tags) ⟨fr, H, O, Kf, E, false⟩ :=
  D.cons (.gr T) ⟨rfl, rfl, rfl, hT, fun us σ' w hle hf hw => ho us σ' w hle (facts_of hf) hw⟩ h
theorem D.eff (T : Value → PH → Prop) (Kf1 Kf2 : Us → List HP) (hT : MonoT T) (hL : ∀ us, Less (Kf1 us) Kb)
    (h : LD P f R k n w0 M σ Kb rest tags ⟨fr, (d, T) :: H, O, Kf2, d :: ((Stg.mk fr H O Kf E false).seen ⟨some d, op, ty, pos, aft, none⟩ ++ E), false⟩)
    (ho : ∀ us σ' w X, PH.le σ σ' → Facts H (readsTmp ⟨some d, op, ty, pos, aft, none⟩) us σ' → Sat w0 M σ' (X :: Kf us) w → StepsTo P (ev n (fill fr H us)) ⟨some d, op, ty, pos, aft, none⟩ w fun u w' => ∃ σ'', PH.le σ' σ'' ∧ Sat w0 M σ'' (X :: Kf1 (upd us d u)) w' ∧ T u σ'')
    (hE : ∀ us, Kf1 (resE (d :: ((Stg.mk fr H O Kf E false).seen ⟨some d, op, ty, pos, aft, none⟩ ++ E)) us) = Kf2 us := by intro _; rfl) :
    LD P f R k n w0 M σ Kb (⟨some d, op, ty, pos, aft, none⟩ :: rest) (.eff :: tags) ⟨fr, H, O, Kf, E, false⟩ := by
  refine D.cons (.eff T Kf1) ⟨rfl, rfl, rfl, hT, hL, fun us σ' w X hle hf hw => ho us σ' w X hle (facts_of hf) hw⟩ ?_
  obtain rfl : (fun us => Kf1 (resE (d :: ((Stg.mk fr H O Kf E false).seen ⟨some d, op, ty, pos, aft, none⟩ ++ E)) us)) = Kf2 := funext hE
  exact h
theorem D.st (Kf1 Kf2 : Us → List HP) (h : LD P f R k n w0 M σ Kb rest tags ⟨fr, H, [], Kf2, O.map (·.1) ++ ((Stg.mk fr H O Kf E sg).seen ⟨none, op, ty, pos, aft, none⟩ ++ E), true⟩)
    (ho : ∀ us σ' w, PH.le σ σ' → Facts H (readsTmp ⟨none, op, ty, pos, aft, none⟩) us σ' → Sat w0 M σ' (ownsL O us ++ Kf us) w → ∃ w', (execOp (ev n (fill fr H us)) ⟨none, op, ty, pos, aft, none⟩).run P w = .ok .skip w' ∧ Sat w0 M σ' (Kf1 us) w')
    (hE : ∀ us, Kf1 (resE (O.map (·.1) ++ ((Stg.mk fr H O Kf E sg).seen ⟨none, op, ty, pos, aft, none⟩ ++ E)) us) = Kf2 us := by intro _; rfl) :
    LD P f R k n w0 M σ Kb (⟨none, op, ty, pos, aft, none⟩ :: rest) (.st :: tags) ⟨fr, H, O, Kf, E, sg⟩ := by
  refine D.cons (.st Kf1) ⟨rfl, rfl, fun us σ' w hle hf hw => (ho us σ' w hle (facts_of hf) hw).imp fun _ h => ⟨.inl h.1, h.2⟩⟩ ?_
  obtain rfl : (fun us => Kf1 (resE (O.map (·.1) ++ ((Stg.mk fr H O Kf E sg).seen ⟨none, op, ty, pos, aft, none⟩ ++ E)) us)) = Kf2 := funext hE
  exact h
theorem D.alloc_ {zs : List Value} [hz : TZero P t zs] (h : LD P f R k n w0 M σ Kb rest tags ⟨fr, (d, fun _ _ => True) :: H, (d, .cells zs.toArray t (0, 0)) :: O, Kf, E, false⟩) :
    LD P f R k n w0 M σ Kb (⟨some d, .alloc t, ty, pos, aft, none⟩ :: rest) (.own :: tags) ⟨fr, H, O, Kf, E, false⟩ :=
  D.cons (.own (.cells zs.toArray t (0, 0))) ⟨rfl, rfl, rfl, fun us w => by
    obtain ⟨z, h1, h2⟩ := zero_cells hz.eq w
    simp [execOp, Instr.alloc, h1, newVar, newRow, h2]⟩ h
theorem D.callP {g : FuncId} {xs : Array Operand} {ts : Array TypeId} {args : Us → List Value} {v : Value} [i : Fun P g]
    (h : LD P f R k n w0 M σ Kb rest tags ⟨upd fr d v, H, O, Kf, E, false⟩) (hx : ∀ us, xs.toList.map (ev n (fill fr H us)) = args us := by intro _; rfl)
    (hc : ∀ us σ' w, PH.le σ σ' → Facts H (readsTmp ⟨some d, .call ⟨.value (.func g), xs, ts⟩, ty, pos, aft, none⟩) us σ' → Sat w0 M σ' Kb w → Calls P g (args us).toArray w fun e w' => e = .returned v ∧ RowKit.Below w.heap.size w w') :
    LD P f R k n w0 M σ Kb (⟨some d, .call ⟨.value (.func g), xs, ts⟩, ty, pos, aft, none⟩ :: rest) (.ex :: tags) ⟨fr, H, O, Kf, E, false⟩ :=
  D.cons (.exc v) ⟨rfl, rfl, rfl, fun us σ' w hle hf hw => .inr ⟨g, _, exec_call i.eq (hx us) w, (hc us σ' w hle (facts_of hf) hw).mono fun _ _ ⟨he, hb⟩ => ⟨v, he, hb, rfl⟩⟩⟩ h
theorem D.callN {g : FuncId} {xs : Array Operand} {ts : Array TypeId} {args : Us → List Value} (Q : Value → PH → Prop) [i : Fun P g]
    (h : LD P f R k n w0 M σ Kb rest tags ⟨fr, (d, fun v σ => ∃ τ, Q v τ ∧ PH.le τ σ ∧ New w0 τ) :: H, O, Kf, E, false⟩) (hx : ∀ us, xs.toList.map (ev n (fill fr H us)) = args us := by intro _; rfl)
    (hc : ∀ us σ' w, PH.le σ σ' → Facts H (readsTmp ⟨some d, .call ⟨.value (.func g), xs, ts⟩, ty, pos, aft, none⟩) us σ' → Sat w0 M σ' Kb w → Calls P g (args us).toArray w fun e w' => ∃ v, e = .returned v ∧ RowKit.Below w.heap.size w w' ∧ Q v (since w w')) :
    LD P f R k n w0 M σ Kb (⟨some d, .call ⟨.value (.func g), xs, ts⟩, ty, pos, aft, none⟩ :: rest) (.ex :: tags) ⟨fr, H, O, Kf, E, false⟩ :=
  D.gr _ (fun _ _ _ ⟨τ, h1, h2, h3⟩ hs => ⟨τ, h1, PH.le_trans h2 hs, h3⟩) h fun us σ' w hle hf hw =>
    .inr ⟨g, _, exec_call i.eq (hx us) w, (hc us σ' w hle hf hw).mono fun _ w' ⟨v, he, hb, hq⟩ => ⟨v, he, hb, since w w', hq, since_le _ _ _, New.since hw.size⟩⟩
theorem D.bldS {e s : Nat} {zs : List Value} {parts : Array (Nat × Operand)} {len : Nat} {vs : Us → List Value} (T : Value → PH → Prop) (hT : MonoT T) [ht : TSlice P t e] [hs : TSz P e s] [hz : TZero P e zs]
    (h : LD P f R k n w0 M σ Kb rest tags ⟨fr, (d, T) :: H, O, Kf, E, false⟩)
    (ho : ∀ us σ', PH.le σ σ' → Facts H (readsTmp ⟨some d, .buildSlice t len parts, ty, pos, aft, none⟩) us σ' → ∃ cs, catL s (vs us) = some cs ∧ ∀ b σ'', PH.le σ' σ'' → (b < w0.heap.size → False) → σ'' b = some (.cells cs.toArray e (0, 0)) → T (.slice (some ⟨b, 0, none⟩) len len) σ'')
    (hx : ∀ us, parts.toList.map (fun p => (p.1, ev n (fill fr H us) p.2)) = (vs us).zipIdx.map (fun p => (p.2, p.1)) := by intro _; rfl)
    (hl : ∀ us, Nat.beq (vs us).length len = true := by intro _; rfl) (hb : Nat.ble (len * s) 16777216 = true := by rfl) :
    LD P f R k n w0 M σ Kb (⟨some d, .buildSlice t len parts, ty, pos, aft, none⟩ :: rest) (.ex :: tags) ⟨fr, H, O, Kf, E, false⟩ :=
  D.gr T hT h fun us σ' w hle hf hw => by
    have el := Nat.eq_of_beq_eq_true (hl us)
    obtain ⟨cs, hc, hT'⟩ := ho us σ' hle hf
    have e1 : (parts.map fun (i, x) => (i, ev n (fill fr H us) x)) = ((vs us).zipIdx.map fun p => (p.2, p.1)).toArray := by rw [← hx us]; cases parts; simp
    have := run_buildSlice w ht.eq hs.eq hz.eq rfl hc (by rw [el]; exact Nat.le_of_ble_eq_true hb)
    rw [el] at this
    refine .inl ⟨.slice (some ⟨w.heap.size, 0, none⟩) len len, w.alloc (.cells cs.toArray e), by simp [execOp, e1, this], (RowKit.Below.refl _ _).alloc (Nat.le_refl _) _, hT' _ _ (grow_le hw) (fun h => by have := hw.size; omega) ?_⟩
    simp only [JW.grow]; rw [if_pos (Nat.le_refl _)]; exact (heap_alloc_at w _ _).trans (if_pos rfl)
theorem D.ldS {b off : Nat} {v : Value} [ht : TOne P t] (hc : σ.cell b off = some v) (h : LD P f R k n w0 M σ Kb rest tags ⟨upd fr d v, H, O, Kf, E, false⟩) (hx : ∀ us, ev n (fill fr H us) x = .pointer (some ⟨b, off, none⟩) := by intro _; rfl) :
    LD P f R k n w0 M σ Kb (⟨some d, .load t x, ty, pos, aft, none⟩ :: rest) (.ex :: tags) ⟨fr, H, O, Kf, E, false⟩ :=
  D.ex h fun us σ' w hle _ hw => by
    have := run_loadVar1 (P := P) (w := w) (b := b) ht.agg off (hw.cell (PH.cell_mono hle hc))
    simp [execOp, hx us, Instr.loadAt, Instr.sureAddr, this]
theorem D.ldSA {b off s : Nat} {vs : List Value} [ht : TAgg P t] [hs : TSz P t s] (hl : vs.length = s) (hc : ∀ j, j < s → σ.cell b (off + j) = vs[j]?) (h : LD P f R k n w0 M σ Kb rest tags ⟨upd fr d (.agg vs.toArray), H, O, Kf, E, false⟩) (hx : ∀ us, ev n (fill fr H us) x = .pointer (some ⟨b, off, none⟩) := by intro _; rfl) :
    LD P f R k n w0 M σ Kb (⟨some d, .load t x, ty, pos, aft, none⟩ :: rest) (.ex :: tags) ⟨fr, H, O, Kf, E, false⟩ :=
  D.ex h fun us σ' w hle _ hw => by
    have := run_loadVarA (P := P) (w := w) (b := b) ht.agg hs.eq off hl (fun j hj => by
      have h1 := PH.cells_mono hle hl hc j hj
      rw [List.getElem?_eq_getElem (by omega)] at h1 ⊢
      exact hw.cell h1)
    simp [execOp, hx us, Instr.loadAt, Instr.sureAddr, this]
theorem D.ld1 {b off : Nat} {cs : List Value} {T : TypeId} {v : Value} {put : HP → List HP} {K' : List HP} [ht : TOne P t] (h : LD P f R k n w0 M σ Kb rest tags ⟨upd fr d v, H, O, Kf, E, false⟩) (hx : ∀ us, ev n (fill fr H us) x = .pointer (some ⟨b, off, none⟩) := by intro _; rfl)
    (hf : FindB b Kb (.cells cs.toArray T (0, 0)) put K' := by infer_instance) (hv : nth cs off = some v := by rfl) :
    LD P f R k n w0 M σ Kb (⟨some d, .load t x, ty, pos, aft, none⟩ :: rest) (.ex :: tags) ⟨fr, H, O, Kf, E, false⟩ :=
  D.ex h fun us σ' w hle _ hw => by
    have hb := hw.get (i := hf)
    rw [nth_eq] at hv
    have := run_loadVar1 (P := P) (w := w) (b := b) ht.agg off ((cell_blk hb off).trans hv)
    simp [execOp, hx us, Instr.loadAt, Instr.sureAddr, this]
theorem D.ldA (vs : List Value) {b off s : Nat} {cs : List Value} {T : TypeId} {put : HP → List HP} {K' : List HP} [ht : TAgg P t] [hs : TSz P t s] (h : LD P f R k n w0 M σ Kb rest tags ⟨upd fr d (.agg vs.toArray), H, O, Kf, E, false⟩) (hx : ∀ us, ev n (fill fr H us) x = .pointer (some ⟨b, off, none⟩) := by intro _; rfl)
    (hf : FindB b Kb (.cells cs.toArray T (0, 0)) put K' := by infer_instance) (hv : takeAt cs off s = some vs := by rfl) :
    LD P f R k n w0 M σ Kb (⟨some d, .load t x, ty, pos, aft, none⟩ :: rest) (.ex :: tags) ⟨fr, H, O, Kf, E, false⟩ :=
  D.ex h fun us σ' w hle _ hw => by
    have hb := hw.get (i := hf)
    obtain ⟨hl, hc⟩ := takeAt_spec _ _ _ _ hv
    have := run_loadVarA (P := P) (w := w) (b := b) ht.agg hs.eq off hl (fun j hj => (cell_blk hb (off + j)).trans (hc j hj))
    simp [execOp, hx us, Instr.loadAt, Instr.sureAddr, this]
def TLit (e len : Nat) (cs : List Value) : Value → PH → Prop := fun v σ => ∃ b, v = .slice (some ⟨b, 0, none⟩) len len ∧ σ b = some (.cells cs.toArray e (0, 0))
theorem D.bldL {e s : Nat} {zs : List Value} {parts : Array (Nat × Operand)} {len : Nat} (vs cs : List Value) [ht : TSlice P t e] [hs : TSz P e s] [hz : TZero P e zs]
    (h : LD P f R k n w0 M σ Kb rest tags ⟨fr, (d, TLit e len cs) :: H, O, Kf, E, false⟩)
    (hx : ∀ us, parts.toList.map (fun p => (p.1, ev n (fill fr H us) p.2)) = vs.zipIdx.map (fun p => (p.2, p.1)) := by intro _; rfl)
    (hc : catL s vs = some cs := by rfl) (hl : Nat.beq vs.length len = true := by rfl) (hb : Nat.ble (len * s) 16777216 = true := by rfl) :
    LD P f R k n w0 M σ Kb (⟨some d, .buildSlice t len parts, ty, pos, aft, none⟩ :: rest) (.ex :: tags) ⟨fr, H, O, Kf, E, false⟩ :=
  D.bldS (vs := fun _ => vs) (TLit e len cs) (fun _ _ _ ⟨b, h1, h2⟩ hs => ⟨b, h1, hs _ _ h2⟩) h (fun _ _ _ _ => ⟨cs, hc, fun b _ _ _ h => ⟨b, rfl, h⟩⟩) hx (fun _ => hl) hb
theorem D.b2s {e : TypeId} {c0 : Nat} (bs : List Int) (s : Nat) [ht : TSlice P t e] [he : TInt P e .u8] [hd : TStr P t'] (h : LD P f R k n w0 M σ Kb rest tags ⟨upd fr d (.string (bs.foldl (fun r n => r.push (UInt8.ofNat n.toNat)) ByteArray.empty)), H, O, Kf, E, false⟩)
    (ho : ∀ us σ' , PH.le σ σ' → Facts H (readsTmp ⟨some d, .convert t t' (.tmp s), ty, pos, aft, none⟩) us σ' → ∃ b, us s = .slice (some ⟨b, 0, none⟩) bs.length c0 ∧ ∀ j, j < bs.length → σ'.cell b j = (bs.map (Value.int .u8))[j]?)
    (hx : ∀ us, ev n (fill fr H us) (.tmp s) = us s := by intro _; rfl) :
    LD P f R k n w0 M σ Kb (⟨some d, .convert t t' (.tmp s), ty, pos, aft, none⟩ :: rest) (.ex :: tags) ⟨fr, H, O, Kf, E, false⟩ :=
  D.ex h fun us σ' w hle hf hw => by
    obtain ⟨b, h1, h2⟩ := ho us σ' hle hf
    have h3 : (loadCells ⟨b, 0, none⟩ bs.length).run P w = .ok (bs.map (Value.int .u8)).toArray w := by
      have := run_loadFrom (P := P) (w := w) (b := b) (fun j => w.cell? ⟨b, j, none⟩) (fun j v h => h) bs.length 0 0 #[] (bs.map (Value.int .u8)) (by simp) (fun j hj => by
        have h4 := h2 j hj
        rw [List.getElem?_eq_getElem (by simpa using hj)] at h4 ⊢
        simpa using hw.cell h4)
      simpa [loadCells] using this
    have := run_bytesToString (P := P) w ⟨b, 0, none⟩ bs.length c0 bs h3
    simp only [execOp, hx us, h1]
    rw [Sem.run_bind, run_convert_bytes_string w t t' e _ _ _ ht.eq he.eq hd.eq, this]
    rfl
theorem D.mv {v : Value} (h : LD P f R k n w0 M σ Kb rest tags ⟨upd fr d v, H, O, Kf, E, sg⟩) (hx : ∀ us, ev n (fill fr H us) x = v := by intro _; rfl) :
    LD P f R k n w0 M σ Kb (⟨some d, .move x, ty, pos, aft, none⟩ :: rest) (.free :: tags) ⟨fr, H, O, Kf, E, sg⟩ :=
  D.free h fun us w => by simp [execOp, (hx us)]
theorem D.as_ {v : Value} (h : LD P f R k n w0 M σ Kb rest tags ⟨upd fr d v, H, O, Kf, E, sg⟩) (hx : ∀ us, ev n (fill fr H us) x = v := by intro _; rfl) :
    LD P f R k n w0 M σ Kb (⟨some d, .assign x, ty, pos, aft, none⟩ :: rest) (.free :: tags) ⟨fr, H, O, Kf, E, sg⟩ :=
  D.free h fun us w => by simp [execOp, (hx us)]
theorem D.mvI {kk : IntKind} {m : Int} (h : LD P f R k n w0 M σ Kb rest tags ⟨upd fr d (.int kk m), H, O, Kf, E, sg⟩) (hx : ∀ us, ev n (fill fr H us) x = .int kk m := by intro _; rfl) :
    LD P f R k n w0 M σ Kb (⟨some d, .move x, ty, pos, aft, none⟩ :: rest) (.free :: tags) ⟨fr, H, O, Kf, E, sg⟩ :=
  D.mv h hx
theorem D.asI {kk : IntKind} {m : Int} (h : LD P f R k n w0 M σ Kb rest tags ⟨upd fr d (.int kk m), H, O, Kf, E, sg⟩) (hx : ∀ us, ev n (fill fr H us) x = .int kk m := by intro _; rfl) :
    LD P f R k n w0 M σ Kb (⟨some d, .assign x, ty, pos, aft, none⟩ :: rest) (.free :: tags) ⟨fr, H, O, Kf, E, sg⟩ :=
  D.as_ h hx
theorem D.mvB {m : Bool} (h : LD P f R k n w0 M σ Kb rest tags ⟨upd fr d (.bool m), H, O, Kf, E, sg⟩) (hx : ∀ us, ev n (fill fr H us) x = .bool m := by intro _; rfl) :
    LD P f R k n w0 M σ Kb (⟨some d, .move x, ty, pos, aft, none⟩ :: rest) (.free :: tags) ⟨fr, H, O, Kf, E, sg⟩ :=
  D.mv h hx
theorem D.asB {m : Bool} (h : LD P f R k n w0 M σ Kb rest tags ⟨upd fr d (.bool m), H, O, Kf, E, sg⟩) (hx : ∀ us, ev n (fill fr H us) x = .bool m := by intro _; rfl) :
    LD P f R k n w0 M σ Kb (⟨some d, .assign x, ty, pos, aft, none⟩ :: rest) (.free :: tags) ⟨fr, H, O, Kf, E, sg⟩ :=
  D.as_ h hx
theorem D.mvS {m : ByteArray} (h : LD P f R k n w0 M σ Kb rest tags ⟨upd fr d (.string m), H, O, Kf, E, sg⟩) (hx : ∀ us, ev n (fill fr H us) x = .string m := by intro _; rfl) :
    LD P f R k n w0 M σ Kb (⟨some d, .move x, ty, pos, aft, none⟩ :: rest) (.free :: tags) ⟨fr, H, O, Kf, E, sg⟩ :=
  D.mv h hx
theorem D.asS {m : ByteArray} (h : LD P f R k n w0 M σ Kb rest tags ⟨upd fr d (.string m), H, O, Kf, E, sg⟩) (hx : ∀ us, ev n (fill fr H us) x = .string m := by intro _; rfl) :
    LD P f R k n w0 M σ Kb (⟨some d, .assign x, ty, pos, aft, none⟩ :: rest) (.free :: tags) ⟨fr, H, O, Kf, E, sg⟩ :=
  D.as_ h hx
theorem D.mvL {m : Option Addr} {l c : Nat} (h : LD P f R k n w0 M σ Kb rest tags ⟨upd fr d (.slice m l c), H, O, Kf, E, sg⟩) (hx : ∀ us, ev n (fill fr H us) x = .slice m l c := by intro _; rfl) :
    LD P f R k n w0 M σ Kb (⟨some d, .move x, ty, pos, aft, none⟩ :: rest) (.free :: tags) ⟨fr, H, O, Kf, E, sg⟩ :=
  D.mv h hx
theorem D.asL {m : Option Addr} {l c : Nat} (h : LD P f R k n w0 M σ Kb rest tags ⟨upd fr d (.slice m l c), H, O, Kf, E, sg⟩) (hx : ∀ us, ev n (fill fr H us) x = .slice m l c := by intro _; rfl) :
    LD P f R k n w0 M σ Kb (⟨some d, .assign x, ty, pos, aft, none⟩ :: rest) (.free :: tags) ⟨fr, H, O, Kf, E, sg⟩ :=
  D.as_ h hx
theorem D.mvP {m : Option Addr} (h : LD P f R k n w0 M σ Kb rest tags ⟨upd fr d (.pointer m), H, O, Kf, E, sg⟩) (hx : ∀ us, ev n (fill fr H us) x = .pointer m := by intro _; rfl) :
    LD P f R k n w0 M σ Kb (⟨some d, .move x, ty, pos, aft, none⟩ :: rest) (.free :: tags) ⟨fr, H, O, Kf, E, sg⟩ :=
  D.mv h hx
theorem D.asP {m : Option Addr} (h : LD P f R k n w0 M σ Kb rest tags ⟨upd fr d (.pointer m), H, O, Kf, E, sg⟩) (hx : ∀ us, ev n (fill fr H us) x = .pointer m := by intro _; rfl) :
    LD P f R k n w0 M σ Kb (⟨some d, .assign x, ty, pos, aft, none⟩ :: rest) (.free :: tags) ⟨fr, H, O, Kf, E, sg⟩ :=
  D.as_ h hx
theorem D.mvT {m : Array Value} (h : LD P f R k n w0 M σ Kb rest tags ⟨upd fr d (.tuple m), H, O, Kf, E, sg⟩) (hx : ∀ us, ev n (fill fr H us) x = .tuple m := by intro _; rfl) :
    LD P f R k n w0 M σ Kb (⟨some d, .move x, ty, pos, aft, none⟩ :: rest) (.free :: tags) ⟨fr, H, O, Kf, E, sg⟩ :=
  D.mv h hx
theorem D.asE0  (h : LD P f R k n w0 M σ Kb rest tags ⟨upd fr d (.nilIface), H, O, Kf, E, sg⟩) (hx : ∀ us, ev n (fill fr H us) x = .nilIface := by intro _; rfl) :
    LD P f R k n w0 M σ Kb (⟨some d, .assign x, ty, pos, aft, none⟩ :: rest) (.free :: tags) ⟨fr, H, O, Kf, E, sg⟩ :=
  D.as_ h hx
theorem D.addI {kk : IntKind} {a b : Int} (h : LD P f R k n w0 M σ Kb rest tags ⟨upd fr d (.int kk (kk.wrap (a + b))), H, O, Kf, E, sg⟩) (hx : ∀ us, ev n (fill fr H us) x = .int kk a := by intro _; rfl) (hy : ∀ us, ev n (fill fr H us) y = .int kk b := by intro _; rfl) :
    LD P f R k n w0 M σ Kb (⟨some d, .binOp .add t x y t', ty, pos, aft, none⟩ :: rest) (.free :: tags) ⟨fr, H, O, Kf, E, sg⟩ :=
  D.free h fun us w => exec_bin (hx us) (hy us) (by simp [binOp, Op.intArith])
theorem D.subI {kk : IntKind} {a b : Int} (h : LD P f R k n w0 M σ Kb rest tags ⟨upd fr d (.int kk (kk.wrap (a - b))), H, O, Kf, E, sg⟩) (hx : ∀ us, ev n (fill fr H us) x = .int kk a := by intro _; rfl) (hy : ∀ us, ev n (fill fr H us) y = .int kk b := by intro _; rfl) :
    LD P f R k n w0 M σ Kb (⟨some d, .binOp .sub t x y t', ty, pos, aft, none⟩ :: rest) (.free :: tags) ⟨fr, H, O, Kf, E, sg⟩ :=
  D.free h fun us w => exec_bin (hx us) (hy us) (by simp [binOp, Op.intArith])
theorem D.mulI {kk : IntKind} {a b : Int} (h : LD P f R k n w0 M σ Kb rest tags ⟨upd fr d (.int kk (kk.wrap (a * b))), H, O, Kf, E, sg⟩) (hx : ∀ us, ev n (fill fr H us) x = .int kk a := by intro _; rfl) (hy : ∀ us, ev n (fill fr H us) y = .int kk b := by intro _; rfl) :
    LD P f R k n w0 M σ Kb (⟨some d, .binOp .mul t x y t', ty, pos, aft, none⟩ :: rest) (.free :: tags) ⟨fr, H, O, Kf, E, sg⟩ :=
  D.free h fun us w => exec_bin (hx us) (hy us) (by simp [binOp, Op.intArith])
theorem D.quoI {kk : IntKind} {a b : Int} (h : LD P f R k n w0 M σ Kb rest tags ⟨upd fr d (.int kk (kk.wrap (a.tdiv b))), H, O, Kf, E, sg⟩) (hx : ∀ us, ev n (fill fr H us) x = .int kk a := by intro _; rfl) (hy : ∀ us, ev n (fill fr H us) y = .int kk b := by intro _; rfl) (hb : b ≠ 0 := by omega) :
    LD P f R k n w0 M σ Kb (⟨some d, .binOp .quo t x y t', ty, pos, aft, none⟩ :: rest) (.free :: tags) ⟨fr, H, O, Kf, E, sg⟩ :=
  D.free h fun us w => exec_bin (hx us) (hy us) (by simp [binOp, Op.intDiv, hb])
theorem D.remI {kk : IntKind} {a b : Int} (h : LD P f R k n w0 M σ Kb rest tags ⟨upd fr d (.int kk (a.tmod b)), H, O, Kf, E, sg⟩) (hx : ∀ us, ev n (fill fr H us) x = .int kk a := by intro _; rfl) (hy : ∀ us, ev n (fill fr H us) y = .int kk b := by intro _; rfl) (hb : b ≠ 0 := by omega) :
    LD P f R k n w0 M σ Kb (⟨some d, .binOp .rem t x y t', ty, pos, aft, none⟩ :: rest) (.free :: tags) ⟨fr, H, O, Kf, E, sg⟩ :=
  D.free h fun us w => exec_bin (hx us) (hy us) (by simp [binOp, Op.intDiv, hb])
theorem D.ltI {kk : IntKind} {a b : Int} (h : LD P f R k n w0 M σ Kb rest tags ⟨upd fr d (.bool (decide (a < b))), H, O, Kf, E, sg⟩) (hx : ∀ us, ev n (fill fr H us) x = .int kk a := by intro _; rfl) (hy : ∀ us, ev n (fill fr H us) y = .int kk b := by intro _; rfl) :
    LD P f R k n w0 M σ Kb (⟨some d, .binOp .lss t x y t', ty, pos, aft, none⟩ :: rest) (.free :: tags) ⟨fr, H, O, Kf, E, sg⟩ :=
  D.free h fun us w => exec_bin (hx us) (hy us) (by simp [binOp, Op.intCmp])
theorem D.leI {kk : IntKind} {a b : Int} (h : LD P f R k n w0 M σ Kb rest tags ⟨upd fr d (.bool (decide (a ≤ b))), H, O, Kf, E, sg⟩) (hx : ∀ us, ev n (fill fr H us) x = .int kk a := by intro _; rfl) (hy : ∀ us, ev n (fill fr H us) y = .int kk b := by intro _; rfl) :
    LD P f R k n w0 M σ Kb (⟨some d, .binOp .leq t x y t', ty, pos, aft, none⟩ :: rest) (.free :: tags) ⟨fr, H, O, Kf, E, sg⟩ :=
  D.free h fun us w => exec_bin (hx us) (hy us) (by simp [binOp, Op.intCmp])
theorem D.gtI {kk : IntKind} {a b : Int} (h : LD P f R k n w0 M σ Kb rest tags ⟨upd fr d (.bool (decide (b < a))), H, O, Kf, E, sg⟩) (hx : ∀ us, ev n (fill fr H us) x = .int kk a := by intro _; rfl) (hy : ∀ us, ev n (fill fr H us) y = .int kk b := by intro _; rfl) :
    LD P f R k n w0 M σ Kb (⟨some d, .binOp .gtr t x y t', ty, pos, aft, none⟩ :: rest) (.free :: tags) ⟨fr, H, O, Kf, E, sg⟩ :=
  D.free h fun us w => exec_bin (hx us) (hy us) (by simp [binOp, Op.intCmp])
theorem D.geI {kk : IntKind} {a b : Int} (h : LD P f R k n w0 M σ Kb rest tags ⟨upd fr d (.bool (decide (b ≤ a))), H, O, Kf, E, sg⟩) (hx : ∀ us, ev n (fill fr H us) x = .int kk a := by intro _; rfl) (hy : ∀ us, ev n (fill fr H us) y = .int kk b := by intro _; rfl) :
    LD P f R k n w0 M σ Kb (⟨some d, .binOp .geq t x y t', ty, pos, aft, none⟩ :: rest) (.free :: tags) ⟨fr, H, O, Kf, E, sg⟩ :=
  D.free h fun us w => exec_bin (hx us) (hy us) (by simp [binOp, Op.intCmp])
theorem D.eqI {kk : IntKind} {a b : Int} (h : LD P f R k n w0 M σ Kb rest tags ⟨upd fr d (.bool (decide (a = b))), H, O, Kf, E, sg⟩) (hx : ∀ us, ev n (fill fr H us) x = .int kk a := by intro _; rfl) (hy : ∀ us, ev n (fill fr H us) y = .int kk b := by intro _; rfl) :
    LD P f R k n w0 M σ Kb (⟨some d, .binOp .eql t x y t', ty, pos, aft, none⟩ :: rest) (.free :: tags) ⟨fr, H, O, Kf, E, sg⟩ :=
  D.free h fun us w => exec_bin (hx us) (hy us) (by simp [binOp, Op.intCmp]; rfl)
theorem D.neI {kk : IntKind} {a b : Int} (h : LD P f R k n w0 M σ Kb rest tags ⟨upd fr d (.bool (!decide (a = b))), H, O, Kf, E, sg⟩) (hx : ∀ us, ev n (fill fr H us) x = .int kk a := by intro _; rfl) (hy : ∀ us, ev n (fill fr H us) y = .int kk b := by intro _; rfl) :
    LD P f R k n w0 M σ Kb (⟨some d, .binOp .neq t x y t', ty, pos, aft, none⟩ :: rest) (.free :: tags) ⟨fr, H, O, Kf, E, sg⟩ :=
  D.free h fun us w => exec_bin (hx us) (hy us) (by simp [binOp, Op.intCmp]; rfl)
theorem D.addS {a b : ByteArray} (h : LD P f R k n w0 M σ Kb rest tags ⟨upd fr d (.string (a ++ b)), H, O, Kf, E, sg⟩) (hx : ∀ us, ev n (fill fr H us) x = .string a := by intro _; rfl) (hy : ∀ us, ev n (fill fr H us) y = .string b := by intro _; rfl) (hs : a.size + b.size ≤ 9223372036854775807 := by omega) :
    LD P f R k n w0 M σ Kb (⟨some d, .binOp .add t x y t', ty, pos, aft, none⟩ :: rest) (.free :: tags) ⟨fr, H, O, Kf, E, sg⟩ :=
  D.free h fun us w => exec_binS (hx us) (hy us) (by
    simp only [binOp, Op.stringOp]
    have e : IntKind.i64.max = 9223372036854775807 := rfl
    rw [if_neg (by rw [e]; omega)]; rfl)
theorem D.eqS {a b : ByteArray} (h : LD P f R k n w0 M σ Kb rest tags ⟨upd fr d (.bool (decide (a = b))), H, O, Kf, E, sg⟩) (hx : ∀ us, ev n (fill fr H us) x = .string a := by intro _; rfl) (hy : ∀ us, ev n (fill fr H us) y = .string b := by intro _; rfl) :
    LD P f R k n w0 M σ Kb (⟨some d, .binOp .eql t x y t', ty, pos, aft, none⟩ :: rest) (.free :: tags) ⟨fr, H, O, Kf, E, sg⟩ :=
  D.free h fun us w => exec_binS (hx us) (hy us) (by simp only [binOp, Op.stringOp, str_beq]; rfl)
theorem D.neS {a b : ByteArray} (h : LD P f R k n w0 M σ Kb rest tags ⟨upd fr d (.bool (!decide (a = b))), H, O, Kf, E, sg⟩) (hx : ∀ us, ev n (fill fr H us) x = .string a := by intro _; rfl) (hy : ∀ us, ev n (fill fr H us) y = .string b := by intro _; rfl) :
    LD P f R k n w0 M σ Kb (⟨some d, .binOp .neq t x y t', ty, pos, aft, none⟩ :: rest) (.free :: tags) ⟨fr, H, O, Kf, E, sg⟩ :=
  D.free h fun us w => exec_binS (hx us) (hy us) (by simp only [binOp, Op.stringOp, str_beq]; rfl)
theorem D.geS {a b : ByteArray} (h : LD P f R k n w0 M σ Kb rest tags ⟨upd fr d (.bool (!sLt a b)), H, O, Kf, E, sg⟩) (hx : ∀ us, ev n (fill fr H us) x = .string a := by intro _; rfl) (hy : ∀ us, ev n (fill fr H us) y = .string b := by intro _; rfl) :
    LD P f R k n w0 M σ Kb (⟨some d, .binOp .geq t x y t', ty, pos, aft, none⟩ :: rest) (.free :: tags) ⟨fr, H, O, Kf, E, sg⟩ :=
  D.free h fun us w => exec_binS (hx us) (hy us) (by simp only [binOp, Op.stringOp]; rfl)
theorem D.not_ {b : Bool} (h : LD P f R k n w0 M σ Kb rest tags ⟨upd fr d (.bool (!b)), H, O, Kf, E, sg⟩) (hx : ∀ us, ev n (fill fr H us) x = .bool b := by intro _; rfl) :
    LD P f R k n w0 M σ Kb (⟨some d, .unOp .not t x, ty, pos, aft, none⟩ :: rest) (.free :: tags) ⟨fr, H, O, Kf, E, sg⟩ :=
  D.free h fun us w => by simp [execOp, (hx us), Op.unary]
theorem D.pk {c : Bool} {v : Value} (h : LD P f R k n w0 M σ Kb rest tags ⟨upd fr d v, H, O, Kf, E, sg⟩) (hx : ∀ us, ev n (fill fr H us) x = .bool c := by intro _; rfl) (hv : ∀ us, (bif c then ev n (fill fr H us) y else ev n (fill fr H us) z) = v := by intro _; rfl) :
    LD P f R k n w0 M σ Kb (⟨some d, .pick x y z, ty, pos, aft, none⟩ :: rest) (.free :: tags) ⟨fr, H, O, Kf, E, sg⟩ :=
  D.free h fun us w => by have hv := hv us; subst hv; cases c <;> simp [execOp, (hx us), asBool]
theorem D.cvI {kk kd : IntKind} {a : Int} [hs : TInt P t kk] [hd : TInt P t' kd] (h : LD P f R k n w0 M σ Kb rest tags ⟨upd fr d (.int kd (kd.wrap a)), H, O, Kf, E, sg⟩) (hx : ∀ us, ev n (fill fr H us) x = .int kk a := by intro _; rfl) :
    LD P f R k n w0 M σ Kb (⟨some d, .convert t t' x, ty, pos, aft, none⟩ :: rest) (.free :: tags) ⟨fr, H, O, Kf, E, sg⟩ :=
  D.free h fun us w => by simp [execOp, (hx us), convert, run_underlying hs.eq, run_underlying hd.eq, Conv.intToInt]
theorem D.extr {l : List Value} {i : Nat} {v : Value} (h : LD P f R k n w0 M σ Kb rest tags ⟨upd fr d v, H, O, Kf, E, sg⟩) (hx : ∀ us, ev n (fill fr H us) x = .tuple l.toArray := by intro _; rfl) (hv : nth l i = some v := by rfl) :
    LD P f R k n w0 M σ Kb (⟨some d, .extract x i, ty, pos, aft, none⟩ :: rest) (.free :: tags) ⟨fr, H, O, Kf, E, sg⟩ :=
  D.free h fun us w => by rw [nth_eq] at hv; simp [execOp, (hx us), Instr.extract, hv]
theorem D.nilck {a : Addr} (h : LD P f R k n w0 M σ Kb rest tags ⟨upd fr d (.pointer (some a)), H, O, Kf, E, sg⟩) (hx : ∀ us, ev n (fill fr H us) x = .pointer (some a) := by intro _; rfl) :
    LD P f R k n w0 M σ Kb (⟨some d, .nilCheck x, ty, pos, aft, none⟩ :: rest) (.free :: tags) ⟨fr, H, O, Kf, E, sg⟩ :=
  D.free h fun us w => by simp [execOp, (hx us)]
theorem D.fld {b off i o s : Nat} [hf : TFld P t i o s] (h : LD P f R k n w0 M σ Kb rest tags ⟨upd fr d (.pointer (some ⟨b, off + o, none⟩)), H, O, Kf, E, sg⟩) (hx : ∀ us, ev n (fill fr H us) x = .pointer (some ⟨b, off, none⟩) := by intro _; rfl) :
    LD P f R k n w0 M σ Kb (⟨some d, .fieldAddr t x i, ty, pos, aft, none⟩ :: rest) (.free :: tags) ⟨fr, H, O, Kf, E, sg⟩ :=
  D.free h fun us w => by
    have h1 := hf.eq
    unfold fldOf at h1
    cases hu : P.underlying t with
    | none => simp [hu] at h1
    | some dd =>
      cases dd <;> simp [hu] at h1
      rename_i fs
      cases hi : fs[i]? with
      | none => simp [hi] at h1
      | some fd =>
        simp [hi] at h1
        obtain ⟨hs, ho⟩ := h1
        have hsz := run_sz (P := P) (t := fd.type) w hs
        simp [execOp, (hx us), Instr.fieldAt, run_underlying hu, hi, Instr.sureAddr, fieldPlace, hsz, ho, add_off]
theorem D.idx {b off len cap i s : Nat} {e : TypeId} [ht : TSlice P t e] [hs : TSz P e s] {kk : IntKind} {j : Int} (h : LD P f R k n w0 M σ Kb rest tags ⟨upd fr d (.pointer (some ⟨b, off + i * s, none⟩)), H, O, Kf, E, sg⟩)     (hx : ∀ us, ev n (fill fr H us) x = .slice (some ⟨b, off, none⟩) len cap := by intro _; rfl) (hy : ∀ us, ev n (fill fr H us) y = .int kk j := by intro _; rfl) (hj : j = (i : Int) := by rfl) (hi : i < len := by omega) :
    LD P f R k n w0 M σ Kb (⟨some d, .indexAddr t x y, ty, pos, aft, none⟩ :: rest) (.free :: tags) ⟨fr, H, O, Kf, E, sg⟩ :=
  D.free h fun us w => by
    subst hj
    simp [execOp, (hx us), (hy us), Instr.indexAt, asIntOf, run_underlying ht.eq, hi, run_sz w hs.eq, add_off]
theorem D.lenS {s : ByteArray} [ht : TStr P t] (h : LD P f R k n w0 M σ Kb rest tags ⟨upd fr d (.int .i64 s.size), H, O, Kf, E, sg⟩) (hx : ∀ us, ev n (fill fr H us) x = .string s := by intro _; rfl) :
    LD P f R k n w0 M σ Kb (⟨some d, .call ⟨.builtin .len, #[x], #[t]⟩, ty, pos, aft, none⟩ :: rest) (.free :: tags) ⟨fr, H, O, Kf, E, sg⟩ :=
  D.free h fun us w => by simp [execOp, resolve, invoke, builtin, (hx us), Builtin.len_, run_underlying ht.eq, goInt]
theorem D.lenL {a : Option Addr} {len cap : Nat} {e : TypeId} [ht : TSlice P t e] (h : LD P f R k n w0 M σ Kb rest tags ⟨upd fr d (.int .i64 len), H, O, Kf, E, sg⟩) (hx : ∀ us, ev n (fill fr H us) x = .slice a len cap := by intro _; rfl) :
    LD P f R k n w0 M σ Kb (⟨some d, .call ⟨.builtin .len, #[x], #[t]⟩, ty, pos, aft, none⟩ :: rest) (.free :: tags) ⟨fr, H, O, Kf, E, sg⟩ :=
  D.free h fun us w => by simp [execOp, resolve, invoke, builtin, (hx us), Builtin.len_, run_underlying ht.eq, goInt]
theorem D.addN {a b : Int} (h : LD P f R k n w0 M σ Kb rest tags ⟨upd fr d (.int .i64 (a + b)), H, O, Kf, E, sg⟩) (hx : ∀ us, ev n (fill fr H us) x = .int .i64 a := by intro _; rfl) (hy : ∀ us, ev n (fill fr H us) y = .int .i64 b := by intro _; rfl) (h1 : -9223372036854775808 ≤ a + b := by omega) (h2 : a + b ≤ 9223372036854775807 := by omega) :
    LD P f R k n w0 M σ Kb (⟨some d, .binOp .add t x y t', ty, pos, aft, none⟩ :: rest) (.free :: tags) ⟨fr, H, O, Kf, E, sg⟩ :=
  D.addI (by rw [wrapEq h1 h2]; exact h) hx hy
theorem D.subN {a b : Int} (h : LD P f R k n w0 M σ Kb rest tags ⟨upd fr d (.int .i64 (a - b)), H, O, Kf, E, sg⟩) (hx : ∀ us, ev n (fill fr H us) x = .int .i64 a := by intro _; rfl) (hy : ∀ us, ev n (fill fr H us) y = .int .i64 b := by intro _; rfl) (h1 : -9223372036854775808 ≤ a - b := by omega) (h2 : a - b ≤ 9223372036854775807 := by omega) :
    LD P f R k n w0 M σ Kb (⟨some d, .binOp .sub t x y t', ty, pos, aft, none⟩ :: rest) (.free :: tags) ⟨fr, H, O, Kf, E, sg⟩ :=
  D.subI (by rw [wrapEq h1 h2]; exact h) hx hy
theorem D.cvN {kk : IntKind} {a : Int} [hs : TInt P t kk] [hd : TInt P t' .i64] (h : LD P f R k n w0 M σ Kb rest tags ⟨upd fr d (.int .i64 a), H, O, Kf, E, sg⟩) (hx : ∀ us, ev n (fill fr H us) x = .int kk a := by intro _; rfl) (h1 : -9223372036854775808 ≤ a := by omega) (h2 : a ≤ 9223372036854775807 := by omega) :
    LD P f R k n w0 M σ Kb (⟨some d, .convert t t' x, ty, pos, aft, none⟩ :: rest) (.free :: tags) ⟨fr, H, O, Kf, E, sg⟩ :=
  D.cvI (by rw [wrapEq h1 h2]; exact h) hx
theorem D.bld {pl : List (Nat × Nat)} {zs : List Value} {parts : Array (Nat × Operand)} {vals : List (Nat × Value)} (cs : List Value) [hp : TPl P t pl] [hz : TZero P t zs] (h : LD P f R k n w0 M σ Kb rest tags ⟨upd fr d (.agg cs.toArray), H, O, Kf, E, sg⟩)     (hx : ∀ us, parts.toList.map (fun p => (p.1, ev n (fill fr H us) p.2)) = vals := by intro _; rfl) (hc : fillL (nthP pl) zs vals = some cs := by rfl) :
    LD P f R k n w0 M σ Kb (⟨some d, .build t parts, ty, pos, aft, none⟩ :: rest) (.free :: tags) ⟨fr, H, O, Kf, E, sg⟩ :=
  D.free h fun us w => by
    have e : (parts.map fun (i, x) => (i, ev n (fill fr H us) x)) = vals.toArray := by rw [← hx us]; cases parts; simp
    simp [execOp, e, run_build w hp.eq hz.eq hc]
theorem D.shrI {kk kd : IntKind} {a b : Int} (h : LD P f R k n w0 M σ Kb rest tags ⟨upd fr d (.int kk (a.fdiv (2 ^ min b.toNat kk.bits))), H, O, Kf, E, sg⟩) (hx : ∀ us, ev n (fill fr H us) x = .int kk a := by intro _; rfl) (hy : ∀ us, ev n (fill fr H us) y = .int kd b := by intro _; rfl) (hb : 0 ≤ b := by omega) :
    LD P f R k n w0 M σ Kb (⟨some d, .binOp .shr t x y t', ty, pos, aft, none⟩ :: rest) (.free :: tags) ⟨fr, H, O, Kf, E, sg⟩ :=
  D.free h fun us w => by
    have hb' : ¬ b < 0 := by omega
    simp only [execOp, (hx us), (hy us), eqGuard, Sem.run_bind]
    split <;> simp [binOp, Op.shift, hb']
theorem D.cvU {kk : IntKind} {a : Int} [hs : TInt P t kk] [hd : TInt P t' .u64] (h : LD P f R k n w0 M σ Kb rest tags ⟨upd fr d (.int .u64 a), H, O, Kf, E, sg⟩) (hx : ∀ us, ev n (fill fr H us) x = .int kk a := by intro _; rfl) (h1 : 0 ≤ a := by omega) (h2 : a ≤ 9223372036854775807 := by omega) :
    LD P f R k n w0 M σ Kb (⟨some d, .convert t t' x, ty, pos, aft, none⟩ :: rest) (.free :: tags) ⟨fr, H, O, Kf, E, sg⟩ :=
  D.cvI (by rw [IntWalk.u64_in _ ⟨h1, by omega⟩]; exact h) hx
theorem D.quoN {a b : Int} (h : LD P f R k n w0 M σ Kb rest tags ⟨upd fr d (.int .i64 (a.tdiv b)), H, O, Kf, E, sg⟩) (hx : ∀ us, ev n (fill fr H us) x = .int .i64 a := by intro _; rfl) (hy : ∀ us, ev n (fill fr H us) y = .int .i64 b := by intro _; rfl) (ha : I64 a := by first | assumption | omega) (hb : 0 < b := by omega) :
    LD P f R k n w0 M σ Kb (⟨some d, .binOp .quo t x y t', ty, pos, aft, none⟩ :: rest) (.free :: tags) ⟨fr, H, O, Kf, E, sg⟩ :=
  D.quoI (by rw [wrapEq (tdivRange ha hb).1 (tdivRange ha hb).2]; exact h) hx hy (by omega)
theorem D.slc (l hh m : Nat) {a : Option Addr} {len cap s : Nat} {e : TypeId} {lo hi mx : Option Operand} [ht : TSlice P t e] [hs : TSz P e s]
    (h : LD P f R k n w0 M σ Kb rest tags ⟨upd fr d (.slice (if m = l then a else a.map (·.add (l * s))) (hh - l) (m - l)), H, O, Kf, E, sg⟩) (hx : ∀ us, ev n (fill fr H us) x = .slice a len cap := by intro _; rfl)
    (hb : ∀ us w, (Instr.sliceBounds true len cap (lo.map (ev n (fill fr H us))) (hi.map (ev n (fill fr H us))) (mx.map (ev n (fill fr H us)))).run P w = .ok (l, hh, m) w) :
    LD P f R k n w0 M σ Kb (⟨some d, .slice t x lo hi mx, ty, pos, aft, none⟩ :: rest) (.free :: tags) ⟨fr, H, O, Kf, E, sg⟩ :=
  D.free h fun us w => by
    simp [execOp, (hx us), Instr.sliceAt, run_underlying ht.eq, Instr.slice, hb us, run_sz w hs.eq]

end
end Go.JW
namespace Go.JW

def CellsL {α : Type} [Rep α] (σ : PH) : List Value → List α → Prop
  | cs, [] => cs = []
  | cs, x :: l => ∃ c1 c2, cs = c1 ++ c2 ∧ Rep.rep σ c1 x ∧ CellsL σ c2 l
section
variable {α : Type} [Rep α] {σ σ' : PH}
theorem CellsL.len : ∀ {l : List α} {cs : List Value}, CellsL σ cs l → cs.length = l.length * Rep.sz α := by
  intro l
  induction l with
  | nil => intro cs h; simp only [CellsL] at h; subst h; simp
  | cons x l ih => rintro cs ⟨c1, c2, rfl, h1, h2⟩; rw [List.length_append, Rep.len h1, ih h2, List.length_cons, Nat.succ_mul]; omega
theorem CellsL.mono (hs : PH.le σ σ') : ∀ {l : List α} {cs : List Value}, CellsL σ cs l → CellsL σ' cs l := by
  intro l
  induction l with
  | nil => intro cs h; exact h
  | cons x l ih => rintro cs ⟨c1, c2, rfl, h1, h2⟩; exact ⟨c1, c2, rfl, Rep.mono h1 hs, ih h2⟩
theorem CellsL.one : ∀ {l : List α} {cs : List Value}, CellsL σ cs l → cs.all (·.oneCell') = true := by
  intro l
  induction l with
  | nil => intro cs h; simp only [CellsL] at h; subst h; rfl
  | cons x l ih => rintro cs ⟨c1, c2, rfl, h1, h2⟩; rw [List.all_append, Rep.one h1, ih h2]; rfl
theorem CellsL.append : ∀ {l : List α} {cs : List Value} {l' : List α} {cs' : List Value}, CellsL σ cs l → CellsL σ cs' l' → CellsL σ (cs ++ cs') (l ++ l') := by
  intro l
  induction l with
  | nil => intro cs l' cs' h h'; simp only [CellsL] at h; subst h; exact h'
  | cons x l ih => rintro cs l' cs' ⟨c1, c2, rfl, h1, h2⟩ h'; exact ⟨c1, c2 ++ cs', by simp, h1, ih h2 h'⟩
theorem CellsL.one_ {x : α} {cs : List Value} (h : Rep.rep σ cs x) : CellsL σ cs [x] := ⟨cs, [], by simp, h, rfl⟩
theorem CellsL.rowAt {b : Nat} : ∀ {l : List α} {cs : List Value} {o : Nat}, CellsL σ cs l → (∀ j, j < cs.length → σ.cell b (o + j) = cs[j]?) → RowAt σ b o l := by
  intro l
  induction l with
  | nil => intro cs o _ _ i hi; simp at hi
  | cons x l ih =>
    rintro cs o ⟨c1, c2, rfl, h1, h2⟩ hc i hi
    have hl := Rep.len h1
    cases i with
    | zero =>
      refine ⟨c1, fun j hj => ?_, h1⟩
      have := hc j (by rw [List.length_append]; omega)
      rw [List.getElem?_append_left (by omega)] at this
      simpa using this
    | succ i =>
      obtain ⟨vs, g1, g2⟩ := ih (o := o + c1.length) h2 (fun j hj => by
        have := hc (c1.length + j) (by rw [List.length_append]; omega)
        rw [List.getElem?_append_right (by omega), show c1.length + j - c1.length = j by omega] at this
        rw [← this]; congr 1; omega) i (by simpa using hi)
      refine ⟨vs, fun j hj => ?_, by simpa using g2⟩
      rw [← g1 j hj]; congr 1; rw [hl, Nat.succ_mul]; omega
theorem RowAt.cells {b : Nat} : ∀ {l : List α} {o : Nat}, RowAt σ b o l → ∃ cs, CellsL σ cs l ∧ ∀ j, j < cs.length → σ.cell b (o + j) = cs[j]? := by
  intro l
  induction l with
  | nil => intro o _; exact ⟨[], rfl, fun j hj => by simp at hj⟩
  | cons x l ih =>
    intro o h
    obtain ⟨vs, g1, g2⟩ := h 0 (by simp)
    obtain ⟨cs, g3, g4⟩ := ih (o := o + Rep.sz α) (fun i hi => by
      obtain ⟨vs, k1, k2⟩ := h (i + 1) (by simpa using hi)
      refine ⟨vs, fun j hj => ?_, by simpa using k2⟩
      rw [← k1 j hj]; congr 1; rw [Nat.succ_mul]; omega)
    have hl := Rep.len g2
    refine ⟨vs ++ cs, ⟨vs, cs, rfl, by simpa using g2, g3⟩, fun j hj => ?_⟩
    by_cases hj' : j < vs.length
    · rw [List.getElem?_append_left hj']
      have := g1 j (by omega)
      simpa using this
    · rw [List.getElem?_append_right (by omega)]
      rw [List.length_append] at hj
      have := g4 (j - vs.length) (by omega)
      rw [← this]; congr 1; omega
theorem RepL.cells {a : Option Addr} {m cap : Nat} {l : List α} (h : RepL σ (.slice a m cap) l) : ∃ cs, CellsL σ cs l ∧ (l ≠ [] → ∃ b o, a = some ⟨b, o, none⟩ ∧ ∀ j, j < cs.length → σ.cell b (o + j) = cs[j]?) := by
  by_cases hn : l = []
  · subst hn; exact ⟨[], rfl, fun h => absurd rfl h⟩
  · obtain ⟨b, o, e, r⟩ := h.addr hn
    obtain ⟨cs, h1, h2⟩ := r.cells
    exact ⟨cs, h1, fun _ => ⟨b, o, e, h2⟩⟩
end
section
variable {α : Type} [Rep α] {w0 w : World} {M : Nat → Prop} {σ τ : PH} {K K' : List HP}
theorem Sat.rowNew {v : Value} {e s m : Nat} {cs : List Value} {put : HP → List HP} {l : List α} (hw : Sat w0 (fun _ => False) σ K w) (hc : CellsL τ cs l) (ht : PH.le τ (since w0 w)) (hl : l.length ≤ 140737488355328) (hf : FindR v K e s m cs put K' := by infer_instance) (hs : s = Rep.sz α := by rfl) (hm : m = l.length := by first | rfl | simp | omega) :
    RepL (since w0 w) v l := by
  obtain ⟨a, cap, σ', rfl, h2, h3, h4, h5, h6, h7⟩ := hw.freezeRow hf
  subst hs; subst hm
  refine ⟨hl, a, cap, rfl, h2, fun hn => ?_⟩
  rcases h7 with ⟨h8, _⟩ | ⟨b, rfl, g1, _, g2, g3⟩
  · exact absurd (List.eq_nil_of_length_eq_zero h8) hn
  · refine ⟨b, 0, rfl, (hc.mono ht).rowAt fun j hj => ?_⟩
    rw [hc.len] at hj
    have := g3 j hj
    rw [Nat.zero_add, ← this]
    have hb : ¬ b < w0.heap.size := fun h => g1 h
    show (match (if w0.heap.size ≤ b then w.heap[b]? else none) with | some (.cells c _ _) => c[j]? | _ => none) = match σ' b with | some (.cells c _ _) => c[j]? | _ => none
    rw [if_pos (by omega), g2]; rfl
end
section
variable {P : Program} {q : Bool} {ops : Array Oper} {f : FuncId} {R : Ending → World → Prop} {k : List Item} {n : Nat} {fr : Nat → Value} {w0 : World} {M : Nat → Prop} {σ : PH} {K K' : List HP}
variable {rest : List Oper} {d : Nat} {ty : TypeId} {pos : String} {aft : Array Edge} {x y z : Operand} {t t' : TypeId}
theorem callT {g : FuncId} {xs : Array Operand} {ts : Array TypeId} {args : List Value} (Q : Value → PH → Prop) [i : Fun P g]
    (h : ∀ v τ σ', Q v τ → New w0 τ → PH.le σ σ' → PH.le τ σ' → LS P false ops f R k rest n (upd fr d v) w0 M σ' K)
    (hc : ∀ w, Sat w0 M σ K w → Calls P g args.toArray w fun e w' => ∃ v, e = .returned v ∧ RowKit.Below w.heap.size w w' ∧ Q v (since w w')) (hx : xs.toList.map (ev n fr) = args := by rfl) :
    LS P false ops f R k (⟨some d, .call ⟨.value (.func g), xs, ts⟩, ty, pos, aft, none⟩ :: rest) n fr w0 M σ K :=
  callN (Q := fun v τ _ => Q v τ ∧ New w0 τ) (fun v τ σ' ⟨h1, h2⟩ h3 h4 => h v τ σ' h1 h2 h3 h4) hx (fun w hw => (hc w hw).mono fun _ _ ⟨v, h1, h2, h3⟩ => ⟨v, h1, h2, h3, New.since hw.size⟩)
theorem run_results1 {fn : Func} {r : ResultVar} {v : Value} {tmps : Array Value} {w : World} (h : fn.results = #[r]) (hv : (match r with | .tmp t => pure (tmps.getD t undef) | .cell a t => do loadVar t (← asAddr (tmps.getD a undef)) : Sem Value).run P w = .ok v w) : (results fn tmps).run P w = .ok v w := by
  cases r <;> simp only [results, h] <;> simp at hv ⊢ <;> simp [hv]
theorem tmps_at {t : Nat} {v : Value} (hv : ev n fr (.tmp t) = v) : (act n fr).tmps.getD t undef = v := by
  have := congrFun (act_eval n fr) (.tmp t); simp only [Act.eval] at this; rw [this, hv]
theorem RS.retC {fn : Func} {t b s : Nat} {cs : List Value} {ty T : TypeId} {put : HP → List HP} (hf : P.funcs[f]? = some fn) (vs : List Value) [ha : TAgg P ty] [hs : TSz P ty s] (h : ∀ w, Sat w0 M σ K w → R (.returned (.agg vs.toArray)) w)
    (hr : fn.results = #[.cell t ty] := by rfl) (hv : ev n fr (.tmp t) = .pointer (some ⟨b, 0, none⟩) := by rfl) (hb : FindB b K (.cells cs.toArray T (0, 0)) put K' := by infer_instance) (hc : takeAt cs 0 s = some vs := by rfl) :
    RS P f R (.code .ret :: k) n fr w0 M σ K := by
  refine ⟨fun w hw => ?_⟩
  refine Run.ret hf (run_results1 hr ?_) rfl (h w hw)
  have hbb := hw.get (i := hb)
  obtain ⟨hl, hcc⟩ := takeAt_spec _ _ _ _ hc
  have := run_loadVarA (P := P) (w := w) (b := b) ha.agg hs.eq 0 hl (fun j hj => (cell_blk hbb (0 + j)).trans (hcc j hj))
  simp only [tmps_at hv]
  simp [asAddr, this]
theorem LS.asRow {l : List Oper} {e b m s : Nat} {cs : List Value} {put : HP → List HP} (hf : FindB b K (.cells cs.toArray e (0, 0)) put K') (hset : ∀ {A : HP} {g : VH} {F : Nat → Prop}, SepIn g (A :: K') F → SepIn g (put A) F) (hl : cs.length = m * s) (h1 : cs.all (·.oneCell') = true) (hm : m ≤ 9223372036854775807)
    (h : LS P false ops f R k l n fr w0 M σ (put (rowH e s (.slice (some ⟨b, 0, none⟩) m m) m cs))) : LS P false ops f R k l n fr w0 M σ K :=
  ⟨fun w hw => h.out w (hw.weak fun F hF => by
    obtain ⟨F1, ⟨g1, g2⟩, g3, g4⟩ := hf.get hF
    exact hset ⟨F1, ⟨hl, h1, _, _, rfl, Nat.le_refl _, hm, .inr ⟨b, cs, rfl, g1, g2, Nat.le_of_eq hl.symm, by rw [← hl]; simp⟩⟩, g3, g4⟩)⟩
theorem LS.formR {l : List Oper} {v : Value} {e s m : Nat} {cs : List Value} {put : HP → List HP} (hf : FindR v K e s m cs put K') (h : ∀ a cap, v = .slice a m cap → LS P false ops f R k l n fr w0 M σ K) : LS P false ops f R k l n fr w0 M σ K :=
  ⟨fun w hw => by
    obtain ⟨F, ⟨_, _, a, cap, e, _⟩, _⟩ := hw.getR (i := hf)
    exact (h a cap e).out w hw⟩
theorem RS.formR {v : Value} {e s m : Nat} {cs : List Value} {put : HP → List HP} (hf : FindR v K e s m cs put K') (h : ∀ a cap, v = .slice a m cap → RS P f R k n fr w0 M σ K) : RS P f R k n fr w0 M σ K :=
  ⟨fun w hw => by
    obtain ⟨F, ⟨_, _, a, cap, e, _⟩, _⟩ := hw.getR (i := hf)
    exact (h a cap e).out w hw⟩
theorem Sat.rowRep {α : Type} [Rep α] {τ : PH} {w : World} {v : Value} {e s m : Nat} {cs : List Value} {put : HP → List HP} {l : List α} (hw : Sat w0 M σ K w) (hc : CellsL τ cs l) (ht : PH.le τ (hp w)) (hl : l.length ≤ 140737488355328) (hf : FindR v K e s m cs put K' := by infer_instance) (hs : s = Rep.sz α := by rfl) (hm : m = l.length := by first | rfl | simp | omega) : RepL (hp w) v l := by
  obtain ⟨F, ⟨h1, h1c, a, cap, rfl, h2, h3, h4⟩, _⟩ := hw.getR (i := hf)
  subst hs; subst hm
  refine ⟨hl, a, cap, rfl, h2, fun hn => ?_⟩
  rcases h4 with ⟨h8, _⟩ | ⟨b, c0, rfl, _, g1, _, g3⟩
  · exact absurd (List.eq_nil_of_length_eq_zero h8) hn
  · refine ⟨b, 0, rfl, (hc.mono ht).rowAt fun j hj => ?_⟩
    rw [hc.len] at hj
    have g1 : hp w b = _ := g1
    have : PH.cell (hp w) b (0 + j) = c0[j]? := by simp [PH.cell, g1]
    rw [this, ← g3, List.getElem?_take, if_pos hj]
end
end Go.JW
namespace Go.JW

theorem SepIn.cat {g : VH} : ∀ {A K : List HP} {F1 F2 : Nat → Prop}, SepIn g A F1 → SepIn g K F2 → (∀ b, F1 b → ¬ F2 b) → SepIn g (A ++ K) (fun b => F1 b ∨ F2 b) := by
  intro A
  induction A with
  | nil => intro K F1 F2 _ h _; exact h.mono fun b hb => .inr hb
  | cons B A ih =>
    rintro K F1 F2 ⟨G, g1, g2, g3⟩ h hd
    refine ⟨G, g1, fun b hb => .inl (g2 b hb), (ih g3 h fun b hb => hd b hb.1).mono fun b hb => ?_⟩
    rcases hb with hb | hb
    · exact ⟨.inl hb.1, hb.2⟩
    · exact ⟨.inr hb, fun hG => hd b (g2 b hG) hb⟩
structure Post (τ : PH) (Ko : List HP) (w w' : World) : Prop where
  below : RowKit.Below w.heap.size w w'
  new : New w τ
  imm : PH.le τ (hp w')
  sep : SepIn ⟨τ, hp w'⟩ Ko (fun b => w.heap.size ≤ b ∧ b < w'.heap.size ∧ τ b = none)
theorem Sat.post {w w' : World} {σ τ : PH} {K Ko : List HP} (h : Sat w (fun _ => False) σ K w') (hn : New w τ) (hle : PH.le τ σ) (hk : ∀ F, SepIn ⟨σ, hp w'⟩ K F → SepIn ⟨τ, hp w'⟩ Ko F) : Post τ Ko w w' where
  below := h.below
  new := hn
  imm b o hb := h.imm b o (hle b o hb)
  sep := (hk _ h.sep).mono fun b ⟨h1, h2⟩ => by
    have hb : w.heap.size ≤ b := by
      refine Nat.le_of_not_lt fun hlt => ?_
      have := h.keep b hlt (fun h => h)
      rw [h2] at this
      have h5 : w.heap[b]? = some w.heap[b] := Array.getElem?_eq_getElem hlt
      rw [h5] at this; cases this
    refine ⟨hb, h1, ?_⟩
    cases e : τ b with
    | none => rfl
    | some o => have := hle b o e; rw [h2] at this; cases this
def joinPH (w : World) (σ τ : PH) : PH := fun b => if w.heap.size ≤ b then τ b else σ b
theorem Sat.join {w0 w w' : World} {M : Nat → Prop} {σ τ : PH} {K Ko : List HP} (h : Sat w0 M σ K w) (p : Post τ Ko w w') : PH.le σ (joinPH w σ τ) ∧ PH.le τ (joinPH w σ τ) ∧ Sat w0 M (joinPH w σ τ) (Ko ++ K) w' := by
  have e := h.ext p.below
  have hs := h.size
  refine ⟨fun b o hb => ?_, fun b o hb => ?_, ⟨e.os, e.tape, e.output, e.size, fun b hb hM => ?_, fun b o hb => ?_, ?_⟩⟩
  · have := hp_lt (h.imm b o hb)
    simp only [joinPH]; rw [if_neg (by omega)]; exact hb
  · have : ¬ b < w.heap.size := fun hlt => by rw [p.new b hlt] at hb; cases hb
    simp only [joinPH]; rw [if_pos (by omega)]; exact hb
  · simp only [joinPH]; rw [if_neg (by omega)]; exact h.keep b hb hM
  · simp only [joinPH] at hb
    split at hb
    · exact p.imm b o hb
    · exact e.imm b o hb
  · have h2 : SepIn ⟨joinPH w σ τ, hp w'⟩ K (fun b => b < w.heap.size ∧ σ b = none) := h.sep.over (fun b hb => p.below.block b hb.1) (fun b o hb => by
      have := hp_lt (h.imm b o hb)
      simp only [joinPH]; rw [if_neg (by omega)]; exact hb)
    have h1 : SepIn ⟨joinPH w σ τ, hp w'⟩ Ko (fun b => w.heap.size ≤ b ∧ b < w'.heap.size ∧ τ b = none) := p.sep.over (fun _ _ => rfl) (fun b o hb => by
      have : ¬ b < w.heap.size := fun hlt => by rw [p.new b hlt] at hb; cases hb
      simp only [joinPH]; rw [if_pos (by omega)]; exact hb)
    refine (SepIn.cat h1 h2 fun b hb hb' => by omega).mono fun b hb => ?_
    rcases hb with hb | hb
    · exact ⟨hb.2.1, by simp only [joinPH]; rw [if_pos hb.1]; exact hb.2.2⟩
    · exact ⟨Nat.lt_of_lt_of_le hb.1 p.below.size, by simp only [joinPH]; rw [if_neg (by omega)]; exact hb.2⟩
section
variable {P : Program} {q : Bool} {ops : Array Oper} {f : FuncId} {R : Ending → World → Prop} {k : List Item} {n : Nat} {fr : Nat → Value} {w0 : World} {M : Nat → Prop} {σ : PH} {K K' : List HP}
variable {rest : List Oper} {d : Nat} {ty : TypeId} {pos : String} {aft : Array Edge} {x y z : Operand} {t t' : TypeId}
theorem bin_eql_B {a b : Bool} [ht : TBool P t] (h : LS P q ops f R k rest n (upd fr d (.bool (a == b))) w0 M σ K) (hx : ev n fr x = .bool a := by rfl) (hy : ev n fr y = .bool b := by rfl) :
    LS P q ops f R k (⟨some d, .binOp .eql t x y t', ty, pos, aft, none⟩ :: rest) n fr w0 M σ K :=
  LS.val rfl rfl (fun w _ => by
    have e : (Op.equal t (.bool a) (.bool b)).run P w = .ok (a == b) w := run_equalIn_bool' w 9999 t a b ht.eq
    simp only [execOp, hx, hy, eqGuard, Sem.run_bind]
    simp [binOp, e]) h
theorem b2sB {e T b m c : Nat} {cs : List Value} {put : HP → List HP} (bs : List Int) [ht : TSlice P t e] [he : TInt P e .u8] [hd : TStr P t'] (h : LS P q ops f R k rest n (upd fr d (.string (bs.foldl (fun r n => r.push (UInt8.ofNat n.toNat)) ByteArray.empty))) w0 M σ K)
    (hx : ev n fr x = .slice (some ⟨b, 0, none⟩) m c := by rfl) (hf : FindB b K (.cells cs.toArray T (0, 0)) put K' := by infer_instance) (hc : takeAt cs 0 m = some (bs.map (Value.int .u8)) := by rfl) :
    LS P q ops f R k (⟨some d, .convert t t' x, ty, pos, aft, none⟩ :: rest) n fr w0 M σ K :=
  LS.val rfl rfl (fun w hw => by
    have hb := hw.get (i := hf)
    obtain ⟨g1, g2⟩ := takeAt_spec _ _ _ _ hc
    have h3 : (loadCells ⟨b, 0, none⟩ m).run P w = .ok (bs.map (Value.int .u8)).toArray w := by
      have := run_loadFrom (P := P) (w := w) (b := b) (fun j => w.cell? ⟨b, j, none⟩) (fun j v h => h) m 0 0 #[] (bs.map (Value.int .u8)) g1 (fun j hj => by
        simpa using (cell_blk hb (0 + j)).trans (g2 j hj))
      simpa [loadCells] using this
    have := run_bytesToString (P := P) w ⟨b, 0, none⟩ m c bs h3
    simp only [execOp, hx]
    rw [Sem.run_bind, run_convert_bytes_string w t t' e _ _ _ ht.eq he.eq hd.eq, this]
    rfl) h
variable {H : HS} {Kb : List HP} {E : List Nat} {sg : Bool} {tags : List Tag}
end
end Go.JW
namespace Go.JW

def fromN (N : Nat) (σ : PH) : PH := fun b => if N ≤ b then σ b else none
theorem fromN_le (N : Nat) (σ : PH) : PH.le (fromN N σ) σ := fun b o h => by
  simp only [fromN] at h; split at h
  · exact h
  · cases h
theorem fromN_mono {N N' : Nat} {σ σ' : PH} (hN : N' ≤ N) (h : PH.le σ σ') : PH.le (fromN N σ) (fromN N' σ') := fun b o hb => by
  simp only [fromN] at hb ⊢; split at hb
  · rw [if_pos (by omega)]; exact h b o hb
  · cases hb
theorem fromN_up {N : Nat} {σ σ' : PH} (h : PH.le σ σ') : PH.le (fromN N σ) (fromN N σ') := fromN_mono (Nat.le_refl _) h
theorem fromN_zero (σ : PH) : fromN 0 σ = σ := by funext b; simp [fromN]
def rowD (N : Nat) {α : Type} [Rep α] (e : TypeId) (v : Value) (l : List α) : HP :=
  ⟨fun g F => ∃ cs, CellsL (fromN N g.imm) cs l ∧ (rowH e (Rep.sz α) v l.length cs).h g F,
   fun ⟨cs, h1, h2⟩ hg hi => ⟨cs, h1.mono (fromN_up hi), (rowH e (Rep.sz α) v _ cs).loc h2 hg hi⟩⟩
class FindD (v : Value) (K : List HP) (α : outParam Type) (ri : outParam (Rep α)) (N e : outParam Nat) (l : outParam (List α)) (put : outParam (HP → List HP)) (K' : outParam (List HP)) : Prop where
  get : ∀ {g : VH} {F : Nat → Prop}, SepIn g K F → SepIn g (rowD N e v l :: K') F
  set : ∀ {A : HP} {g : VH} {F : Nat → Prop}, SepIn g (A :: K') F → SepIn g (put A) F
instance FindD.tail {v : Value} {K : List HP} {α : Type} {ri : Rep α} {N e : Nat} {l : List α} {put : HP → List HP} {K' : List HP} {B : HP} [i : FindD v K α ri N e l put K'] : FindD v (B :: K) α ri N e l (fun A => B :: put A) (B :: K') where
  get h := SepIn.swap (SepIn.cons_sub (fun _ => i.get) h)
  set h := SepIn.cons_sub (fun _ => i.set) (SepIn.swap h)
instance FindD.head {v : Value} {K : List HP} {α : Type} {ri : Rep α} {N e : Nat} {l : List α} : FindD v (rowD N e v l :: K) α ri N e l (fun A => A :: K) K where
  get h := h
  set h := h
section
variable {w0 w : World} {M : Nat → Prop} {σ τ : PH} {K K' : List HP} {v : Value} {α : Type} {ri : Rep α} {N e : Nat} {l : List α} {put : HP → List HP}
theorem Sat.openD (hw : Sat w0 M σ K w) (hf : FindD v K α ri N e l put K' := by infer_instance) : ∃ cs, CellsL (fromN N σ) cs l ∧ Sat w0 M σ (rowH e (Rep.sz α) v l.length cs :: K') w := by
  obtain ⟨F1, ⟨cs, h1, h2⟩, h3, h4⟩ := hf.get hw.sep
  exact ⟨cs, h1, hw.os, hw.tape, hw.output, hw.size, hw.keep, hw.imm, F1, h2, h3, h4⟩
theorem Sat.closeD {cs : List Value} {s m : Nat} (hw : Sat w0 M σ (rowH e s v m cs :: K) w) (hc : CellsL (fromN N σ) cs l) (hm : m = l.length := by first | rfl | simp | omega) (hs : s = Rep.sz α := by rfl) : Sat w0 M σ (rowD N e v l :: K) w := by
  subst hm; subst hs
  exact hw.one fun F h => ⟨cs, hc, h⟩
theorem Sat.formD (hw : Sat w0 M σ K w) (hf : FindD v K α ri N e l put K' := by infer_instance) : ∃ a cap, v = .slice a l.length cap ∧ l.length ≤ cap ∧ cap ≤ 9223372036854775807 := by
  obtain ⟨cs, _, h⟩ := hw.openD hf
  obtain ⟨F, ⟨_, _, a, cap, e, h1, h2, _⟩, _⟩ := h.getR (i := FindR.head)
  exact ⟨a, cap, e, h1, h2⟩
theorem Sat.formE (hw : Sat w0 M σ K w) (hf : FindD v K α ri N e l put K' := by infer_instance) : ∃ a m c, v = .slice a m c := let ⟨a, c, e, _⟩ := hw.formD hf; ⟨a, _, c, e⟩
theorem Sat.rowRepD (hw : Sat w0 M σ K w) (hl : l.length ≤ 140737488355328) (hf : FindD v K α ri N e l put K' := by infer_instance) : RepL (hp w) v l := by
  obtain ⟨cs, hc, h⟩ := hw.openD hf
  exact h.rowRep hc (PH.le_trans (fromN_le N σ) hw.imm) hl (hf := FindR.head) rfl rfl
theorem Sat.rowNewD {w0 w : World} {σ : PH} {K K' : List HP} {v : Value} {α : Type} {ri : Rep α} {N e : Nat} {l : List α} {put : HP → List HP} (hw : Sat w0 (fun _ => False) σ K w) (hN : w0.heap.size ≤ N) (hl : l.length ≤ 140737488355328) (hf : FindD v K α ri N e l put K' := by infer_instance) : RepL (since w0 w) v l := by
  obtain ⟨cs, hc, h⟩ := hw.openD hf
  refine h.rowNew hc (fun b o hb => ?_) hl (hf := FindR.head) rfl rfl
  have h1 := hw.imm b o (fromN_le N σ b o hb)
  simp only [fromN] at hb
  split at hb
  · simp only [since]; rw [if_pos (by omega)]; exact h1
  · cases hb
end
section
variable {P : Program} {q : Bool} {ops : Array Oper} {f : FuncId} {R : Ending → World → Prop} {k : List Item} {n : Nat} {fr : Nat → Value} {w0 : World} {M : Nat → Prop} {σ : PH} {K K' : List HP}
variable {rest : List Oper} {d : Nat} {ty : TypeId} {pos : String} {aft : Array Edge} {x y z : Operand} {t t' : TypeId}
variable {v : Value} {α : Type} {ri : Rep α} {N e : Nat} {l l' : List α} {put : HP → List HP}
theorem RS.openD (hf : FindD v K α ri N e l put K') (h : ∀ cs, CellsL (fromN N σ) cs l → RS P f R k n fr w0 M σ (rowH e (Rep.sz α) v l.length cs :: K')) : RS P f R k n fr w0 M σ K :=
  ⟨fun w hw => by obtain ⟨cs, h1, h2⟩ := hw.openD hf; exact (h cs h1).out w h2⟩
theorem RS.closeD [Rep α] (N : Nat) (l : List α) {v : Value} {cs : List Value} {s m : Nat} (hf : FindR v K e s m cs put K') (hc : CellsL (fromN N σ) cs l) (h : RS P f R k n fr w0 M σ (rowD N e v l :: K')) (hm : m = l.length := by first | rfl | simp | omega) (hs : s = Rep.sz α := by rfl) : RS P f R k n fr w0 M σ K :=
  ⟨fun w hw => h.out w ((hw.weak fun _ => hf.get).closeD hc hm hs)⟩
theorem RS.nilD (N : Nat) (α : Type) [ri : Rep α] (e : Nat) (h : RS P f R k n fr w0 M σ (rowD N e (.slice none 0 0) ([] : List α) :: K)) : RS P f R k n fr w0 M σ K :=
  RS.nilRow e (Rep.sz α) (RS.closeD N ([] : List α) (FindR.head) rfl h rfl rfl)
theorem RS.formD (v : Value) (h : ∀ a cap, v = .slice a l.length cap → l.length ≤ cap → RS P f R k n fr w0 M σ K) (hf : FindD v K α ri N e l put K' := by infer_instance) : RS P f R k n fr w0 M σ K :=
  ⟨fun w hw => by obtain ⟨a, cap, e, h1, _⟩ := hw.formD hf; exact (h a cap e h1).out w hw⟩
theorem LS.formD {L : List Oper} (v : Value) (h : ∀ a cap, v = .slice a l.length cap → l.length ≤ cap → LS P false ops f R k L n fr w0 M σ K) (hf : FindD v K α ri N e l put K' := by infer_instance) : LS P false ops f R k L n fr w0 M σ K :=
  ⟨fun w hw => by obtain ⟨a, cap, e, h1, _⟩ := hw.formD hf; exact (h a cap e h1).out w hw⟩
theorem appRunD {w : World} {s by_ : Nat} {zs : List Value} {vy : Value} [ht : TSlice P t e] [hs : TSz P e s] [hby : TBytes P e by_] [hz : TZero P e zs] (hf : FindD v K α ri N e l put K') (hw : Sat w0 M σ K w)
    (hsrc : ∃ news, Src P s t' vy l'.length news w ∧ CellsL (fromN N σ) news l') (hss : s = Rep.sz α) (hzs : Nat.beq zs.length s = true) (hb : (l.length + l'.length) * by_ ≤ 140737488355328) (hm : l.length + l'.length ≤ 140737488355328) :
    ∃ v' w', (Builtin.append_ #[t, t'] ty #[v, vy]).run P w = .ok v' w' ∧ Sat w0 M σ (put (rowD N e v' (l ++ l'))) w' := by
  subst hss
  obtain ⟨news, h1, h2⟩ := hsrc
  obtain ⟨cs, hc, h⟩ := hw.openD hf
  obtain ⟨v', w', g1, g2⟩ := appRun (t := t) (ty := ty) (hf := FindR.head) h h1 hzs hb hm
  exact ⟨v', w', g1, (g2.closeD (hc.append h2) (by simp) rfl).weak fun _ => hf.set⟩
theorem appD {s by_ : Nat} {zs : List Value} {vy : Value} (v : Value) (l' : List α) [ht : TSlice P t e] [hs : TSz P e s] [hby : TBytes P e by_] [hz : TZero P e zs]
    (hsrc : ∀ w, Sat w0 M σ K w → ∃ news, Src P s t' vy l'.length news w ∧ CellsL (fromN N σ) news l')
    (h : ∀ v', LS P false ops f R k rest n (upd fr d v') w0 M σ (put (rowD N e v' (l ++ l')))) (hx : ev n fr x = v := by rfl) (hy : ev n fr y = vy := by rfl) (hf : FindD v K α ri N e l put K' := by infer_instance)
    (hss : s = Rep.sz α := by rfl) (hzs : Nat.beq zs.length s = true := by rfl) (hb : (l.length + l'.length) * by_ ≤ 140737488355328 := by first | omega | (simp only [List.length_cons, List.length_nil]; omega)) (hm : l.length + l'.length ≤ 140737488355328 := by first | omega | (simp only [List.length_cons, List.length_nil]; omega)) :
    LS P false ops f R k (⟨some d, .call ⟨.builtin .append, #[x, y], #[t, t']⟩, ty, pos, aft, none⟩ :: rest) n fr w0 M σ K :=
  LS.valW rfl rfl fun w hw => by
    obtain ⟨v', w', h1, h2⟩ := appRunD (t := t) (ty := ty) hf hw (hsrc w hw) hss hzs hb hm
    exact ⟨v', w', σ, _, by simp [execOp, resolve, invoke, builtin, hx, hy, h1], h2, h v'⟩
theorem srcD {w : World} {e' : Nat} {vy : Value} {τ : PH} (hw : Sat w0 M σ K w) (hk : P.underlying t' = some (.slice e')) (hr : RepL τ vy l') (ht : PH.le τ σ) : ∃ news, Src P (Rep.sz α) t' vy l'.length news w ∧ CellsL τ news l' := by
  obtain ⟨a, cap, rfl⟩ := hr.form
  obtain ⟨cs, h1, h2⟩ := hr.cells
  exact ⟨cs, srcS hw hk h1.len (fun hn => by obtain ⟨b, o, e, g⟩ := h2 hn; exact ⟨b, o, e, fun j hj => PH.cells_mono ht rfl g j hj⟩) h1.one, h1⟩
variable {H : HS} {O : List (Nat × Obj)} {Kf : Us → List HP} {Kb : List HP} {E : List Nat} {sg : Bool} {tags : List Tag}
theorem D.appD {s by_ : Nat} {zs : List Value} {vy : Us → Value} (v : Value) (l' : List α) [ht : TSlice P t e] [hs : TSz P e s] [hby : TBytes P e by_] [hz : TZero P e zs]
    (h : LD P f R k n w0 M σ Kb rest tags ⟨fr, (d, fun _ _ => True) :: H, O, fun us => put (rowD N e (us d) (l ++ l')), d :: ((Stg.mk fr H O (fun _ => K) E false).seen ⟨some d, .call ⟨.builtin .append, #[x, y], #[t, t']⟩, ty, pos, aft, none⟩ ++ E), false⟩)
    (hsrc : ∀ us σ', PH.le σ σ' → Facts H (readsTmp ⟨some d, .call ⟨.builtin .append, #[x, y], #[t, t']⟩, ty, pos, aft, none⟩) us σ' → ∃ τ, RepL τ (vy us) l' ∧ PH.le τ (fromN N σ'))
    (hx : ∀ us, ev n (fill fr H us) x = v := by intro _; rfl) (hy : ∀ us, ev n (fill fr H us) y = vy us := by intro _; rfl) (hf : FindD v K α ri N e l put K' := by infer_instance)
    (hL : ∀ u, Less (put (rowD N e u (l ++ l'))) Kb := by intro _; infer_instance) (hk : ∃ e', P.underlying t' = some (.slice e') := by exact ⟨_, TSlice.eq⟩)
    (hss : s = Rep.sz α := by rfl) (hzs : Nat.beq zs.length s = true := by rfl) (hb : (l.length + l'.length) * by_ ≤ 140737488355328 := by first | omega | (simp only [List.length_cons, List.length_nil]; omega)) (hm : l.length + l'.length ≤ 140737488355328 := by first | omega | (simp only [List.length_cons, List.length_nil]; omega)) :
    LD P f R k n w0 M σ Kb (⟨some d, .call ⟨.builtin .append, #[x, y], #[t, t']⟩, ty, pos, aft, none⟩ :: rest) (.eff :: tags) ⟨fr, H, O, fun _ => K, E, false⟩ := by
  refine D.eff (fun _ _ => True) (fun us => put (rowD N e (us d) (l ++ l'))) _ (fun _ _ _ _ _ => trivial) (fun us => hL _) h (fun us σ' w X hle hfs hw => ?_) (fun us => ?_)
  · obtain ⟨τ, h1, h2⟩ := hsrc us σ' hle hfs
    obtain ⟨e', hk⟩ := hk
    obtain ⟨news, g1, g2⟩ := srcD (t' := t') hw hk h1 (PH.le_trans h2 (fromN_le _ _))
    obtain ⟨v', w', h3, h4⟩ := appRunD (t := t) (t' := t') (ty := ty) (v := v) (FindD.tail (i := hf)) hw ⟨news, by subst hss; exact g1, g2.mono h2⟩ hss hzs hb hm
    refine .inl ⟨v', w', by simp [execOp, resolve, invoke, builtin, hx us, hy us, h3], σ', PH.le_refl _, ?_, trivial⟩
    simpa [upd_eq] using h4
  · show put (rowD N e (resE _ us d) (l ++ l')) = _
    rw [resE_mem (by simp)]
theorem D.stU (s : Nat) (cs' : Us → List Value) {b off sz : Nat} {cs : List Value} {T : TypeId} {put : Us → HP → List HP} {K' : Us → List HP} [hs : TSz P t sz]
    (h : LD P f R k n w0 M σ Kb rest tags ⟨fr, H, [], fun us => put us (blk b (.cells (cs' us).toArray T (0, 0))), (Stg.mk fr H [] Kf E sg).seen ⟨none, .store t x y, ty, pos, aft, none⟩ ++ E, true⟩)
    (hx : ∀ us, ev n (fill fr H us) x = .pointer (some ⟨b, off, none⟩) := by intro _; rfl) (hy : ∀ us, ev n (fill fr H us) y = us s := by intro _; rfl) (hf : ∀ us, FindB b (Kf us) (.cells cs.toArray T (0, 0)) (put us) (K' us) := by intro _; infer_instance)
    (hform : ∀ us σ' w, Sat w0 M σ' (Kf us) w → ∃ a m c, us s = .slice a m c := by intro us σ' w hw; exact hw.formE)
    (hsz : sz = 1 := by rfl) (hr : off + 1 ≤ cs.length := by first | decide | omega | exact Nat.le_of_ble_eq_true rfl) (hc : ∀ us, setAt cs off [us s] = cs' us := by intro _; rfl)
    (hE : ∀ us, (fun us => put us (blk b (.cells (cs' us).toArray T (0, 0)))) (resE (([] : List (Nat × Obj)).map (·.1) ++ ((Stg.mk fr H [] Kf E sg).seen ⟨none, .store t x y, ty, pos, aft, none⟩ ++ E)) us) = put us (blk b (.cells (cs' us).toArray T (0, 0))) := by intro _; rfl) :
    LD P f R k n w0 M σ Kb (⟨none, .store t x y, ty, pos, aft, none⟩ :: rest) (.st :: tags) ⟨fr, H, [], Kf, E, sg⟩ :=
  D.st (fun us => put us (blk b (.cells (cs' us).toArray T (0, 0)))) (fun us => put us (blk b (.cells (cs' us).toArray T (0, 0)))) h (fun us σ' w hle hfs hw => by
    have hw : Sat w0 M σ' (Kf us) w := hw
    obtain ⟨a, m, c, e⟩ := hform us σ' w hw
    have hb := hw.get (i := hf us)
    subst hsz
    have hcl : cellsL (us s) = [us s] := by rw [e]; rfl
    have := run_storeVarL (P := P) (t := t) (v := us s) hb hs.eq off (by rw [hcl]; rfl) hr (by rw [e]; rfl)
    rw [hcl, hc us] at this
    exact ⟨_, by simp [execOp, hx us, hy us, Instr.storeAt, Instr.sureAddr, this], hw.put (i := hf us) _⟩) hE
def CellsV {α : Type} [Rep α] (σ : PH) : List Value → List α → Prop
  | [], [] => True
  | v :: vs, x :: l => Rep.rep σ (cellsL v) x ∧ CellsV σ vs l
  | _, _ => False
theorem CellsV.cat {α : Type} [Rep α] {σ : PH} : ∀ {vs : List Value} {l : List α}, CellsV σ vs l → ∃ cs, catL (Rep.sz α) vs = some cs ∧ CellsL σ cs l ∧ vs.length = l.length := by
  intro vs
  induction vs with
  | nil => intro l h; cases l with
    | nil => exact ⟨[], rfl, rfl, rfl⟩
    | cons _ _ => exact h.elim
  | cons v vs ih =>
    intro l h
    cases l with
    | nil => exact h.elim
    | cons x l =>
      obtain ⟨h1, h2⟩ := h
      obtain ⟨cs, g1, g2, g3⟩ := ih h2
      refine ⟨cellsL v ++ cs, ?_, ⟨_, _, rfl, h1, g2⟩, by simp [g3]⟩
      have : Nat.beq (cellsL v).length (Rep.sz α) = true := by rw [Rep.len h1]; exact Nat.beq_refl _
      simp [catL, this, g1]
def RepA {α : Type} [Rep α] (σ : PH) (v : Value) (x : α) : Prop := ∃ cs, v = .agg (List.toArray cs) ∧ Rep.rep σ cs x
theorem RepA.mono {α : Type} [Rep α] {σ σ' : PH} {v : Value} {x : α} (h : RepA σ v x) (hs : PH.le σ σ') : RepA σ' v x := let ⟨cs, e, r⟩ := h; ⟨cs, e, Rep.mono r hs⟩
theorem D.litT {α : Type} [Rep α] {e s : Nat} {zs : List Value} {parts : Array (Nat × Operand)} {len : Nat} {vs : Us → List Value} (N : Nat) (l : List α) [ht : TSlice P t e] [hs : TSz P e s] [hz : TZero P e zs]
    (h : LD P f R k n w0 M σ Kb rest tags ⟨fr, (d, fun v σ => RepL (fromN N σ) v l) :: H, O, Kf, E, false⟩)
    (ho : ∀ us σ', PH.le σ σ' → Facts H (readsTmp ⟨some d, .buildSlice t len parts, ty, pos, aft, none⟩) us σ' → CellsV (fromN N σ') (vs us) l)
    (hN : N ≤ w0.heap.size := by first | exact Nat.le_refl _ | exact Nat.zero_le _ | assumption)
    (hx : ∀ us, parts.toList.map (fun p => (p.1, ev n (fill fr H us) p.2)) = (vs us).zipIdx.map (fun p => (p.2, p.1)) := by intro _; rfl) (hl : ∀ us, Nat.beq (vs us).length len = true := by intro _; rfl) (hll : Nat.beq l.length len = true := by rfl)
    (hb : Nat.ble (len * s) 16777216 = true := by rfl) (hss : s = Rep.sz α := by rfl) (h47 : Nat.ble len 140737488355328 = true := by rfl) :
    LD P f R k n w0 M σ Kb (⟨some d, .buildSlice t len parts, ty, pos, aft, none⟩ :: rest) (.ex :: tags) ⟨fr, H, O, Kf, E, false⟩ := by
  subst hss
  refine D.bldS (vs := vs) (fun v σ => RepL (fromN N σ) v l) (fun v σ1 σ2 h hs => h.mono (fromN_up hs)) h (fun us σ' hle hfs => ?_) hx hl hb
  obtain ⟨cs, h1, h2, h3⟩ := (ho us σ' hle hfs).cat
  refine ⟨cs, h1, fun b σ'' hle2 hnb hcell => ?_⟩
  have hle3 := fromN_up (N := N) hle2
  have el := Nat.eq_of_beq_eq_true hll
  subst el
  refine ⟨Nat.le_of_ble_eq_true h47, _, _, rfl, Nat.le_refl _, fun _ => ⟨b, 0, rfl, (h2.mono hle3).rowAt fun j hj => ?_⟩⟩
  have : fromN N σ'' b = some (.cells cs.toArray e (0, 0)) := by
    simp only [fromN]; rw [if_pos (Nat.le_of_not_lt fun hlt => hnb (by omega))]; exact hcell
  simp [PH.cell, this]
end
end Go.JW
namespace Go.JW

section
variable {α : Type} [Rep α] {σ : PH}
theorem CellsL.at_ : ∀ {l : List α} {cs : List Value}, CellsL σ cs l → ∀ i (hi : i < l.length), ∃ c, Rep.rep σ c l[i] ∧ ∀ j, j < Rep.sz α → cs[i * Rep.sz α + j]? = c[j]? := by
  intro l
  induction l with
  | nil => intro cs _ i hi; simp at hi
  | cons x l ih =>
    rintro cs ⟨c1, c2, rfl, h1, h2⟩ i hi
    have hl := Rep.len h1
    cases i with
    | zero => exact ⟨c1, h1, fun j hj => by rw [Nat.zero_mul, Nat.zero_add, List.getElem?_append_left (by omega)]⟩
    | succ i =>
      obtain ⟨c, g1, g2⟩ := ih h2 i (by simpa using hi)
      refine ⟨c, by simpa using g1, fun j hj => ?_⟩
      rw [← g2 j hj, List.getElem?_append_right (by rw [Nat.succ_mul]; omega), hl, Nat.succ_mul]; congr 1; omega
theorem CellsL.take : ∀ {l : List α} {cs : List Value}, CellsL σ cs l → ∀ k, CellsL σ (cs.take (k * Rep.sz α)) (l.take k) := by
  intro l
  induction l with
  | nil => intro cs h k; simp only [CellsL] at h; subst h; simp [CellsL]
  | cons x l ih =>
    rintro cs ⟨c1, c2, rfl, h1, h2⟩ k
    have hl := Rep.len h1
    cases k with
    | zero => simp [CellsL]
    | succ k =>
      refine ⟨c1, c2.take (k * Rep.sz α), ?_, h1, ih h2 k⟩
      rw [List.take_append, List.take_of_length_le (by rw [Nat.succ_mul]; omega)]; congr 2; rw [Nat.succ_mul]; omega
end
section
variable {P : Program} {q : Bool} {ops : Array Oper} {f : FuncId} {R : Ending → World → Prop} {k : List Item} {n : Nat} {fr : Nat → Value} {w0 : World} {M : Nat → Prop} {σ : PH} {K K' : List HP}
variable {v : Value} {α : Type} {ri : Rep α} {N e : Nat} {l l' : List α} {put : HP → List HP}
variable {H : HS} {O : List (Nat × Obj)} {Kf : Us → List HP} {Kb : List HP} {E : List Nat} {sg : Bool} {tags : List Tag} {rest : List Oper} {d : Nat} {ty : TypeId} {pos : String} {aft : Array Edge} {x y z : Operand} {t t' : TypeId}
theorem D.slcHi (l : Nat) {a : Option Addr} {len cap s : Nat} {e : TypeId} {lo : Operand} {kk : IntKind} {j : Int} [ht : TSlice P t e] [hs : TSz P e s]
    (h : LD P f R k n w0 M σ Kb rest tags ⟨upd fr d (.slice a l cap), H, O, Kf, E, sg⟩) (hx : ∀ us, ev n (fill fr H us) x = .slice a len cap := by intro _; rfl) (hlo : ∀ us, ev n (fill fr H us) lo = .int kk j := by intro _; rfl) (hj : j = (l : Int) := by omega) (hl : l ≤ cap := by omega) :
    LD P f R k n w0 M σ Kb (⟨some d, .slice t x none (some lo) none, ty, pos, aft, none⟩ :: rest) (.free :: tags) ⟨fr, H, O, Kf, E, sg⟩ := by
  refine D.slc 0 l cap ?_ hx (fun us w => by subst hj; simp [Instr.sliceBounds, hlo us, run_sliceBound, hl])
  have e : (a.map (·.add (0 * s))) = a := by cases a <;> simp [Addr.add]
  simp only [e, Nat.sub_zero, ite_self]; exact h
end
end Go.JW
namespace Go.Proofs
open Go.Shelf
def Tryz.lays156_ren : Go.Shelf.Ren := ⟨fun | 156 => 63 | 165 => 80 | 166 => 81 | 169 => 82 | 240 => 96 | 241 => 97 | 276 => 120 | 277 => 121 | n => n, fun | 31 => 29 | 9 => 9 | 3 => 3 | 4 => 4 | 0 => 0 | 20 => 20 | 72 => 123 | 76 => 126 | 70 => 121 | 37 => 71 | 75 => 125 | 127 => 146 | 164 => 176 | 5 => 5 | 80 => 128 | n => n, fun | n => n⟩
theorem Tryz.lays156 : Go.Proofs.Lays.n156 Tryz.prog Tryz.lays156_ren := {
  mixed := by kernel_rfl
  f156 := Tryz.func63.trans (congrArg some (by kernel_rfl))
  f165 := Tryz.func80.trans (congrArg some (by kernel_rfl))
  f166 := Tryz.func81.trans (congrArg some (by kernel_rfl))
  f169 := Tryz.func82.trans (congrArg some (by kernel_rfl))
  f240 := Tryz.func96.trans (congrArg some (by kernel_rfl))
  f241 := Tryz.func97.trans (congrArg some (by kernel_rfl))
  f276 := Tryz.func120.trans (congrArg some (by kernel_rfl))
  f277 := Tryz.func121.trans (congrArg some (by kernel_rfl))
  t0 := Tryz.underlying0
  a0 := Tryz.isAgg0
  z0 := Tryz.sizeOf0
  v0 := Tryz.zeroValue0
  t3 := Tryz.underlying3
  a3 := Tryz.isAgg3
  z3 := Tryz.sizeOf3
  v3 := Tryz.zeroValue3
  t4 := Tryz.underlying4
  a4 := Tryz.isAgg4
  z4 := Tryz.sizeOf4
  v4 := Tryz.zeroValue4
  t9 := Tryz.underlying9
  a9 := Tryz.isAgg9
  z9 := Tryz.sizeOf9
  v9 := Tryz.zeroValue9
  t20 := Tryz.underlying20
  a20 := Tryz.isAgg20
  z20 := Tryz.sizeOf20
  v20 := Tryz.zeroValue20
  t31 := Tryz.underlying29
  a31 := Tryz.isAgg29
  z31 := Tryz.sizeOf29
  v31 := Tryz.zeroValue29
  t37 := Tryz.underlying71
  a37 := Tryz.isAgg71
  z37 := Tryz.sizeOf71
  v37 := Tryz.zeroValue71
  t70 := Tryz.underlying121
  a70 := Tryz.isAgg121
  z70 := Tryz.sizeOf121
  v70 := Tryz.zeroValue121
  t72 := Tryz.underlying123
  a72 := Tryz.isAgg123
  z72 := Tryz.sizeOf123
  v72 := Tryz.zeroValue123
  t75 := Tryz.underlying125
  a75 := Tryz.isAgg125
  z75 := Tryz.sizeOf125
  v75 := Tryz.zeroValue125
  t76 := Tryz.underlying126
  a76 := Tryz.isAgg126
  z76 := Tryz.sizeOf126
  v76 := Tryz.zeroValue126
  t127 := Tryz.underlying146
  a127 := Tryz.isAgg146
  z127 := Tryz.sizeOf146
  v127 := Tryz.zeroValue146
  t164 := Tryz.underlying176
  a164 := Tryz.isAgg176
  z164 := Tryz.sizeOf176
  v164 := Tryz.zeroValue176 }
theorem Tryz.Builder_Extra_156 : Builder.Extra Tryz.prog Tryz.lays156_ren := {
  sizeBuilder := by kernel_rfl
  liesBuilder := by kernel_rfl
  t5 := Tryz.underlying5
  a5 := Tryz.isAgg5
  z5 := Tryz.sizeOf5
  v5 := Tryz.zeroValue5
  infoByte := by kernel_rfl
  cellsByte := by kernel_rfl
  sizeByte := by kernel_rfl
  neB5 := by decide }
open Go.RowKit in
theorem Tryz.strings_Join_none (a : Option Addr) (c : Nat) (sep : ByteArray) (w : World) :
    Calls Tryz.prog 63 #[.slice a 0 c, .string sep] w fun e w' => e = .returned (.string ⟨#[]⟩) ∧ w' = w := Any.strings_Join_none Tryz.lays156 Tryz.Builder_Extra_156 a c sep w
open Go.RowKit in
theorem Tryz.strings_Join (bk o c : Nat) (xs : List ByteArray) (sep : ByteArray) (w : World) (hcells : ∀ (j : Nat) x, xs[j]? = some x → w.cell? ⟨bk, o + j, none⟩ = some (.string x)) (hbk : bk < w.heap.size) (hN : xs.length ≤ 140737488355328) (hcap : xs.length ≤ c) (hlen : (Lib.join (xs.map (·.data.toList)) sep.data.toList).length ≤ 140737488355328) :
    Calls Tryz.prog 63 #[.slice (some ⟨bk, o, none⟩) xs.length c, .string sep] w fun e w' => e = .returned (.string ⟨(Lib.join (xs.map (·.data.toList)) sep.data.toList).toArray⟩) ∧ Below w.heap.size w w' := Any.strings_Join Tryz.lays156 Tryz.Builder_Extra_156 bk o c xs sep w hcells hbk hN hcap hlen
def Tryz.lays103_ren : Go.Shelf.Ren := ⟨fun | 103 => 146 | 210 => 155 | 206 => 170 | n => n, fun | 9 => 9 | 4 => 4 | 24 => 106 | 3 => 3 | n => n, fun | n => n⟩
theorem Tryz.lays103 : Go.Proofs.Lays.n103 Tryz.prog Tryz.lays103_ren := {
  mixed := by kernel_rfl
  f103 := Tryz.func146.trans (congrArg some (by kernel_rfl))
  f206 := Tryz.func170.trans (congrArg some (by kernel_rfl))
  f210 := Tryz.func155.trans (congrArg some (by kernel_rfl))
  t3 := Tryz.underlying3
  a3 := Tryz.isAgg3
  z3 := Tryz.sizeOf3
  v3 := Tryz.zeroValue3
  t4 := Tryz.underlying4
  a4 := Tryz.isAgg4
  z4 := Tryz.sizeOf4
  v4 := Tryz.zeroValue4
  t9 := Tryz.underlying9
  a9 := Tryz.isAgg9
  z9 := Tryz.sizeOf9
  v9 := Tryz.zeroValue9
  t24 := Tryz.underlying106
  a24 := Tryz.isAgg106
  z24 := Tryz.sizeOf106
  v24 := Tryz.zeroValue106 }
open Go.RowKit in
theorem Tryz.strings_CutPrefix (s p : ByteArray) (w : World) :
    Calls Tryz.prog 146 #[.string s, .string p] w fun e w' => e = .returned (.tuple #[.string ⟨(Lib.trimPrefix s.data.toList p.data.toList).toArray⟩, .bool (Lib.hasPrefix s.data.toList p.data.toList)]) ∧ w' = w := Any.strings_CutPrefix Tryz.lays103 s p w
def Tryz.laysM171_ren : Go.Shelf.Ren := ⟨fun | 171 => 61 | 243 => 79 | 246 => 95 | 283 => 116 | 284 => 117 | 285 => 118 | 286 => 119 | 129 => 141 | 317 => 140 | 318 => 142 | 319 => 143 | 320 => 144 | 337 => 153 | 338 => 154 | n => n, fun | 3 => 3 | 9 => 9 | 2 => 2 | 4 => 4 | 171 => 170 | 0 => 0 | 53 => 171 | 37 => 71 | 5 => 5 | 173 => 174 | 212 => 190 | 51 => 142 | 20 => 20 | 213 => 191 | 46 => 95 | 232 => 209 | 233 => 210 | n => n, fun | 17 => 2 | 18 => 4 | 19 => 5 | n => n⟩
theorem Tryz.laysM171 : Go.Proofs.LaysM.n171 Tryz.prog Tryz.laysM171_ren := {
  mixed := by kernel_rfl
  f129 := Tryz.func141.trans (congrArg some (by kernel_rfl))
  f171 := Tryz.func61.trans (congrArg some (by kernel_rfl))
  f243 := Tryz.func79.trans (congrArg some (by kernel_rfl))
  f246 := Tryz.func95.trans (congrArg some (by kernel_rfl))
  f283 := Tryz.func116.trans (congrArg some (by kernel_rfl))
  f284 := Tryz.func117.trans (congrArg some (by kernel_rfl))
  f285 := Tryz.func118.trans (congrArg some (by kernel_rfl))
  f286 := Tryz.func119.trans (congrArg some (by kernel_rfl))
  f317 := Tryz.func140.trans (congrArg some (by kernel_rfl))
  f318 := Tryz.func142.trans (congrArg some (by kernel_rfl))
  f319 := Tryz.func143.trans (congrArg some (by kernel_rfl))
  f320 := Tryz.func144.trans (congrArg some (by kernel_rfl))
  f337 := Tryz.func153.trans (congrArg some (by kernel_rfl))
  f338 := Tryz.func154.trans (congrArg some (by kernel_rfl))
  t0 := Tryz.underlying0
  a0 := Tryz.isAgg0
  z0 := Tryz.sizeOf0
  v0 := Tryz.zeroValue0
  t2 := Tryz.underlying2
  a2 := Tryz.isAgg2
  z2 := Tryz.sizeOf2
  v2 := Tryz.zeroValue2
  t3 := Tryz.underlying3
  a3 := Tryz.isAgg3
  z3 := Tryz.sizeOf3
  v3 := Tryz.zeroValue3
  t4 := Tryz.underlying4
  a4 := Tryz.isAgg4
  z4 := Tryz.sizeOf4
  v4 := Tryz.zeroValue4
  t5 := Tryz.underlying5
  a5 := Tryz.isAgg5
  z5 := Tryz.sizeOf5
  v5 := Tryz.zeroValue5
  t9 := Tryz.underlying9
  a9 := Tryz.isAgg9
  z9 := Tryz.sizeOf9
  v9 := Tryz.zeroValue9
  t20 := Tryz.underlying20
  a20 := Tryz.isAgg20
  z20 := Tryz.sizeOf20
  v20 := Tryz.zeroValue20
  t37 := Tryz.underlying71
  a37 := Tryz.isAgg71
  z37 := Tryz.sizeOf71
  v37 := Tryz.zeroValue71
  t46 := Tryz.underlying95
  a46 := Tryz.isAgg95
  z46 := Tryz.sizeOf95
  v46 := Tryz.zeroValue95
  t51 := Tryz.underlying142
  a51 := Tryz.isAgg142
  z51 := Tryz.sizeOf142
  v51 := Tryz.zeroValue142
  t53 := Tryz.underlying171
  a53 := Tryz.isAgg171
  z53 := Tryz.sizeOf171
  v53 := Tryz.zeroValue171
  t171 := Tryz.underlying170
  a171 := Tryz.isAgg170
  z171 := Tryz.sizeOf170
  v171 := Tryz.zeroValue170
  t173 := Tryz.underlying174
  a173 := Tryz.isAgg174
  z173 := Tryz.sizeOf174
  v173 := Tryz.zeroValue174
  t212 := Tryz.underlying190
  a212 := Tryz.isAgg190
  z212 := Tryz.sizeOf190
  v212 := Tryz.zeroValue190
  t213 := Tryz.underlying191
  a213 := Tryz.isAgg191
  z213 := Tryz.sizeOf191
  t232 := Tryz.underlying209
  a232 := Tryz.isAgg209
  z232 := Tryz.sizeOf209
  v232 := Tryz.zeroValue209
  t233 := Tryz.underlying210
  a233 := Tryz.isAgg210
  z233 := Tryz.sizeOf210
  v233 := Tryz.zeroValue210
  g17 := by kernel_rfl
  g18 := by kernel_rfl
  g19 := by kernel_rfl
  i0 := by kernel_rfl
  i2 := by kernel_rfl
  i3 := by kernel_rfl
  i4 := by kernel_rfl
  i5 := by kernel_rfl
  i9 := by kernel_rfl
  i20 := by kernel_rfl
  i37 := by kernel_rfl
  i46 := by kernel_rfl
  i51 := by kernel_rfl
  i53 := by kernel_rfl
  i171 := by kernel_rfl
  i173 := by kernel_rfl
  i212 := by kernel_rfl
  i232 := by kernel_rfl
  i233 := by kernel_rfl
  m17 := by kernel_rfl
  m18 := by kernel_rfl
  m19 := by kernel_rfl }
open Go.RowKit Go.Sort Go.Lib in
theorem Tryz.strconv_Itoa (n : Int) (h0 : -9223372036854775808 ≤ n) (h1 : n ≤ 9223372036854775807) (w : World) (htab : Lib.TabIs Tryz.prog w "internal/strconv.uint64pow10" .u64 Lib.pow10Tab) :
    Calls Tryz.prog 61 #[.int .i64 n] w fun e w' => e = .returned (.string ⟨(Lib.itoa n).toArray⟩) ∧ ∃ k os, w' = grow (w.drewN k) os := Any.strconv_Itoa Tryz.laysM171 n h0 h1 w htab
def Tryz.lays190_ren : Go.Shelf.Ren := ⟨fun | 190 => 138 | 125 => 152 | 258 => 151 | 128 => 169 | 129 => 141 | 302 => 160 | 303 => 161 | 304 => 162 | 305 => 163 | 306 => 164 | 307 => 165 | 308 => 166 | 309 => 167 | 310 => 168 | 333 => 176 | 329 => 177 | 330 => 178 | 334 => 179 | 335 => 180 | 336 => 181 | 344 => 184 | n => n, fun | 31 => 29 | 9 => 9 | 3 => 3 | 46 => 95 | 0 => 0 | 51 => 142 | 53 => 171 | 4 => 4 | 183 => 203 | 182 => 202 | 131 => 108 | 5 => 5 | 218 => 211 | 222 => 215 | 228 => 222 | 229 => 223 | n => n, fun | n => n⟩
theorem Tryz.lays190 : Go.Proofs.Lays.n190 Tryz.prog Tryz.lays190_ren := {
  mixed := by kernel_rfl
  f125 := Tryz.func152.trans (congrArg some (by kernel_rfl))
  f128 := Tryz.func169.trans (congrArg some (by kernel_rfl))
  f129 := Tryz.func141.trans (congrArg some (by kernel_rfl))
  f190 := Tryz.func138.trans (congrArg some (by kernel_rfl))
  f258 := Tryz.func151.trans (congrArg some (by kernel_rfl))
  f302 := Tryz.func160.trans (congrArg some (by kernel_rfl))
  f303 := Tryz.func161.trans (congrArg some (by kernel_rfl))
  f304 := Tryz.func162.trans (congrArg some (by kernel_rfl))
  f305 := Tryz.func163.trans (congrArg some (by kernel_rfl))
  f306 := Tryz.func164.trans (congrArg some (by kernel_rfl))
  f307 := Tryz.func165.trans (congrArg some (by kernel_rfl))
  f308 := Tryz.func166.trans (congrArg some (by kernel_rfl))
  f309 := Tryz.func167.trans (congrArg some (by kernel_rfl))
  f310 := Tryz.func168.trans (congrArg some (by kernel_rfl))
  f329 := Tryz.func177.trans (congrArg some (by kernel_rfl))
  f330 := Tryz.func178.trans (congrArg some (by kernel_rfl))
  f333 := Tryz.func176.trans (congrArg some (by kernel_rfl))
  f334 := Tryz.func179.trans (congrArg some (by kernel_rfl))
  f335 := Tryz.func180.trans (congrArg some (by kernel_rfl))
  f336 := Tryz.func181.trans (congrArg some (by kernel_rfl))
  f344 := Tryz.func184.trans (congrArg some (by kernel_rfl))
  t0 := Tryz.underlying0
  a0 := Tryz.isAgg0
  z0 := Tryz.sizeOf0
  v0 := Tryz.zeroValue0
  t3 := Tryz.underlying3
  a3 := Tryz.isAgg3
  z3 := Tryz.sizeOf3
  v3 := Tryz.zeroValue3
  t4 := Tryz.underlying4
  a4 := Tryz.isAgg4
  z4 := Tryz.sizeOf4
  v4 := Tryz.zeroValue4
  t5 := Tryz.underlying5
  a5 := Tryz.isAgg5
  z5 := Tryz.sizeOf5
  v5 := Tryz.zeroValue5
  t9 := Tryz.underlying9
  a9 := Tryz.isAgg9
  z9 := Tryz.sizeOf9
  v9 := Tryz.zeroValue9
  t31 := Tryz.underlying29
  a31 := Tryz.isAgg29
  z31 := Tryz.sizeOf29
  v31 := Tryz.zeroValue29
  t46 := Tryz.underlying95
  a46 := Tryz.isAgg95
  z46 := Tryz.sizeOf95
  v46 := Tryz.zeroValue95
  t51 := Tryz.underlying142
  a51 := Tryz.isAgg142
  z51 := Tryz.sizeOf142
  v51 := Tryz.zeroValue142
  t53 := Tryz.underlying171
  a53 := Tryz.isAgg171
  z53 := Tryz.sizeOf171
  v53 := Tryz.zeroValue171
  t131 := Tryz.underlying108
  a131 := Tryz.isAgg108
  z131 := Tryz.sizeOf108
  v131 := Tryz.zeroValue108
  t182 := Tryz.underlying202
  a182 := Tryz.isAgg202
  z182 := Tryz.sizeOf202
  v182 := Tryz.zeroValue202
  t183 := Tryz.underlying203
  a183 := Tryz.isAgg203
  z183 := Tryz.sizeOf203
  v183 := Tryz.zeroValue203
  t218 := Tryz.underlying211
  a218 := Tryz.isAgg211
  z218 := Tryz.sizeOf211
  v218 := Tryz.zeroValue211
  t222 := Tryz.underlying215
  a222 := Tryz.isAgg215
  z222 := Tryz.sizeOf215
  v222 := Tryz.zeroValue215
  t228 := Tryz.underlying222
  a228 := Tryz.isAgg222
  z228 := Tryz.sizeOf222
  v228 := Tryz.zeroValue222
  t229 := Tryz.underlying223
  a229 := Tryz.isAgg223
  z229 := Tryz.sizeOf223
  v229 := Tryz.zeroValue223 }
open Go.Sort Go.RowKit in
theorem Tryz.slices_Sort_string (blk off cap : Nat) (ss : List (List UInt8)) (w : World) (hH : Holds encStr w blk off ss.toArray) (hblk : blk < w.heap.size) (hsz : ss.length < 4611686018427387904) :
    Calls Tryz.prog 138 #[.slice (some ⟨blk, off, none⟩) ss.length cap] w fun e w' =>
      e = .returned (.tuple #[]) ∧ ∃ n os, w' = grow (putRow encStr (Sort.ahead w n) blk off (ss.mergeSort fun x y => decide (x ≤ y)).toArray) os := Any.slices_Sort_string Tryz.lays190 blk off cap ss w hH hblk hsz
def Tryz.lays146_ren : Go.Shelf.Ren := ⟨fun | 146 => 106 | 221 => 129 | 268 => 147 | 138 => 148 | 143 => 149 | 195 => 156 | 197 => 157 | 218 => 158 | 219 => 159 | 260 => 171 | 217 => 172 | 225 => 173 | 224 => 174 | 267 => 175 | 266 => 182 | 314 => 183 | n => n, fun | 9 => 9 | 31 => 29 | 3 => 3 | 4 => 4 | 0 => 0 | 105 => 198 | 21 => 21 | 5 => 5 | 46 => 95 | 119 => 118 | 139 => 219 | 138 => 218 | 146 => 220 | 51 => 142 | n => n, fun | 1 => 3 | 3 => 6 | 4 => 7 | n => n⟩
theorem Tryz.lays146 : Go.Proofs.Lays.n146 Tryz.prog Tryz.lays146_ren := {
  mixed := by kernel_rfl
  f138 := Tryz.func148.trans (congrArg some (by kernel_rfl))
  f143 := Tryz.func149.trans (congrArg some (by kernel_rfl))
  f146 := Tryz.func106.trans (congrArg some (by kernel_rfl))
  f195 := Tryz.func156.trans (congrArg some (by kernel_rfl))
  f197 := Tryz.func157.trans (congrArg some (by kernel_rfl))
  f217 := Tryz.func172.trans (congrArg some (by kernel_rfl))
  f218 := Tryz.func158.trans (congrArg some (by kernel_rfl))
  f219 := Tryz.func159.trans (congrArg some (by kernel_rfl))
  f221 := Tryz.func129.trans (congrArg some (by kernel_rfl))
  f224 := Tryz.func174.trans (congrArg some (by kernel_rfl))
  f225 := Tryz.func173.trans (congrArg some (by kernel_rfl))
  f260 := Tryz.func171.trans (congrArg some (by kernel_rfl))
  f266 := Tryz.func182.trans (congrArg some (by kernel_rfl))
  f267 := Tryz.func175.trans (congrArg some (by kernel_rfl))
  f268 := Tryz.func147.trans (congrArg some (by kernel_rfl))
  f314 := Tryz.func183.trans (congrArg some (by kernel_rfl))
  t0 := Tryz.underlying0
  a0 := Tryz.isAgg0
  z0 := Tryz.sizeOf0
  v0 := Tryz.zeroValue0
  t3 := Tryz.underlying3
  a3 := Tryz.isAgg3
  z3 := Tryz.sizeOf3
  v3 := Tryz.zeroValue3
  t4 := Tryz.underlying4
  a4 := Tryz.isAgg4
  z4 := Tryz.sizeOf4
  v4 := Tryz.zeroValue4
  t5 := Tryz.underlying5
  a5 := Tryz.isAgg5
  z5 := Tryz.sizeOf5
  v5 := Tryz.zeroValue5
  t9 := Tryz.underlying9
  a9 := Tryz.isAgg9
  z9 := Tryz.sizeOf9
  v9 := Tryz.zeroValue9
  t21 := Tryz.underlying21
  a21 := Tryz.isAgg21
  z21 := Tryz.sizeOf21
  v21 := Tryz.zeroValue21
  t31 := Tryz.underlying29
  a31 := Tryz.isAgg29
  z31 := Tryz.sizeOf29
  v31 := Tryz.zeroValue29
  t46 := Tryz.underlying95
  a46 := Tryz.isAgg95
  z46 := Tryz.sizeOf95
  v46 := Tryz.zeroValue95
  t51 := Tryz.underlying142
  a51 := Tryz.isAgg142
  z51 := Tryz.sizeOf142
  v51 := Tryz.zeroValue142
  t105 := Tryz.underlying198
  a105 := Tryz.isAgg198
  z105 := Tryz.sizeOf198
  v105 := Tryz.zeroValue198
  t119 := Tryz.underlying118
  a119 := Tryz.isAgg118
  z119 := Tryz.sizeOf118
  t138 := Tryz.underlying218
  a138 := Tryz.isAgg218
  z138 := Tryz.sizeOf218
  v138 := Tryz.zeroValue218
  t139 := Tryz.underlying219
  a139 := Tryz.isAgg219
  z139 := Tryz.sizeOf219
  v139 := Tryz.zeroValue219
  t146 := Tryz.underlying220
  a146 := Tryz.isAgg220
  z146 := Tryz.sizeOf220
  v146 := Tryz.zeroValue220
  g1 := by kernel_rfl
  g3 := by kernel_rfl
  g4 := by kernel_rfl }
open Go.RowKit Go.Lib in
theorem Tryz.strings_Split (s sep : ByteArray) (m : Int) (w : World) (hs : s.size < 4294967281) (hm : w.cell? ⟨3, 0, none⟩ = some (.int .i64 m)) (h1 : 1 ≤ sep.size) :
    Calls Tryz.prog 106 #[.string s, .string sep] w fun e w' =>
      e = .returned (.slice (some ⟨w.heap.size, 0, none⟩) (Lib.countB s sep + 1) (Lib.countB s sep + 1)) ∧ w' = w.alloc (.cells ((Lib.splitB sep 0 (Lib.countB s sep) s).map Value.string).toArray 9) := Any.strings_Split Tryz.lays146 (by kernel_rfl) s sep m w hs hm h1
def Tryz.laysM157_ren : Go.Shelf.Ren := ⟨fun | 157 => 57 | 229 => 77 | 199 => 78 | 261 => 94 | 311 => 114 | 312 => 115 | n => n, fun | 9 => 9 | 31 => 29 | 3 => 3 | 5 => 5 | 4 => 4 | 119 => 118 | 0 => 0 | 40 => 120 | 152 => 139 | 21 => 21 | 154 => 141 | 51 => 142 | 141 => 144 | 196 => 162 | 193 => 159 | 198 => 165 | 49 => 163 | 194 => 160 | 201 => 168 | 226 => 187 | 46 => 95 | 227 => 188 | n => n, fun | 0 => 0 | 6 => 1 | n => n⟩
theorem Tryz.laysM157 : Go.Proofs.LaysM.n157 Tryz.prog Tryz.laysM157_ren := {
  mixed := by kernel_rfl
  f157 := Tryz.func57.trans (congrArg some (by kernel_rfl))
  f199 := Tryz.func78.trans (congrArg some (by kernel_rfl))
  f229 := Tryz.func77.trans (congrArg some (by kernel_rfl))
  f261 := Tryz.func94.trans (congrArg some (by kernel_rfl))
  f311 := Tryz.func114.trans (congrArg some (by kernel_rfl))
  f312 := Tryz.func115.trans (congrArg some (by kernel_rfl))
  t0 := Tryz.underlying0
  a0 := Tryz.isAgg0
  z0 := Tryz.sizeOf0
  v0 := Tryz.zeroValue0
  t3 := Tryz.underlying3
  a3 := Tryz.isAgg3
  z3 := Tryz.sizeOf3
  v3 := Tryz.zeroValue3
  t4 := Tryz.underlying4
  a4 := Tryz.isAgg4
  z4 := Tryz.sizeOf4
  v4 := Tryz.zeroValue4
  t5 := Tryz.underlying5
  a5 := Tryz.isAgg5
  z5 := Tryz.sizeOf5
  v5 := Tryz.zeroValue5
  t9 := Tryz.underlying9
  a9 := Tryz.isAgg9
  z9 := Tryz.sizeOf9
  v9 := Tryz.zeroValue9
  t21 := Tryz.underlying21
  a21 := Tryz.isAgg21
  z21 := Tryz.sizeOf21
  v21 := Tryz.zeroValue21
  t31 := Tryz.underlying29
  a31 := Tryz.isAgg29
  z31 := Tryz.sizeOf29
  v31 := Tryz.zeroValue29
  t40 := Tryz.underlying120
  a40 := Tryz.isAgg120
  z40 := Tryz.sizeOf120
  v40 := Tryz.zeroValue120
  t46 := Tryz.underlying95
  a46 := Tryz.isAgg95
  z46 := Tryz.sizeOf95
  v46 := Tryz.zeroValue95
  t49 := Tryz.underlying163
  a49 := Tryz.isAgg163
  z49 := Tryz.sizeOf163
  v49 := Tryz.zeroValue163
  t51 := Tryz.underlying142
  a51 := Tryz.isAgg142
  z51 := Tryz.sizeOf142
  v51 := Tryz.zeroValue142
  t119 := Tryz.underlying118
  a119 := Tryz.isAgg118
  z119 := Tryz.sizeOf118
  t141 := Tryz.underlying144
  a141 := Tryz.isAgg144
  z141 := Tryz.sizeOf144
  v141 := Tryz.zeroValue144
  t152 := Tryz.underlying139
  a152 := Tryz.isAgg139
  z152 := Tryz.sizeOf139
  v152 := Tryz.zeroValue139
  t154 := Tryz.underlying141
  a154 := Tryz.isAgg141
  z154 := Tryz.sizeOf141
  v154 := Tryz.zeroValue141
  t193 := Tryz.underlying159
  a193 := Tryz.isAgg159
  z193 := Tryz.sizeOf159
  v193 := Tryz.zeroValue159
  t194 := Tryz.underlying160
  a194 := Tryz.isAgg160
  z194 := Tryz.sizeOf160
  v194 := Tryz.zeroValue160
  t196 := Tryz.underlying162
  a196 := Tryz.isAgg162
  z196 := Tryz.sizeOf162
  v196 := Tryz.zeroValue162
  t198 := Tryz.underlying165
  a198 := Tryz.isAgg165
  z198 := Tryz.sizeOf165
  v198 := Tryz.zeroValue165
  t201 := Tryz.underlying168
  a201 := Tryz.isAgg168
  z201 := Tryz.sizeOf168
  v201 := Tryz.zeroValue168
  t226 := Tryz.underlying187
  a226 := Tryz.isAgg187
  z226 := Tryz.sizeOf187
  v226 := Tryz.zeroValue187
  t227 := Tryz.underlying188
  a227 := Tryz.isAgg188
  z227 := Tryz.sizeOf188
  v227 := Tryz.zeroValue188
  g0 := by kernel_rfl
  g6 := by kernel_rfl
  i0 := by kernel_rfl
  i3 := by kernel_rfl
  i4 := by kernel_rfl
  i5 := by kernel_rfl
  i9 := by kernel_rfl
  i21 := by kernel_rfl
  i31 := by kernel_rfl
  i40 := by kernel_rfl
  i46 := by kernel_rfl
  i49 := by kernel_rfl
  i51 := by kernel_rfl
  i141 := by kernel_rfl
  i152 := by kernel_rfl
  i154 := by kernel_rfl
  i193 := by kernel_rfl
  i194 := by kernel_rfl
  i196 := by kernel_rfl
  i198 := by kernel_rfl
  i201 := by kernel_rfl
  i226 := by kernel_rfl
  i227 := by kernel_rfl
  m0 := by kernel_rfl
  m6 := by kernel_rfl }
open Go.RowKit Go.Lib in
theorem Tryz.strings_Fields_laid (s : ByteArray) (w : World) (hs : s.size < 4294967281) (hascii : ∀ (j : Nat) b, s.data.toList[j]? = some b → b.toNat < 128) (htab : Lib.TabIs Tryz.prog w "strings.asciiSpace" .u8 Lib.asciiSpaceTab) :
    Calls Tryz.prog 57 #[.string s] w fun e w' =>
      e = .returned (.slice (some ⟨w.heap.size, 0, none⟩) (Lib.fields s.data.toList).length (Lib.fields s.data.toList).length) ∧ w' = w.alloc (.cells ((Lib.fields s.data.toList).map fun l => Value.string ⟨l.toArray⟩).toArray 9) := Any.strings_Fields_laid Tryz.laysM157 s w hs hascii htab
def Tryz.lays109_ren : Go.Shelf.Ren := ⟨fun | 109 => 122 | n => n, fun | 31 => 29 | 9 => 9 | 3 => 3 | 0 => 0 | 4 => 4 | n => n, fun | n => n⟩
theorem Tryz.lays109 : Go.Proofs.Lays.n109 Tryz.prog Tryz.lays109_ren := {
  mixed := by kernel_rfl
  f109 := Tryz.func122.trans (congrArg some (by kernel_rfl))
  t0 := Tryz.underlying0
  a0 := Tryz.isAgg0
  z0 := Tryz.sizeOf0
  v0 := Tryz.zeroValue0
  t3 := Tryz.underlying3
  a3 := Tryz.isAgg3
  z3 := Tryz.sizeOf3
  v3 := Tryz.zeroValue3
  t4 := Tryz.underlying4
  a4 := Tryz.isAgg4
  z4 := Tryz.sizeOf4
  v4 := Tryz.zeroValue4
  t9 := Tryz.underlying9
  a9 := Tryz.isAgg9
  z9 := Tryz.sizeOf9
  v9 := Tryz.zeroValue9
  t31 := Tryz.underlying29
  a31 := Tryz.isAgg29
  z31 := Tryz.sizeOf29
  v31 := Tryz.zeroValue29 }
open Go.Lib in
theorem Tryz.slices_Index_string (b off n c : Nat) (zs : List ByteArray) (x : ByteArray) (w : World) (hz : n ≤ zs.length) (hbig : n ≤ 9223372036854775807) (hc : ∀ j, j < zs.length → w.cell? ⟨b, off + j, none⟩ = some (.string (zs.getD j ByteArray.empty))) :
    Calls Tryz.prog 122 #[.slice (some ⟨b, off, none⟩) n c, .string x] w fun e w' => e = .returned (.int .i64 (Lib.idxOfS (zs.take n) x)) ∧ w' = w := Any.slices_Index_string Tryz.lays109 b off n c zs x w hz hbig hc
open Go.Lib in
theorem Tryz.slices_Index_string_empty (a : Option Addr) (c : Nat) (x : ByteArray) (w : World) :
    Calls Tryz.prog 122 #[.slice a 0 c, .string x] w fun e w' => e = .returned (.int .i64 (Lib.idxOfS [] x)) ∧ w' = w := Any.slices_Index_string_empty Tryz.lays109 a c x w
def Tryz.lays110_ren : Go.Shelf.Ren := ⟨fun | 110 => 107 | 109 => 122 | n => n, fun | 31 => 29 | 9 => 9 | 4 => 4 | 3 => 3 | 0 => 0 | n => n, fun | n => n⟩
theorem Tryz.lays110 : Go.Proofs.Lays.n110 Tryz.prog Tryz.lays110_ren := {
  mixed := by kernel_rfl
  f109 := Tryz.func122.trans (congrArg some (by kernel_rfl))
  f110 := Tryz.func107.trans (congrArg some (by kernel_rfl))
  t0 := Tryz.underlying0
  a0 := Tryz.isAgg0
  z0 := Tryz.sizeOf0
  v0 := Tryz.zeroValue0
  t3 := Tryz.underlying3
  a3 := Tryz.isAgg3
  z3 := Tryz.sizeOf3
  v3 := Tryz.zeroValue3
  t4 := Tryz.underlying4
  a4 := Tryz.isAgg4
  z4 := Tryz.sizeOf4
  v4 := Tryz.zeroValue4
  t9 := Tryz.underlying9
  a9 := Tryz.isAgg9
  z9 := Tryz.sizeOf9
  v9 := Tryz.zeroValue9
  t31 := Tryz.underlying29
  a31 := Tryz.isAgg29
  z31 := Tryz.sizeOf29
  v31 := Tryz.zeroValue29 }
open Go.Lib in
theorem Tryz.slices_Contains_string (b off n c : Nat) (zs : List ByteArray) (x : ByteArray) (w : World) (hz : n ≤ zs.length) (hbig : n ≤ 9223372036854775807) (hc : ∀ j, j < zs.length → w.cell? ⟨b, off + j, none⟩ = some (.string (zs.getD j ByteArray.empty))) :
    Calls Tryz.prog 107 #[.slice (some ⟨b, off, none⟩) n c, .string x] w fun e w' => e = .returned (.bool (Lib.containsS (zs.take n) x)) ∧ w' = w := Any.slices_Contains_string Tryz.lays110 b off n c zs x w hz hbig hc
open Go.Lib in
theorem Tryz.slices_Contains_string_empty (a : Option Addr) (c : Nat) (x : ByteArray) (w : World) :
    Calls Tryz.prog 107 #[.slice a 0 c, .string x] w fun e w' => e = .returned (.bool false) ∧ w' = w := Any.slices_Contains_string_empty Tryz.lays110 a c x w
def Tryz.laysNm215_ren : Go.Shelf.Ren := ⟨fun | 15 => 128 | n => n, fun | 22 => 22 | 3 => 3 | 4 => 4 | n => n, fun | n => n⟩
theorem Tryz.laysNm215 : Go.Proofs.Lays2.n15 Tryz.prog Tryz.laysNm215_ren := {
  mixed := by kernel_rfl
  f15 := Tryz.func128.trans (congrArg some (by kernel_rfl))
  t3 := Tryz.underlying3
  a3 := Tryz.isAgg3
  z3 := Tryz.sizeOf3
  v3 := Tryz.zeroValue3
  t4 := Tryz.underlying4
  a4 := Tryz.isAgg4
  z4 := Tryz.sizeOf4
  v4 := Tryz.zeroValue4
  t22 := Tryz.underlying22
  a22 := Tryz.isAgg22
  z22 := Tryz.sizeOf22
  v22 := Tryz.zeroValue22
  i3 := by kernel_rfl }
open Go.RowKit Go.Lib in
theorem Tryz.slices_Clone_int (b off n c : Nat) (zs : List Int) (w : World) (hz : n ≤ zs.length) (hbig : n * 8 ≤ 140737488355328) (hc : ∀ j, j < zs.length → w.cell? ⟨b, off + j, none⟩ = some (.int .i64 (zs.getD j 0))) :
    Calls Tryz.prog 128 #[.slice (some ⟨b, off, none⟩) n c] w fun e w' => ∃ v', e = .returned v' ∧ w'.ownsRow w.heap.size 3 1 v' n ((zs.take n).map (Value.int .i64)) ∧ v' ≠ .slice none 0 0 ∧ Below w.heap.size w w' := Any.slices_Clone_int Tryz.laysNm215 b off n c zs w hz hbig hc
open Go.RowKit Go.Lib in
theorem Tryz.slices_Clone_int_nil (n c : Nat) (w : World) :
    Calls Tryz.prog 128 #[.slice none n c] w fun e w' => e = .returned (.slice none 0 0) ∧ w' = w := Any.slices_Clone_int_nil Tryz.laysNm215 n c w
def Tryz.laysNm216_ren : Go.Shelf.Ren := ⟨fun | 16 => 145 | n => n, fun | 24 => 29 | 9 => 9 | 4 => 4 | n => n, fun | n => n⟩
theorem Tryz.laysNm216 : Go.Proofs.Lays2.n16 Tryz.prog Tryz.laysNm216_ren := {
  mixed := by kernel_rfl
  f16 := Tryz.func145.trans (congrArg some (by kernel_rfl))
  t4 := Tryz.underlying4
  a4 := Tryz.isAgg4
  z4 := Tryz.sizeOf4
  v4 := Tryz.zeroValue4
  t9 := Tryz.underlying9
  a9 := Tryz.isAgg9
  z9 := Tryz.sizeOf9
  v9 := Tryz.zeroValue9
  t24 := Tryz.underlying29
  a24 := Tryz.isAgg29
  z24 := Tryz.sizeOf29
  v24 := Tryz.zeroValue29
  i9 := by kernel_rfl }
open Go.RowKit Go.Lib in
theorem Tryz.slices_Clone_string (b off n c : Nat) (zs : List ByteArray) (w : World) (hz : n ≤ zs.length) (hbig : n * 16 ≤ 140737488355328) (hc : ∀ j, j < zs.length → w.cell? ⟨b, off + j, none⟩ = some (.string (zs.getD j ByteArray.empty))) :
    Calls Tryz.prog 145 #[.slice (some ⟨b, off, none⟩) n c] w fun e w' => ∃ v', e = .returned v' ∧ w'.ownsRow w.heap.size 9 1 v' n ((zs.take n).map (Value.string)) ∧ v' ≠ .slice none 0 0 ∧ Below w.heap.size w w' := Any.slices_Clone_string Tryz.laysNm216 b off n c zs w hz hbig hc
open Go.RowKit Go.Lib in
theorem Tryz.slices_Clone_string_nil (n c : Nat) (w : World) :
    Calls Tryz.prog 145 #[.slice none n c] w fun e w' => e = .returned (.slice none 0 0) ∧ w' = w := Any.slices_Clone_string_nil Tryz.laysNm216 n c w
open Go.RowKit Go.Lib in
theorem Tryz.slices_Clone_int_zero (a : Addr) (c : Nat) (w : World) :
    Calls Tryz.prog 128 #[.slice (some a) 0 c] w fun e w' => ∃ v', e = .returned v' ∧ w'.ownsRow w.heap.size 3 1 v' 0 [] ∧ v' ≠ .slice none 0 0 ∧ Below w.heap.size w w' := Any.slices_Clone_int_zero Tryz.laysNm215 a c w
open Go.RowKit Go.Lib in
theorem Tryz.slices_Clone_string_zero (a : Addr) (c : Nat) (w : World) :
    Calls Tryz.prog 145 #[.slice (some a) 0 c] w fun e w' => ∃ v', e = .returned v' ∧ w'.ownsRow w.heap.size 9 1 v' 0 [] ∧ v' ≠ .slice none 0 0 ∧ Below w.heap.size w w' := Any.slices_Clone_string_zero Tryz.laysNm216 a c w
def Tryz.lays194_ren : Go.Shelf.Ren := ⟨fun | 194 => 139 | n => n, fun | 31 => 29 | 9 => 9 | 3 => 3 | 4 => 4 | 0 => 0 | n => n, fun | n => n⟩
theorem Tryz.lays194 : Go.Proofs.Lays.n194 Tryz.prog Tryz.lays194_ren := {
  mixed := by kernel_rfl
  f194 := Tryz.func139.trans (congrArg some (by kernel_rfl))
  t0 := Tryz.underlying0
  a0 := Tryz.isAgg0
  z0 := Tryz.sizeOf0
  v0 := Tryz.zeroValue0
  t3 := Tryz.underlying3
  a3 := Tryz.isAgg3
  z3 := Tryz.sizeOf3
  v3 := Tryz.zeroValue3
  t4 := Tryz.underlying4
  a4 := Tryz.isAgg4
  z4 := Tryz.sizeOf4
  v4 := Tryz.zeroValue4
  t9 := Tryz.underlying9
  a9 := Tryz.isAgg9
  z9 := Tryz.sizeOf9
  v9 := Tryz.zeroValue9
  t31 := Tryz.underlying29
  a31 := Tryz.isAgg29
  z31 := Tryz.sizeOf29
  v31 := Tryz.zeroValue29 }
open Go.RowKit Go.Lib Go.Sort in
theorem Tryz.slices_Compact_string (blk off cap : Nat) (zs : List (List UInt8)) (w : World) (hH : Holds encStr w blk off zs.toArray) (hsz : zs.length ≤ 9223372036854775807) (hcap : zs.length ≤ cap) :
    Calls Tryz.prog 139 #[.slice (some ⟨blk, off, none⟩) zs.length cap] w fun e w' => e = .returned (.slice (some ⟨blk, off, none⟩) (Lib.compact zs).length cap) ∧ ∃ q, w' = putRow encStr (Sort.ahead w q) blk off (Lib.compact zs ++ List.replicate (zs.length - (Lib.compact zs).length) []).toArray := Any.slices_Compact_string Tryz.lays194 blk off cap zs w hH hsz hcap
open Go.RowKit Go.Lib Go.Sort in
theorem Tryz.slices_Compact_string_empty (a : Option Addr) (cap : Nat) (w : World) :
    Calls Tryz.prog 139 #[.slice a 0 cap] w fun e w' => e = .returned (.slice a 0 cap) ∧ w' = w := Any.slices_Compact_string_empty Tryz.lays194 a cap w
open Go.RowKit Go.Sort in
theorem Tryz.slices_Sort_string_none (p : Option Addr) (cap : Nat) (w : World) :
    Calls Tryz.prog 138 #[.slice p 0 cap] w fun e w' => e = .returned (.tuple #[]) ∧ w' = w := Any.slices_Sort_string_none Tryz.lays190 p cap w
end Go.Proofs
namespace Go.JW
open Go.Sort Go.Proofs

section
variable {w0 w w' : World} {M : Nat → Prop} {σ : PH} {K : List HP}
theorem Sat.turned {b : Nat} {o o' : Obj} (h : Sat w0 M σ (blk b o :: K) w) (h1 : w'.os = w.os) (h2 : w'.tape = w.tape) (h3 : w'.output = w.output) (hsz : w.heap.size ≤ w'.heap.size) (hb : w'.heap[b]? = some o') (hx : ∀ x, x < w.heap.size → x ≠ b → w'.heap[x]? = w.heap[x]?) : Sat w0 M σ (blk b o' :: K) w' := by
  obtain ⟨F1, ⟨g1, g2⟩, g3, g4⟩ := h.sep
  have hs : σ b = none := (g3 b g1).2
  refine ⟨h1.trans h.os, h2.trans h.tape, h3.trans h.output, Nat.le_trans h.size hsz, h.keep, fun x y hy => ?_, F1, ⟨g1, hb⟩, fun x hF => ⟨Nat.lt_of_lt_of_le (g3 x hF).1 hsz, (g3 x hF).2⟩, ?_⟩
  · have hne : x ≠ b := fun e => by subst e; rw [hs] at hy; cases hy
    have h0 := h.imm x y hy
    show w'.heap[x]? = _
    rw [hx x (hp_lt h0) hne]; exact h0
  · refine (g4.here fun x hF => ?_).mono fun x hF => ⟨⟨Nat.lt_of_lt_of_le hF.1.1 hsz, hF.1.2⟩, hF.2⟩
    exact hx x hF.1.1 fun e => hF.2 (e ▸ g1)
theorem Sat.holds {b : Nat} {c0 : List Value} {e : TypeId} {zs : List Int} (h : w.heap[b]? = some (.cells c0.toArray e (0, 0))) (ht : c0.take zs.length = zs.map (Value.int .i64)) : Holds (Value.int .i64) w b 0 zs.toArray := by
  intro j hj
  have hj' : j < zs.length := by simpa using hj
  refine ⟨?_, by simp [World.frozen?, h]⟩
  have h1 : (c0.take zs.length)[j]? = (zs.map (Value.int .i64))[j]? := by rw [ht]
  rw [List.getElem?_take_of_lt hj'] at h1
  simp only [World.cell?, h, Nat.zero_add]
  simp only [Option.isSome_none, Bool.false_eq_true, if_false]
  rw [← Array.getElem?_toList]
  simp only [h1]
  simp [hj']
end
section
variable {P : Program} {q : Bool} {ops : Array Oper} {f : FuncId} {R : Ending → World → Prop} {k : List Item} {n : Nat} {fr : Nat → Value} {w0 : World} {M : Nat → Prop} {σ : PH} {K K' : List HP}
variable {rest : List Oper} {d : Nat} {ty : TypeId} {pos : String} {aft : Array Edge} {x y z : Operand} {t t' : TypeId}
theorem neqA {b : Bool} {us1 us2 : List Value} (heq : ∀ w, (Op.equalIn 10000 t (.agg us1.toArray) (.agg us2.toArray)).run P w = .ok b w) (hg : P.eqGuardType P.depth t = false) (h : LS P q ops f R k rest n (upd fr d (.bool (!b))) w0 M σ K)
    (hx : ev n fr x = .agg us1.toArray := by rfl) (hy : ev n fr y = .agg us2.toArray := by rfl) : LS P q ops f R k (⟨some d, .binOp .neq t x y t', ty, pos, aft, none⟩ :: rest) n fr w0 M σ K :=
  LS.val rfl rfl (fun w _ => by
    simp only [execOp, hx, hy, Sem.run_bind, run_eqGuard_agg w .neq t x y _ _ hg, Result.andThen_ok, run_neq_struct, heq]
    rfl) h
theorem callX {g : FuncId} {xs : Array Operand} {ts : Array TypeId} {args : List Value} {X : Type} (val : X → Value) (σx : X → PH) (Kx : X → List HP) (Q : X → Prop) [i : Fun P g]
    (h : ∀ x, Q x → LS P false ops f R k rest n (upd fr d (val x)) w0 M (σx x) (Kx x))
    (hc : ∀ w, Sat w0 M σ K w → Calls P g args.toArray w fun e w' => ∃ x, e = .returned (val x) ∧ Sat w0 M (σx x) (Kx x) w' ∧ Q x) (hx : xs.toList.map (ev n fr) = args := by rfl) :
    LS P false ops f R k (⟨some d, .call ⟨.value (.func g), xs, ts⟩, ty, pos, aft, none⟩ :: rest) n fr w0 M σ K :=
  LS.enterW rfl rfl (fun w _ => exec_call i.eq hx w) fun w hw => (hc w hw).mono fun _ _ ⟨x, he, hs, hq⟩ => ⟨val x, σx x, Kx x, he, hs, h x hq⟩
theorem slcCut (l : Nat) {a : Option Addr} {len cap s : Nat} {e : TypeId} {hi mx : Operand} {kk kk' : IntKind} {j j' : Int} [ht : TSlice P t e] [hs : TSz P e s]
    (h : LS P q ops f R k rest n (upd fr d (.slice a l l)) w0 M σ K) (hx : ev n fr x = .slice a len cap := by rfl) (hhi : ev n fr hi = .int kk j := by rfl) (hmx : ev n fr mx = .int kk' j' := by rfl) (hj : j = (l : Int) := by rfl) (hj' : j' = (l : Int) := by rfl) (hl : l ≤ cap := by omega) :
    LS P q ops f R k (⟨some d, .slice t x none (some hi) (some mx), ty, pos, aft, none⟩ :: rest) n fr w0 M σ K := by
  refine slc 0 l l ?_ hx (fun w => by subst hj; subst hj'; simp [Instr.sliceBounds, hhi, hmx, run_sliceBound, hl])
  have e : (a.map (·.add (0 * s))) = a := by cases a <;> simp [Addr.add]
  simp only [e, Nat.sub_zero, ite_self]; exact h
end
section
variable {P : Program} {f : FuncId} {R : Ending → World → Prop} {k : List Item} {n : Nat} {fr : Nat → Value} {w0 : World} {M : Nat → Prop} {σ : PH} {K0 : List HP}
variable {H : HS} {O : List (Nat × Obj)} {Kb : List HP} {E : List Nat} {tags : List Tag} {rest : List Oper} {d : Nat} {ty : TypeId} {pos : String} {aft : Array Edge} {x y z : Operand} {t t' : TypeId}
variable {α : Type} {ri : Rep α} {N e : Nat} {l l' : List α}
theorem D.ldSAf {vs : List Value} {b off s : Nat} {Kf : Us → List HP} {sg : Bool} [ht : TAgg P t] [hs : TSz P t s] (hl : vs.length = s) (hc : ∀ j, j < s → σ.cell b (off + j) = vs[j]?) (h : LD P f R k n w0 M σ Kb rest tags ⟨upd fr d (.agg vs.toArray), H, O, Kf, E, sg⟩) (hx : ∀ us, ev n (fill fr H us) x = .pointer (some ⟨b, off, none⟩) := by intro _; rfl) :
    LD P f R k n w0 M σ Kb (⟨some d, .load t x, ty, pos, aft, none⟩ :: rest) (.free :: tags) ⟨fr, H, O, Kf, E, sg⟩ :=
  D.freeI h fun us w hle => by
    have := run_loadVarA (P := P) (w := w) (b := b) ht.agg hs.eq off hl (fun j hj => by
      have h1 := hc j hj
      rw [List.getElem?_eq_getElem (by omega)] at h1 ⊢
      rw [← PH.cell_world]; exact PH.cell_mono hle h1)
    simp [execOp, hx us, Instr.loadAt, Instr.sureAddr, this]
theorem D.appU {s by_ : Nat} {zs : List Value} {vy : Us → Value} (sl : Nat) (l' : List α) [ht : TSlice P t e] [hs : TSz P e s] [hby : TBytes P e by_] [hz : TZero P e zs]
    (h : LD P f R k n w0 M σ Kb rest tags ⟨fr, (d, fun _ _ => True) :: H, O, fun us => rowD N e (us d) (l ++ l') :: K0, d :: ((Stg.mk fr H O (fun us => rowD N e (us sl) l :: K0) E false).seen ⟨some d, .call ⟨.builtin .append, #[x, y], #[t, t']⟩, ty, pos, aft, none⟩ ++ E), false⟩)
    (hsrc : ∀ us σ', PH.le σ σ' → Facts H (readsTmp ⟨some d, .call ⟨.builtin .append, #[x, y], #[t, t']⟩, ty, pos, aft, none⟩) us σ' → ∃ τ, RepL τ (vy us) l' ∧ PH.le τ (fromN N σ'))
    (hx : ∀ us, ev n (fill fr H us) x = us sl := by intro _; rfl) (hy : ∀ us, ev n (fill fr H us) y = vy us := by intro _; rfl)
    (hL : Less K0 Kb := by infer_instance) (hk : ∃ e', P.underlying t' = some (.slice e') := by exact ⟨_, TSlice.eq⟩)
    (hss : s = Rep.sz α := by rfl) (hzs : Nat.beq zs.length s = true := by rfl) (hb : (l.length + l'.length) * by_ ≤ 140737488355328 := by first | omega | (simp only [List.length_cons, List.length_nil]; omega)) (hm : l.length + l'.length ≤ 140737488355328 := by first | omega | (simp only [List.length_cons, List.length_nil]; omega)) :
    LD P f R k n w0 M σ Kb (⟨some d, .call ⟨.builtin .append, #[x, y], #[t, t']⟩, ty, pos, aft, none⟩ :: rest) (.eff :: tags) ⟨fr, H, O, fun us => rowD N e (us sl) l :: K0, E, false⟩ := by
  refine D.eff (fun _ _ => True) (fun us => rowD N e (us d) (l ++ l') :: K0) _ (fun _ _ _ _ _ => trivial) (fun us => ⟨fun h => hL.get h.tail⟩) h (fun us σ' w X hle hfs hw => ?_) (fun us => ?_)
  · obtain ⟨τ, h1, h2⟩ := hsrc us σ' hle hfs
    obtain ⟨e', hk⟩ := hk
    obtain ⟨news, g1, g2⟩ := srcD (t' := t') hw hk h1 (PH.le_trans h2 (fromN_le _ _))
    obtain ⟨v', w', h3, h4⟩ := appRunD (t := t) (t' := t') (ty := ty) (v := us sl) (FindD.tail (i := FindD.head)) hw ⟨news, by subst hss; exact g1, g2.mono h2⟩ hss hzs hb hm
    refine .inl ⟨v', w', by simp [execOp, resolve, invoke, builtin, hx us, hy us, h3], σ', PH.le_refl _, ?_, trivial⟩
    simpa [upd_eq] using h4
  · show rowD N e (resE _ us d) (l ++ l') :: K0 = _
    rw [resE_mem (by simp)]
theorem D.slcLo (l : Nat) {a : Option Addr} {len cap s : Nat} {e : TypeId} {lo : Operand} {kk : IntKind} {j : Int} {Kf : Us → List HP} {sg : Bool} [ht : TSlice P t e] [hs : TSz P e s]
    (h : LD P f R k n w0 M σ Kb rest tags ⟨upd fr d (.slice (if cap = l then a else a.map (·.add (l * s))) (len - l) (cap - l)), H, O, Kf, E, sg⟩) (hx : ∀ us, ev n (fill fr H us) x = .slice a len cap := by intro _; rfl) (hlo : ∀ us, ev n (fill fr H us) lo = .int kk j := by intro _; rfl) (hj : j = (l : Int) := by omega) (hl : l ≤ len := by omega) :
    LD P f R k n w0 M σ Kb (⟨some d, .slice t x (some lo) none none, ty, pos, aft, none⟩ :: rest) (.free :: tags) ⟨fr, H, O, Kf, E, sg⟩ :=
  D.slc l len cap h hx (fun us w => by subst hj; simp [Instr.sliceBounds, hlo us, run_sliceBound, hl])
theorem D.mvD (sl : Nat) (h : LD P f R k n w0 M σ Kb rest tags ⟨fr, (d, fun _ _ => True) :: H, O, fun us => rowD N e (us d) l :: K0, d :: ((Stg.mk fr H O (fun us => rowD N e (us sl) l :: K0) E false).seen ⟨some d, .assign x, ty, pos, aft, none⟩ ++ E), false⟩)
    (hx : ∀ us, ev n (fill fr H us) x = us sl := by intro _; rfl) (hL : Less K0 Kb := by infer_instance) :
    LD P f R k n w0 M σ Kb (⟨some d, .assign x, ty, pos, aft, none⟩ :: rest) (.eff :: tags) ⟨fr, H, O, fun us => rowD N e (us sl) l :: K0, E, false⟩ := by
  refine D.eff (fun _ _ => True) (fun us => rowD N e (us d) l :: K0) _ (fun _ _ _ _ _ => trivial) (fun us => ⟨fun h => hL.get h.tail⟩) h (fun us σ' w X hle hfs hw => ?_) (fun us => ?_)
  · exact .inl ⟨us sl, w, by simp [execOp, hx us], σ', PH.le_refl _, by simpa [upd_eq] using hw, trivial⟩
  · show rowD N e (resE _ us d) l :: K0 = _
    rw [resE_mem (by simp)]
end
theorem RepL.recap {α : Type} [Rep α] {σ : PH} {a : Option Addr} {m cap cap' : Nat} {l : List α} (h : RepL σ (.slice a m cap) l) (hc : m ≤ cap') : RepL σ (.slice a m cap') l := by
  have hm := h.len
  subst hm
  exact ⟨h.1, a, cap', rfl, hc, fun hn => h.addr hn⟩
theorem RepL.take {α : Type} [Rep α] {σ : PH} {a : Option Addr} {m cap : Nat} {l : List α} (h : RepL σ (.slice a m cap) l) (k : Nat) (hk : k ≤ l.length) : RepL σ (.slice a k cap) (l.take k) := by
  have hm := h.len
  have hc := h.cap
  have hl : (l.take k).length = k := by rw [List.length_take]; omega
  refine ⟨by have := h.1; omega, a, cap, by rw [hl], by omega, fun hn => ?_⟩
  obtain ⟨b, o, e, r⟩ := h.addr (fun h0 => hn (by rw [h0]; simp))
  refine ⟨b, o, e, fun i hi => ?_⟩
  obtain ⟨vs, h1, h2⟩ := r i (by omega)
  exact ⟨vs, h1, by rw [List.getElem_take]; exact h2⟩
theorem RepL.drop {α : Type} [Rep α] {σ : PH} {a : Option Addr} {m cap : Nat} {l : List α} (h : RepL σ (.slice a m cap) l) (k : Nat) (hk : k ≤ l.length) : RepL σ (.slice (if cap = k then a else a.map (·.add (k * Rep.sz α))) (m - k) (cap - k)) (l.drop k) := by
  have hm := h.len
  have hc := h.cap
  have hl : (l.drop k).length = m - k := by rw [List.length_drop]; omega
  refine ⟨by have := h.1; omega, _, cap - k, by rw [hl], by omega, fun hn => ?_⟩
  have hk' : k < l.length := Nat.lt_of_not_le fun hle => hn (List.drop_eq_nil_of_le hle)
  rw [if_neg (by omega)]
  obtain ⟨b, o, rfl, r⟩ := h.addr (fun h0 => hn (by rw [h0]; simp))
  refine ⟨b, o + k * Rep.sz α, by simp [Addr.add], fun i hi => ?_⟩
  obtain ⟨vs, h1, h2⟩ := r (k + i) (by omega)
  refine ⟨vs, fun j hj => ?_, by rw [List.getElem_drop]; exact h2⟩
  rw [← h1 j hj]; congr 1; rw [Nat.add_mul]; omega
theorem Sat.since_le {w0 w : World} {M : Nat → Prop} {σ : PH} {K : List HP} (hw : Sat w0 M σ K w) : PH.le (fromN w0.heap.size σ) (since w0 w) := fun b o hb => by
  have h1 := hw.imm b o (fromN_le _ _ b o hb)
  simp only [fromN] at hb
  split at hb
  · rename_i hge; simp only [since]; rw [if_pos hge]; exact h1
  · cases hb
section
variable {w0 w : World} {M : Nat → Prop} {σ : PH} {K K' : List HP}
end
def Rising (l : List Int) : Prop := l.Pairwise (· < ·)
theorem Rising.ext : ∀ {l l' : List Int}, Rising l → Rising l' → (∀ x, x ∈ l ↔ x ∈ l') → l = l' := by
  intro l
  induction l with
  | nil => intro l' _ _ h; cases l' with
    | nil => rfl
    | cons y l' => exact absurd ((h y).2 (by simp)) (by simp)
  | cons x l ih =>
    intro l' h1 h2 h
    cases l' with
    | nil => exact absurd ((h x).1 (by simp)) (by simp)
    | cons y l' =>
      obtain ⟨a1, a2⟩ := List.pairwise_cons.1 h1
      obtain ⟨b1, b2⟩ := List.pairwise_cons.1 h2
      have hxy : x = y := by
        rcases List.mem_cons.1 ((h x).1 (by simp)) with e | e
        · exact e
        · rcases List.mem_cons.1 ((h y).2 (by simp)) with e' | e'
          · exact e'.symm
          · have := b1 x e; have := a1 y e'; omega
      subst hxy
      congr 1
      refine ih a2 b2 fun z => ?_
      constructor
      · intro hz
        rcases List.mem_cons.1 ((h z).1 (by simp [hz])) with e | e
        · subst e; have := a1 z hz; omega
        · exact e
      · intro hz
        rcases List.mem_cons.1 ((h z).2 (by simp [hz])) with e | e
        · subst e; have := b1 z hz; omega
        · exact e
end Go.JW
namespace Go.JW

theorem CellsL.str {σ σ' : PH} : ∀ {l : List ByteArray} {cs : List Value}, CellsL σ cs l → CellsL σ' cs l := by
  intro l
  induction l with
  | nil => intro cs h; exact h
  | cons x l ih => rintro cs ⟨c1, c2, rfl, h1, h2⟩; exact ⟨c1, c2, rfl, h1, ih h2⟩
theorem rowD_since {w w' : World} {τ : PH} {N e : Nat} {v : Value} {α : Type} [Rep α] {l : List α} {F : Nat → Prop} (h : (rowD N e v l).h ⟨τ, hp w'⟩ F) (hF : ∀ b, F b → w.heap.size ≤ b) (ht : PH.le τ (since w w')) (hl : l.length ≤ 140737488355328) : RepL (since w w') v l := by
  obtain ⟨cs, hc, h1, _, a, cap, rfl, h2, _, h4⟩ := h
  refine ⟨hl, a, cap, rfl, h2, fun hn => ?_⟩
  rcases h4 with ⟨h8, _⟩ | ⟨b, c0, rfl, g1, g2, g3, g4⟩
  · exact absurd (List.eq_nil_of_length_eq_zero h8) hn
  · refine ⟨b, 0, rfl, (hc.mono (PH.le_trans (fromN_le _ _) ht)).rowAt fun j hj => ?_⟩
    rw [hc.len] at hj
    have g2' : w'.heap[b]? = _ := g2
    have : (since w w').cell b (0 + j) = c0[j]? := by simp only [PH.cell, since, if_pos (hF b g1), g2', Nat.zero_add]; simp
    rw [this, ← g4, List.getElem?_take, if_pos hj]
theorem Post.since_le {τ : PH} {w w' : World} {Ko : List HP} (h : Post τ Ko w w') : PH.le τ (since w w') := fun b o hb => by
  have h1 := h.imm b o hb
  have : ¬ b < w.heap.size := fun hlt => by rw [h.new b hlt] at hb; cases hb
  simp only [since]; rw [if_pos (by omega)]; exact h1
theorem Post.row {τ : PH} {w w' : World} {N e : Nat} {v : Value} {α : Type} [Rep α] {l : List α} {Ko : List HP} (h : Post τ (rowD N e v l :: Ko) w w') (hl : l.length ≤ 140737488355328) : RepL (since w w') v l := by
  obtain ⟨F, h1, h2, _⟩ := h.sep
  exact rowD_since h1 (fun b hb => (h2 b hb).1) h.since_le hl
section
variable {P : Program} {f : FuncId} {R : Ending → World → Prop} {k : List Item} {n : Nat} {fr : Nat → Value} {w0 : World} {M : Nat → Prop} {σ : PH} {Kf : Us → List HP}
variable {H : HS} {O : List (Nat × Obj)} {Kb : List HP} {E : List Nat} {tags : List Tag} {rest : List Oper} {d : Nat} {ty : TypeId} {pos : String} {aft : Array Edge} {x y z : Operand} {t t' : TypeId}
variable {α : Type} {ri : Rep α} {e : Nat}
end
end Go.JW
namespace Go.JW

def glook : List (Nat × Option Bool) → Nat → Option (Option Bool)
  | [], _ => none
  | p :: l, x => bif Nat.beq p.1 x then some p.2 else glook l x
def nthO : List Oper → Nat → Option Oper
  | [], _ => none
  | o :: _, 0 => some o
  | _ :: l, i + 1 => nthO l i
theorem nthO_eq (l : List Oper) (i : Nat) : nthO l i = l[i]? := by
  induction l generalizing i with
  | nil => simp [nthO]
  | cons v l ih => cases i <;> simp [nthO, ih]
def onOff (gl : List (Nat × Option Bool)) (rl : List Oper) (o : Oper) : Option Bool :=
  match o.guard with
  | none => some true
  | some (j, b) => ((nthO rl j).bind (·.dst)).bind fun g => (glook gl g).map fun v => match v with | some c => (b == c) | none => false
def ersO (gl : List (Nat × Option Bool)) (rl : List Oper) (o : Oper) : Oper :=
  match onOff gl rl o with
  | some true => ⟨o.dst, o.op, o.type, o.pos, o.after, none⟩
  | _ => ⟨o.dst, .assign (.const undef), o.type, o.pos, o.after, none⟩
def ers (gl : List (Nat × Option Bool)) (rl : List Oper) : List Oper := rl.map (ersO gl rl)
def gOk (n : Nat) (gl : List (Nat × Option Bool)) (rl : List Oper) : Bool :=
  rl.zipIdx.all fun p =>
    match p.1.guard with
    | none => true
    | some (j, _) => ((nthO rl j).bind (·.dst)).any (fun g => Nat.blt g n && (glook gl g).isSome) && ((closL rl []).getD p.2 0).testBit j && (p.1.dst.isSome)
theorem glook_mem : ∀ {gl : List (Nat × Option Bool)} {x : Nat} {v : Option Bool}, glook gl x = some v → (x, v) ∈ gl := by
  intro gl
  induction gl with
  | nil => intro x v h; cases h
  | cons p gl ih =>
    intro x v h
    simp only [glook] at h
    by_cases e : Nat.beq p.1 x = true
    · simp only [e, cond_true] at h
      have := Nat.eq_of_beq_eq_true e
      injection h with h
      rw [← this, ← h]; simp
    · simp only [e, cond_false] at h
      exact List.mem_cons_of_mem _ (ih h)
theorem edgeTo_ers (gl : List (Nat × Option Bool)) (rl : List Oper) (o : Oper) : edgeTo (ersO gl rl o) = edgeTo o := by
  unfold ersO; split <;> rfl
theorem closL_ers (gl : List (Nat × Option Bool)) (rl : List Oper) : ∀ (l : List Oper) (acc : List Nat), closL (l.map (ersO gl rl)) acc = closL l acc := by
  intro l
  induction l with
  | nil => intro acc; rfl
  | cons o l ih => intro acc; simp only [List.map_cons, closL, edgeTo_ers]; exact ih _
section
variable {P : Program} {f : FuncId} {R : Ending → World → Prop} {k : List Item} {n : Nat} {fr : Nat → Value} {w0 : World} {M : Nat → Prop} {σ : PH} {K Kb : List HP}
theorem RS.drawG {id : Nat} {rl : List Oper} (gl : List (Nat × Option Bool)) (tags : List Tag) (Kb : List HP) (h : LD P f R k n w0 M σ Kb (ers gl rl) (tags ++ gl.map fun p => Tag.g p.1 p.2) ⟨fr, [], [], fun _ => K, [], false⟩)
    (hm : P.follows .mixedOrders = true) (hok : drawOkT (ers gl rl) tags = true) (hg : gOk n gl rl = true) (hL : Less K Kb) : RS P f R (.code (.region id rl.toArray true) :: k) n fr w0 M σ K := by
  obtain ⟨infos, gl', h1, h2, h3, h4⟩ := h.out
  have hle : (ers gl rl).length = rl.length := by simp [ers]
  have hlen : (ers gl rl).length = tags.length := by
    simp only [drawOkT, Bool.and_eq_true, decide_eq_true_eq] at hok; exact hok.2.2
  obtain ⟨ht, hgl⟩ : infos.map Info.tag = tags ∧ gl'.map (fun p => Tag.g p.1 p.2) = gl.map (fun p => Tag.g p.1 p.2) := List.append_inj h1 (by rw [List.length_map]; omega)
  have hgg : gl' = gl := by
    refine List.map_inj_right (f := fun (p : Nat × Option Bool) => Tag.g p.1 p.2) ?_ |>.1 hgl
    rintro ⟨a, b⟩ ⟨c, d⟩ e; injection e with e1 e2; simp only at e1 e2; rw [e1, e2]
  subst hgg
  have hok' : drawOk ((ers gl' rl).zip infos) = true := by unfold drawOk; rw [zip_fst h2, zip_snd h2, ht]; exact hok
  refine RS.drawReal (l := (ers gl' rl).zip infos) (by rw [List.length_zip, h2, Nat.min_self]; exact hle.symm) (fun hp i o inf hio => ?_) hm hok' hL h3
  have hz := List.getElem?_zip_eq_some.1 hio
  have hi : i < rl.length := by have := (List.getElem?_eq_some_iff.1 hz.1).1; omega
  have ho : o = ersO gl' rl rl[i] := by
    have := hz.1
    simp only [ers, List.getElem?_map, List.getElem?_eq_getElem hi, Option.map_some, Option.some.injEq] at this
    exact this.symm
  refine ⟨rl[i], List.getElem?_eq_getElem hi, ?_, fun L g w σ' Ol j I he K' Q' hw => ?_⟩
  · rw [ho]; unfold ersO; split <;> rfl
  generalize hr : rl[i] = r at ho
  have hri : rl.toArray[i]? = some r := by simp [hi, hr]
  unfold wpOp
  rw [hri]
  simp only
  cases hgd : r.guard with
  | none =>
    simp only [Region.wanted, hgd, if_true]
    have : o = r := by
      rw [ho]; unfold ersO onOff; rw [hgd]; cases r; simp at hgd; subst hgd; rfl
    rw [this] at hw
    exact .inl hw
  | some jb =>
    obtain ⟨j', b⟩ := jb
    have hgi := List.all_eq_true.1 hg (r, i) (by rw [List.mem_zipIdx_iff_getElem?]; simp [hi, hr])
    simp only [hgd, Bool.and_eq_true] at hgi
    obtain ⟨⟨hg1, hg2⟩, hg3⟩ := hgi
    cases hj : nthO rl j' with
    | none => rw [hj] at hg1; simp at hg1
    | some oj =>
      cases hd : oj.dst with
      | none => rw [hj] at hg1; simp [hd] at hg1
      | some gs =>
        rw [hj] at hg1
        simp only [Option.bind_some, hd, Option.any_some, Bool.and_eq_true] at hg1
        obtain ⟨hgn, hgk⟩ := hg1
        obtain ⟨v, hv⟩ := Option.isSome_iff_exists.1 hgk
        obtain ⟨hfr, hns⟩ := GEnd.at_ h4 _ (glook_mem hv)
        simp only at hfr hns
        have hj' : rl[j']? = some oj := by rw [← nthO_eq]; exact hj
        have hjl : j' < rl.length := (List.getElem?_eq_some_iff.1 hj').1
        obtain ⟨oj', infj, hjz⟩ := at_some (l := (ers gl' rl).zip infos) (i := j') (by rw [List.length_zip, h2, Nat.min_self, hle]; exact hjl)
        have hojd : oj'.dst = some gs := by
          have := (List.getElem?_zip_eq_some.1 hjz).1
          simp only [ers, List.getElem?_map, hj', Option.map_some, Option.some.injEq] at this
          rw [← this]; unfold ersO; split <;> exact hd
        have hdj : dstOf oj' = gs := by unfold dstOf; rw [hojd]; rfl
        have hclos : ((closL (((ers gl' rl).zip infos).map (·.1)) []).getD i 0).testBit j' = true := by
          rw [zip_fst h2, ers, closL_ers]; exact hg2
        have hLj : L j' = true := clos_listed I.down hio he hclos
        have hvj := I.vals j' oj' infj hLj hjz
        rw [hdj] at hvj
        have hlz : ((ers gl' rl).zip infos).length = (ers gl' rl).length := by rw [List.length_zip, h2, Nat.min_self]
        have hval : g gs = guardV v := by
          cases hx : infj.val? with
          | none =>
            exfalso
            cases hst : infj.isSt with
            | true => have := dst_none hp hjz hst; rw [hojd] at this; cases this
            | false =>
              refine hns ?_
              have hs : infj.hs = true := by cases infj <;> simp [Info.val?] at hx <;> simp [Info.isSt, Info.tag, Tag.isSt] at hst <;> rfl
              have := (slots_iff (l := (ers gl' rl).zip infos) (s0 := ⟨fr, [], [], fun _ => K, [], false⟩) rfl (ers gl' rl).length (by omega) gs).2 ⟨j', oj', infj, by omega, hjz, hs, hdj⟩
              exact this
          | some u =>
            have hu : g gs = u := by cases infj <;> simp [Info.val?] at hx <;> subst hx <;> exact hvj
            have hst : infj.isSt = false := by cases infj <;> simp [Info.val?] at hx <;> rfl
            have hy := fr_yes (l := (ers gl' rl).zip infos) (s0 := ⟨fr, [], [], fun _ => K, [], false⟩) (ers gl' rl).length (by omega) j' oj' infj u (by omega) hjz hx (fun k' o' inf' hk' hkp => by
              cases hx' : inf'.isSt with
              | false => exact .inl (dst_ne hp hok' (by omega) hkp hjz hx' hst)
              | true => exact .inr ⟨dst_none hp hkp hx', by cases inf' <;> simp [Info.isSt, Info.tag, Tag.isSt] at hx' <;> rfl⟩)
            rw [hdj] at hy
            rw [hu, ← hy]; exact hfr
        have hbind : (rl.toArray[j']?).bind (·.dst) = some gs := by simp [hj', hd]
        have hev : ev n g (.tmp gs) = guardV v := by simp only [ev, hgn, cond_true]; exact hval
        have hon : onOff gl' rl r = some (match v with | some c => (b == c) | none => false) := by
          unfold onOff; rw [hgd]; simp only [hj, Option.bind_some, hd, hv, Option.map_some]
          cases v <;> rfl
        cases v with
        | none =>
          have hy := yielded_undef (ops := rl.toArray) (n := n) (fr := g) hbind hev
          simp only [Region.wanted, hgd, hy]
          rw [if_neg (by simp)]
          rw [ho] at hw
          unfold ersO at hw
          rw [hon] at hw
          simp only [Oper.wp, act_eval, execOp, Sem.run_pure, ev, Oper.upon_value] at hw
          exact hw
        | some c =>
          have hy := yielded_at (ops := rl.toArray) (n := n) (fr := g) hbind hev
          by_cases hbc : c = b
          · subst hbc
            simp only [Region.wanted, hgd, hy]
            rw [if_pos (by simp)]
            rw [ho] at hw
            unfold ersO at hw
            rw [hon] at hw
            simp only [beq_self_eq_true] at hw
            exact .inl hw
          · have hcb : (b == c) = false := beq_eq_false_iff_ne.2 fun h => hbc h.symm
            simp only [Region.wanted, hgd, hy]
            rw [if_neg (by simp; exact fun h => hbc h)]
            rw [ho] at hw
            unfold ersO at hw
            rw [hon] at hw
            simp only [hcb, Oper.wp, act_eval, execOp, Sem.run_pure, ev, Oper.upon_value] at hw
            exact hw
variable {H : HS} {O : List (Nat × Obj)} {Kf : Us → List HP} {E : List Nat} {tags : List Tag} {rest : List Oper} {d : Nat} {ty : TypeId} {pos : String} {aft : Array Edge} {x y z : Operand} {t t' : TypeId}
theorem D.lenU {ee : TypeId} (s m : Nat) [ht : TSlice P t ee] (h : LD P f R k n w0 M σ Kb rest tags ⟨upd fr d (.int .i64 m), H, O, Kf, E, false⟩)
    (ho : ∀ us σ', PH.le σ σ' → Facts H (readsTmp ⟨some d, .call ⟨.builtin .len, #[x], #[t]⟩, ty, pos, aft, none⟩) us σ' → ∃ a c, us s = .slice a m c) (hx : ∀ us, ev n (fill fr H us) x = us s := by intro _; rfl) :
    LD P f R k n w0 M σ Kb (⟨some d, .call ⟨.builtin .len, #[x], #[t]⟩, ty, pos, aft, none⟩ :: rest) (.ex :: tags) ⟨fr, H, O, Kf, E, false⟩ :=
  D.ex h fun us σ' w hle hf hw => by
    obtain ⟨a, c, e⟩ := ho us σ' hle hf
    simp [execOp, resolve, invoke, builtin, hx us, e, Builtin.len_, run_underlying ht.eq, goInt]
variable {q : Bool} {ops : Array Oper}
end
end Go.JW
namespace Go.JW

class KeyT (κ : Type) where
  enc : κ → Value
  kind : TypeDesc
  eqb : κ → κ → Bool
  eqb_iff : ∀ a b, eqb a b = true ↔ a = b
  same : ∀ a b, Instr.sameNow kind (enc a) (enc b) = some (eqb a b)
  bits : ∀ a, Instr.sameBits 10000 (enc a) (enc a) = true
  plain : ∀ (P : Program) (kt : TypeId) (w : World) (emp : Bool) (a : κ), P.underlying kt = some kind → (Instr.checkKey emp 10000 kt (enc a)).run P w = .ok () w
theorem ckS {P : Program} {kt : TypeId} {w : World} {emp : Bool} {a : ByteArray} (n : Nat) (h : P.underlying kt = some .string) : (Instr.checkKey emp (n + 1) kt (.string a)).run P w = .ok () w := by
  simp only [Instr.checkKey, Sem.run_bind, run_underlying h, Result.andThen_ok]
  rfl
theorem ckI {P : Program} {kt : TypeId} {w : World} {emp : Bool} {a : Int} {k : IntKind} (n : Nat) (h : P.underlying kt = some (.int k)) : (Instr.checkKey emp (n + 1) kt (.int k a)).run P w = .ok () w := by
  simp only [Instr.checkKey, Sem.run_bind, run_underlying h, Result.andThen_ok]
  rfl
instance : KeyT ByteArray where
  enc s := .string s
  kind := .string
  eqb a b := decide (a = b)
  eqb_iff a b := by simp
  same a b := by
    have h := str_beq a b
    rw [← beq_toListBytes] at h
    simp only [Instr.sameNow, h]
  bits a := by
    have h := str_beq a a
    rw [← beq_toListBytes] at h
    simp [Instr.sameBits, h]
  plain P kt w emp a h := ckS 9999 h
instance : KeyT Int where
  enc n := .int .i64 n
  kind := .int .i64
  eqb a b := decide (a = b)
  eqb_iff a b := by simp
  same a b := by
    simp only [Instr.sameNow, if_true]
    rfl
  bits a := by simp [Instr.sameBits]
  plain P kt w emp a h := ckI 9999 h
class VRep (α : Type) extends Rep α where
  of : List Value → Value
section
variable {κ α : Type} [KeyT κ] [VRep α]
def asg : List (κ × α) → κ → Option α
  | [], _ => none
  | p :: l, k => bif KeyT.eqb k p.1 then some p.2 else asg l k
def aset : List (κ × α) → κ → α → List (κ × α)
  | [], k, x => [(k, x)]
  | p :: l, k, x => bif KeyT.eqb k p.1 then (k, x) :: l else p :: aset l k x
def adel : List (κ × α) → κ → List (κ × α)
  | [], _ => []
  | p :: l, k => bif KeyT.eqb k p.1 then l else p :: adel l k
def EntOk (σ : PH) (e : MapEntry) (p : κ × α) : Prop := e.key = KeyT.enc p.1 ∧ ∃ cs, e.val = VRep.of α cs ∧ Rep.rep σ cs p.2
def Ents (σ : PH) : List MapEntry → List (κ × α) → Prop
  | [], [] => True
  | e :: es, p :: l => EntOk σ e p ∧ Ents σ es l
  | _, _ => False
theorem Ents.mono {σ σ' : PH} (hs : PH.le σ σ') : ∀ {es : List MapEntry} {l : List (κ × α)}, Ents σ es l → Ents σ' es l := by
  intro es
  induction es with
  | nil => intro l h; cases l with
    | nil => trivial
    | cons _ _ => exact h.elim
  | cons e es ih =>
    intro l h
    cases l with
    | nil => exact h.elim
    | cons p l =>
      obtain ⟨⟨h1, cs, h2, h3⟩, h4⟩ := h
      exact ⟨⟨h1, cs, h2, Rep.mono h3 hs⟩, ih h4⟩
theorem Ents.len {σ : PH} : ∀ {es : List MapEntry} {l : List (κ × α)}, Ents σ es l → es.length = l.length := by
  intro es
  induction es with
  | nil => intro l h; cases l with
    | nil => rfl
    | cons _ _ => exact h.elim
  | cons e es ih =>
    intro l h
    cases l with
    | nil => exact h.elim
    | cons p l => rw [List.length_cons, List.length_cons, ih h.2]
theorem Ents.find_none {σ : PH} {k : κ} : ∀ {es : List MapEntry} {l : List (κ × α)} {i : Nat}, Ents σ es l → asg l k = none → Instr.findNow (KeyT.kind κ) (KeyT.enc k) es i = some none := by
  intro es
  induction es with
  | nil => intro l i h _; cases l with
    | nil => rfl
    | cons _ _ => exact h.elim
  | cons e es ih =>
    intro l i h hn
    cases l with
    | nil => exact h.elim
    | cons p l =>
      obtain ⟨⟨h1, _⟩, h4⟩ := h
      simp only [asg] at hn
      cases he : KeyT.eqb k p.1 with
      | true => rw [he] at hn; cases hn
      | false =>
        rw [he] at hn
        simp only [Instr.findNow, h1, KeyT.same, he]
        exact ih h4 hn
theorem Ents.find_some {σ : PH} {k : κ} {x : α} : ∀ {es : List MapEntry} {l : List (κ × α)} {i : Nat}, Ents σ es l → asg l k = some x →
    ∃ j cs, Instr.findNow (KeyT.kind κ) (KeyT.enc k) es i = some (some (i + j, VRep.of α cs)) ∧ Rep.rep σ cs x ∧ (es[j]?).map (·.key) = some (KeyT.enc k) ∧
      (∀ cs' y, Rep.rep σ cs' y → Ents σ (es.modify j fun e => { e with key := KeyT.enc k, val := VRep.of α cs' }) (aset l k y)) ∧ Ents σ (es.eraseIdx j) (adel l k) := by
  intro es
  induction es with
  | nil => intro l i h hx; cases l with
    | nil => cases hx
    | cons _ _ => exact h.elim
  | cons e es ih =>
    intro l i h hx
    cases l with
    | nil => exact h.elim
    | cons p l =>
      obtain ⟨⟨h1, cs, h2, h3⟩, h4⟩ := h
      simp only [asg] at hx
      cases he : KeyT.eqb k p.1 with
      | true =>
        rw [he] at hx
        simp only [cond_true, Option.some.injEq] at hx
        subst hx
        have hk := (KeyT.eqb_iff k p.1).1 he
        refine ⟨0, cs, ?_, h3, by simp [h1, hk], fun cs' y hy => ?_, ?_⟩
        · simp only [Instr.findNow, h1, KeyT.same, he, h2, Nat.add_zero]
        · simp only [aset, he, cond_true, List.modify_zero_cons]
          exact ⟨⟨rfl, cs', rfl, hy⟩, h4⟩
        · simp only [adel, he, cond_true, List.eraseIdx_cons_zero]; exact h4
      | false =>
        rw [he] at hx
        simp only [cond_false] at hx
        obtain ⟨j, cs2, g1, g2, g3, g4, g5⟩ := ih (i := i + 1) h4 hx
        refine ⟨j + 1, cs2, ?_, g2, by simpa using g3, fun cs' y hy => ?_, ?_⟩
        · simp only [Instr.findNow, h1, KeyT.same, he]
          rw [g1]; congr 3; omega
        · simp only [aset, he, cond_false, List.modify_succ_cons]
          exact ⟨⟨h1, cs, h2, h3⟩, g4 cs' y hy⟩
        · simp only [adel, he, cond_false, List.eraseIdx_cons_succ]
          exact ⟨⟨h1, cs, h2, h3⟩, g5⟩
theorem Ents.push {σ : PH} {e : MapEntry} {k : κ} {x : α} : ∀ {es : List MapEntry} {l : List (κ × α)}, Ents σ es l → asg l k = none → EntOk σ e (k, x) → Ents σ (es ++ [e]) (aset l k x) := by
  intro es
  induction es with
  | nil => intro l h _ he; cases l with
    | nil => exact ⟨he, trivial⟩
    | cons _ _ => exact h.elim
  | cons e0 es ih =>
    intro l h hn he
    cases l with
    | nil => exact h.elim
    | cons p l =>
      simp only [asg] at hn
      cases hp : KeyT.eqb k p.1 with
      | true => rw [hp] at hn; cases hn
      | false =>
        rw [hp] at hn
        simp only [aset, hp, cond_false, List.cons_append]
        exact ⟨h.1, ih h.2 hn he⟩
structure MapOk (σ : PH) (es : Array MapEntry) (clock : Nat) (l : List (κ × α)) : Prop where
  ents : Ents σ es.toList l
  born : (es.toList.map (·.born)).Nodup
  old : ∀ e ∈ es.toList, e.born < clock
theorem MapOk.mono {σ σ' : PH} {es : Array MapEntry} {clock : Nat} {l : List (κ × α)} (h : MapOk σ es clock l) (hs : PH.le σ σ') : MapOk σ' es clock l := ⟨h.ents.mono hs, h.born, h.old⟩
theorem MapOk.size {σ : PH} {es : Array MapEntry} {clock : Nat} {l : List (κ × α)} (h : MapOk σ es clock l) : es.size = l.length := by rw [← Array.length_toList]; exact h.ents.len
theorem MapOk.nil (σ : PH) : MapOk σ #[] 0 ([] : List (κ × α)) := ⟨trivial, by simp, by simp⟩
def updM (kind : TypeDesc) (es : Array MapEntry) (clock : Nat) (key v : Value) : Array MapEntry × Nat :=
  match Instr.findNow kind key es.toList 0 with
  | some (some (i, _)) => (es.modify i fun e => { e with key := key, val := v }, clock)
  | _ => (es.push { key := key, val := v, born := clock }, clock + 1)
theorem map_modify_born (es : List MapEntry) (j : Nat) (f : MapEntry → MapEntry) (hf : ∀ e, (f e).born = e.born) : (es.modify j f).map (·.born) = es.map (·.born) := by
  induction es generalizing j with
  | nil => simp
  | cons e es ih => cases j with
    | zero => simp [hf]
    | succ j => simp [ih]
theorem mem_modify {es : List MapEntry} {j : Nat} {f : MapEntry → MapEntry} {e : MapEntry} (h : e ∈ es.modify j f) : ∃ e0 ∈ es, e = e0 ∨ e = f e0 := by
  induction es generalizing j with
  | nil => simp at h
  | cons a es ih =>
    cases j with
    | zero =>
      simp only [List.modify_zero_cons, List.mem_cons] at h
      rcases h with h | h
      · exact ⟨a, by simp, .inr h⟩
      · exact ⟨e, by simp [h], .inl rfl⟩
    | succ j =>
      simp only [List.modify_succ_cons, List.mem_cons] at h
      rcases h with h | h
      · exact ⟨a, by simp, .inl h⟩
      · obtain ⟨e0, h1, h2⟩ := ih h
        exact ⟨e0, by simp [h1], h2⟩
theorem MapOk.upd {σ : PH} {es : Array MapEntry} {clock : Nat} {l : List (κ × α)} (h : MapOk σ es clock l) (k : κ) {x : α} {cs : List Value} (hx : Rep.rep σ cs x) :
    MapOk σ (updM (KeyT.kind κ) es clock (KeyT.enc k) (VRep.of α cs)).1 (updM (KeyT.kind κ) es clock (KeyT.enc k) (VRep.of α cs)).2 (aset l k x) := by
  cases ha : asg l k with
  | none =>
    have hf := h.ents.find_none (i := 0) ha
    have e : updM (KeyT.kind κ) es clock (KeyT.enc k) (VRep.of α cs) = (es.push { key := KeyT.enc k, val := VRep.of α cs, born := clock }, clock + 1) := by unfold updM; rw [hf]
    rw [e]
    refine ⟨?_, ?_, ?_⟩
    · simp only [Array.toList_push]; exact h.ents.push ha ⟨rfl, cs, rfl, hx⟩
    · simp only [Array.toList_push, List.map_append, List.map_cons, List.map_nil]
      rw [List.nodup_append]
      refine ⟨h.born, by simp, ?_⟩
      intro a ha' b hb hab
      simp at hb
      subst hb; subst hab
      obtain ⟨e, h1, h2⟩ := List.mem_map.1 ha'
      have := h.old e h1
      omega
    · intro e he
      simp only [Array.toList_push, List.mem_append, List.mem_singleton] at he
      rcases he with he | rfl
      · have := h.old e he; omega
      · show clock < clock + 1; omega
  | some y =>
    obtain ⟨j, cs0, g1, g2, g3, g4, g5⟩ := h.ents.find_some (i := 0) ha
    have e : updM (KeyT.kind κ) es clock (KeyT.enc k) (VRep.of α cs) = (es.modify (0 + j) fun e => { e with key := KeyT.enc k, val := VRep.of α cs }, clock) := by unfold updM; rw [g1]
    rw [e, Nat.zero_add]
    refine ⟨?_, ?_, ?_⟩
    · simp only [Array.toList_modify]; exact g4 cs x hx
    · simp only [Array.toList_modify]; rw [map_modify_born es.toList j (fun e => { e with key := KeyT.enc k, val := VRep.of α cs }) (fun _ => rfl)]; exact h.born
    · intro e he
      simp only [Array.toList_modify] at he
      obtain ⟨e0, h1, h2⟩ := mem_modify he
      have := h.old e0 h1
      rcases h2 with rfl | rfl <;> exact this
end

class TZv (P : Program) (t : TypeId) (z : outParam Value) : Prop where eq : (P.info? t).bind (·.zero) = some z
section
variable {P : Program}
end
class TKey (P : Program) (kt : TypeId) (κ : Type) [KeyT κ] : Prop where eq : P.underlying kt = some (KeyT.kind κ)
instance {P : Program} {kt : TypeId} [h : TStr P kt] : TKey P kt ByteArray := ⟨h.eq⟩
instance {P : Program} {kt : TypeId} [h : TInt P kt .i64] : TKey P kt Int := ⟨h.eq⟩
section
variable {P : Program} {q : Bool} {ops : Array Oper} {f : FuncId} {R : Ending → World → Prop} {k : List Item} {n : Nat} {fr : Nat → Value} {w0 : World} {M : Nat → Prop} {σ σm : PH} {K K' : List HP}
variable {rest : List Oper} {d : Nat} {ty : TypeId} {pos : String} {aft : Array Edge} {x y z : Operand} {t t' kt et : TypeId}
variable {κ α : Type} [KeyT κ] [VRep α] {zv : Value} {bm bi clock : Nat} {es : Array MapEntry} {l : List (κ × α)} {put : HP → List HP}
theorem RS.enterK {fn : Func} {c : Code} {L : List Value} {g : FuncId} {w : World} (hf : P.funcs[g]? = some fn) (hn : fn.ntmps = n) (hb : fn.body = some c) (hs : Nat.ble L.length n = true)
    (h0 : Sat w0 M σ K w) (h : RS P g R [.code c] n (frameOf L) w0 M σ K) : Calls P g L.toArray w R := by
  refine Run.calls hf hb ?_
  rw [hn, act_enter _ _ (by simpa using hs)]
  exact h.out w h0
variable {H : HS} {O : List (Nat × Obj)} {Kf : Us → List HP} {Kb : List HP} {E : List Nat} {sg : Bool} {tags : List Tag}
end
end Go.JW
namespace Go.JW
theorem Sat.front {w0 w : World} {M : Nat → Prop} {σ : PH} (Ls T : List HP) {K : List HP} (h : Sat w0 M σ (Ls ++ (T ++ K)) w) : Sat w0 M σ (T ++ (Ls ++ K)) w := h.perm (List.perm_append_comm_assoc _ _ _)
section
variable {P : Program} {q : Bool} {ops : Array Oper} {f : FuncId} {R : Ending → World → Prop} {k : List Item} {n : Nat} {fr : Nat → Value} {w0 : World} {M : Nat → Prop} {σ : PH} {K K' : List HP}
variable {rest : List Oper} {d : Nat} {ty : TypeId} {pos : String} {aft : Array Edge}
theorem Sat.freeze0 {α : Type} {ri : Rep α} {N e : Nat} {l : List α} {put : HP → List HP} {v : Value} {w : World} (hw : Sat w0 M σ K w) (hl : l.length ≤ 140737488355328) (hf : FindD v K α ri N e l put K') : ∃ σ', PH.le σ σ' ∧ RepL σ' v l ∧ Sat w0 M σ' K' w := by
  obtain ⟨cs, hc, hw'⟩ := hw.openD hf
  obtain ⟨a, cap, σ', rfl, h2, h3, h4, h5, h6, h7⟩ := hw'.freezeRow (hf := FindR.head)
  refine ⟨σ', h3, ⟨hl, a, cap, rfl, h2, fun hn => ?_⟩, h4⟩
  rcases h7 with ⟨h8, _⟩ | ⟨b, rfl, g1, _, g2, g3⟩
  · exact absurd (List.eq_nil_of_length_eq_zero h8) hn
  · refine ⟨b, 0, rfl, (hc.mono (PH.le_trans (fromN_le N σ) h3)).rowAt fun j hj => ?_⟩
    rw [hc.len] at hj
    rw [Nat.zero_add, ← g3 j hj]
theorem RS.freeze0 {α : Type} {ri : Rep α} {N e : Nat} {l : List α} {put : HP → List HP} (v : Value) (h : ∀ σ', PH.le σ σ' → RepL σ' v l → RS P f R k n fr w0 M σ' K') (hl : l.length ≤ 140737488355328 := by omega) (hf : FindD v K α ri N e l put K' := by infer_instance) :
    RS P f R k n fr w0 M σ K :=
  ⟨fun w hw => by obtain ⟨σ', h1, h2, h3⟩ := hw.freeze0 hl hf; exact (h σ' h1 h2).out w h3⟩
theorem LS.freeze0 {α : Type} {ri : Rep α} {N e : Nat} {l : List α} {put : HP → List HP} {ll : List Oper} (v : Value) (h : ∀ σ', PH.le σ σ' → RepL σ' v l → LS P false ops f R k ll n fr w0 M σ' K') (hl : l.length ≤ 140737488355328 := by omega) (hf : FindD v K α ri N e l put K' := by infer_instance) :
    LS P false ops f R k ll n fr w0 M σ K :=
  ⟨fun w hw => by obtain ⟨σ', h1, h2, h3⟩ := hw.freeze0 hl hf; exact (h σ' h1 h2).out w h3⟩
theorem RS.ow {us : Us} (h : RS P f R k n fr w0 M σ K) : RS P f R k n fr w0 M σ (ownsL [] us ++ K) := h
def fldV (P : Program) (t : TypeId) (i : Nat) : Option (Nat × Option Nat) :=
  match P.underlying t with
  | some (.struct fs) => (fs[i]?).bind fun f => match aggOf P f.type with | some false => some (f.offset, none) | some true => (szOf P f.type).map fun s => (f.offset, some s) | none => none
  | _ => none
class TFldV (P : Program) (t : TypeId) (i : Nat) (o : outParam Nat) : Prop where eq : fldV P t i = some (o, none)
class TFldA (P : Program) (t : TypeId) (i : Nat) (o s : outParam Nat) : Prop where eq : fldV P t i = some (o, some s)
variable {t : TypeId} {x : Operand} {i o : Nat} {cs : List Value}
variable {H : HS} {O : List (Nat × Obj)} {Kf : Us → List HP} {Kb : List HP} {E : List Nat} {sg : Bool} {tags : List Tag}
theorem D.bin_eql_B {a b : Bool} {x y : Operand} {t' : TypeId} [ht : TBool P t] (h : LD P f R k n w0 M σ Kb rest tags ⟨upd fr d (.bool (a == b)), H, O, Kf, E, sg⟩) (hx : ∀ us, ev n (fill fr H us) x = .bool a := by intro _; rfl) (hy : ∀ us, ev n (fill fr H us) y = .bool b := by intro _; rfl) :
    LD P f R k n w0 M σ Kb (⟨some d, .binOp .eql t x y t', ty, pos, aft, none⟩ :: rest) (.free :: tags) ⟨fr, H, O, Kf, E, sg⟩ :=
  D.free h fun us w => by
    have e : (Op.equal t (.bool a) (.bool b)).run P w = .ok (a == b) w := run_equalIn_bool' w 9999 t a b ht.eq
    simp only [execOp, hx us, hy us, eqGuard, Sem.run_bind]
    simp [binOp, e]
end

section
variable {P : Program} {f : FuncId} {R : Ending → World → Prop} {k : List Item} {n : Nat} {fr : Nat → Value} {w0 : World} {M : Nat → Prop} {σ : PH}
variable {rest : List Oper} {d : Nat} {ty : TypeId} {pos : String} {aft : Array Edge} {H : HS} {O : List (Nat × Obj)} {Kf : Us → List HP} {Kb : List HP} {E : List Nat} {tags : List Tag}
theorem D.eqA {b : Bool} {us1 us2 : List Value} {sg : Bool} {x y : Operand} {t t' : TypeId} (heq : ∀ w, (Op.equalIn 10000 t (.agg us1.toArray) (.agg us2.toArray)).run P w = .ok b w) (hg : P.eqGuardType P.depth t = false) (h : LD P f R k n w0 M σ Kb rest tags ⟨upd fr d (.bool b), H, O, Kf, E, sg⟩)
    (hx : ∀ us, ev n (fill fr H us) x = .agg us1.toArray := by intro _; rfl) (hy : ∀ us, ev n (fill fr H us) y = .agg us2.toArray := by intro _; rfl) : LD P f R k n w0 M σ Kb (⟨some d, .binOp .eql t x y t', ty, pos, aft, none⟩ :: rest) (.free :: tags) ⟨fr, H, O, Kf, E, sg⟩ :=
  D.free h fun us w => by
    simp only [execOp, hx us, hy us, Sem.run_bind, run_eqGuard_agg w .eql t x y _ _ hg, Result.andThen_ok, run_eql_struct, heq]
    rfl
theorem D.neqA {b : Bool} {us1 us2 : List Value} {sg : Bool} {x y : Operand} {t t' : TypeId} (heq : ∀ w, (Op.equalIn 10000 t (.agg us1.toArray) (.agg us2.toArray)).run P w = .ok b w) (hg : P.eqGuardType P.depth t = false) (h : LD P f R k n w0 M σ Kb rest tags ⟨upd fr d (.bool (!b)), H, O, Kf, E, sg⟩)
    (hx : ∀ us, ev n (fill fr H us) x = .agg us1.toArray := by intro _; rfl) (hy : ∀ us, ev n (fill fr H us) y = .agg us2.toArray := by intro _; rfl) : LD P f R k n w0 M σ Kb (⟨some d, .binOp .neq t x y t', ty, pos, aft, none⟩ :: rest) (.free :: tags) ⟨fr, H, O, Kf, E, sg⟩ :=
  D.free h fun us w => by
    simp only [execOp, hx us, hy us, Sem.run_bind, run_eqGuard_agg w .neq t x y _ _ hg, Result.andThen_ok, run_neq_struct, heq]
    rfl
end
end Go.JW
namespace Go.Proofs.YtealabaiamaojaaGreatDoor
theorem B_cut (u : Bs) (l h : Nat) : (B u).extract l h = B ((u.take h).drop l) := by
  apply ByteArray.ext
  apply Array.ext'
  rw [Lib.extract_data]
  simp only [B]
  rw [List.drop_take]
theorem B_take (u : Bs) (h : Nat) : (B u).extract 0 h = B (u.take h) := by rw [B_cut]; rfl
theorem B_drop (u : Bs) (l : Nat) : (B u).extract l (B u).size = B (u.drop l) := by
  rw [B_cut, B_size, List.take_length]
theorem B_get (u : Bs) (i : Nat) : (B u)[i]? = u[i]? := by
  by_cases h : i < u.length
  · have h' : i < (B u).size := by rw [B_size]; exact h
    rw [List.getElem?_eq_getElem h, getElem?_pos (B u) i h']
    rfl
  · have h' : ¬ i < (B u).size := by rw [B_size]; exact h
    rw [List.getElem?_eq_none (by omega), getElem?_neg (B u) i h']
end Go.Proofs.YtealabaiamaojaaGreatDoor
namespace Go.JW
open Go.Proofs.YtealabaiamaojaaGreatDoor
section
variable {P : Program} {q : Bool} {ops : Array Oper} {f : FuncId} {R : Ending → World → Prop} {k : List Item} {n : Nat} {fr : Nat → Value} {w0 : World} {M : Nat → Prop} {σ : PH} {K K' : List HP}
variable {rest : List Oper} {d : Nat} {ty : TypeId} {pos : String} {aft : Array Edge} {x y z : Operand} {t t' : TypeId}
theorem run_sliceT (w : World) {s : ByteArray} {lo hi : Option Value} {l h m : Nat} (ht : P.underlying t = some .string) (hb : (Instr.sliceBounds false s.size s.size lo hi none).run P w = .ok (l, h, m) w) :
    (Instr.sliceAt t (.string s) lo hi none).run P w = .ok (.string (s.extract l h)) w := by
  simp [Instr.sliceAt, Instr.slice, run_underlying ht, hb]
theorem slcFrom (l : Nat) {u : Bs} {lo : Operand} {kk : IntKind} {j : Int} [ht : TStr P t] (h : LS P q ops f R k rest n (upd fr d (.string (B (u.drop l)))) w0 M σ K)
    (hx : ev n fr x = .string (B u) := by rfl) (hlo : ev n fr lo = .int kk j := by rfl) (hj : j = (l : Int) := by first | rfl | omega) (hl : l ≤ u.length := by omega) :
    LS P q ops f R k (⟨some d, .slice t x (some lo) none none, ty, pos, aft, none⟩ :: rest) n fr w0 M σ K :=
  LS.val rfl rfl (fun w _ => by
    subst hj
    have := run_sliceT (P := P) (t := t) w (s := B u) (lo := some (.int kk l)) (hi := none) (l := l) (h := (B u).size) (m := (B u).size) ht.eq (by rw [B_size]; simp [Instr.sliceBounds, run_sliceBound, hl])
    rw [B_drop] at this
    simp only [execOp, hx, Option.map_some, Option.map_none, hlo, Sem.run_bind, this, Result.andThen_ok]
    rfl) h
theorem slcUpto (hh : Nat) {u : Bs} {hi : Operand} {kk : IntKind} {j : Int} [ht : TStr P t] (h : LS P q ops f R k rest n (upd fr d (.string (B (u.take hh)))) w0 M σ K)
    (hx : ev n fr x = .string (B u) := by rfl) (hhi : ev n fr hi = .int kk j := by rfl) (hj : j = (hh : Int) := by first | rfl | omega) (hl : hh ≤ u.length := by omega) :
    LS P q ops f R k (⟨some d, .slice t x none (some hi) none, ty, pos, aft, none⟩ :: rest) n fr w0 M σ K :=
  LS.val rfl rfl (fun w _ => by
    subst hj
    have := run_sliceT (P := P) (t := t) w (s := B u) (lo := none) (hi := some (.int kk hh)) (l := 0) (h := hh) (m := (B u).size) ht.eq (by rw [B_size]; simp [Instr.sliceBounds, run_sliceBound, hl])
    rw [B_take] at this
    simp only [execOp, hx, Option.map_some, Option.map_none, hhi, Sem.run_bind, this, Result.andThen_ok]
    rfl) h
theorem byteT (i : Nat) (c : UInt8) {u : Bs} {kk : IntKind} {j : Int} [ht : TStr P t] (h : LS P q ops f R k rest n (upd fr d (.int .u8 c.toNat)) w0 M σ K)
    (hc : u[i]? = some c) (hx : ev n fr x = .string (B u) := by rfl) (hy : ev n fr y = .int kk j := by rfl) (hj : j = (i : Int) := by first | rfl | omega) :
    LS P q ops f R k (⟨some d, .index t x y, ty, pos, aft, none⟩ :: rest) n fr w0 M σ K :=
  LS.val rfl rfl (fun w _ => by
    subst hj
    have : (B u)[i]? = some c := by rw [B_get]; exact hc
    simp [execOp, hx, hy, Instr.index, asIntOf, run_underlying ht.eq, this]) h
end
end Go.JW
namespace Go.Proofs.YtealabaiamaojaaGreatDoor
open Go.JW Go.RowKit
def TabAt (σ : PH) (g : Nat) (cs : Array Value) : Prop := ∃ T r, σ g = some (.cells cs T r)
structure LibAt (σ : PH) : Prop where
  spc : TabAt σ 0 (Lib.asciiSpaceTab.map fun z => Value.int .u8 z).toArray
  pow : TabAt σ 2 (Lib.pow10Tab.map fun z => Value.int .u64 z).toArray
  max : ∃ m, σ.cell 3 0 = some (.int .i64 m)
theorem TabAt.mono {σ σ' : PH} {g : Nat} {cs : Array Value} (h : TabAt σ g cs) (hs : PH.le σ σ') : TabAt σ' g cs := by
  obtain ⟨T, r, h⟩ := h; exact ⟨T, r, hs _ _ h⟩
theorem LibAt.mono {σ σ' : PH} (h : LibAt σ) (hs : PH.le σ σ') : LibAt σ' :=
  ⟨h.spc.mono hs, h.pow.mono hs, h.max.imp fun _ h => PH.cell_mono hs h⟩
theorem TabAt.is {w : World} {g : Nat} {name : String} {k : IntKind} {zs : List Int} (h : TabAt (hp w) g (zs.map fun z => Value.int k z).toArray) (hg : Tryz.prog.globalNamed name = some g) : Lib.TabIs Tryz.prog w name k zs := by
  obtain ⟨T, r, h⟩ := h
  have h : w.heap[g]? = some (.cells (zs.map fun z => Value.int k z).toArray T r) := h
  unfold Lib.TabIs World.var?
  rw [hg, Option.bind_some, h]
theorem LibAt.tabP {w : World} (h : LibAt (hp w)) : Lib.TabIs Tryz.prog w "internal/strconv.uint64pow10" .u64 Lib.pow10Tab := h.pow.is (by kernel_rfl)
theorem LibAt.tabS {w : World} (h : LibAt (hp w)) : Lib.TabIs Tryz.prog w "strings.asciiSpace" .u8 Lib.asciiSpaceTab := h.spc.is (by kernel_rfl)
theorem below_refl (w : World) : Below w.heap.size w w := (Sat.start w).below
theorem below_grown (w : World) (k : Nat) (os : Array Obj) : Below w.heap.size w (Go.Sort.grow (w.drewN k) os) :=
  ⟨rfl, rfl, rfl, by simp [Go.Sort.grow, World.drewN], fun k hk => by simp [Go.Sort.grow, World.drewN, Array.getElem?_append, hk]⟩
theorem cut_c (u : Bs) (c : UInt8) (no : Bool) (w : World) : Calls Tryz.prog 146 #[.string (B u), .string (B [c])] w fun e w' => e = .returned (.tuple (List.toArray [.string (B (signR c ⟨u, no⟩).2.s), .bool (signR c ⟨u, no⟩).1])) ∧ Below w.heap.size w w' :=
  (Tryz.strings_CutPrefix (B u) (B [c]) w).mono fun e w' ⟨h1, h2⟩ => by
    refine ⟨?_, by rw [h2]; exact below_refl w⟩
    rw [h1]
    show Ending.returned (.tuple (List.toArray [.string (B (Lib.trimPrefix u [c])), .bool (Lib.hasPrefix u [c])])) = _
    cases u with
    | nil => rfl
    | cons b t =>
      by_cases e : b = c
      · subst e; simp [Lib.trimPrefix, Lib.hasPrefix, signR, List.isPrefixOf]
      · have e' : (c == b) = false := by simpa using fun h => e h.symm
        simp [Lib.trimPrefix, Lib.hasPrefix, signR, List.isPrefixOf, e, e']
theorem itoa_c (n : Int) (h0 : 0 ≤ n ∧ n ≤ 9223372036854775807) (w : World) (hL : LibAt (hp w)) : Calls Tryz.prog 61 #[.int .i64 n] w fun e w' => e = .returned (.string (B (digN n.toNat))) ∧ Below w.heap.size w w' :=
  (Tryz.strconv_Itoa n (by omega) h0.2 w hL.tabP).mono fun e w' ⟨h1, k, os, h2⟩ => by
    refine ⟨?_, by rw [h2]; exact below_grown _ _ _⟩
    rw [h1, itoa_eq h0]; rfl
theorem splitB_le : ∀ {u : Bs} {y : Bs}, y ∈ splitB u → y.length ≤ u.length := by
  intro u
  induction u with
  | nil => intro y h; simp [splitB] at h; simp [h]
  | cons b t ih =>
    intro y h
    simp only [splitB] at h
    split at h
    · rcases List.mem_cons.1 h with rfl | h
      · simp
      · have := ih h; simp; omega
    · cases e : splitB t with
      | nil => exact absurd e (splitB_ne t)
      | cons x xs =>
        rw [e] at h ih
        rcases List.mem_cons.1 h with rfl | h
        · have := ih (y := x) (by simp); simp; omega
        · have := ih (y := y) (by simp [h]); simp; omega
theorem join_c (c : UInt8) (ws : List Bs) (v : Value) (w : World) (h : RepL (hp w) v (ws.map B)) (hs : (Lib.join ws [c]).length ≤ 140737488355328) : Calls Tryz.prog 63 #[v, .string (B [c])] w fun e w' => e = .returned (.string (B (Lib.join ws [c]))) ∧ Below w.heap.size w w' := by
  obtain ⟨a, cap, rfl⟩ := h.form
  have e1 : ((ws.map B).map fun x : ByteArray => x.data.toList) = ws := by rw [List.map_map]; simp [Function.comp_def, B]
  cases hn : ws with
  | nil =>
    subst hn
    refine (Tryz.strings_Join_none a cap (B [c]) w).mono fun e w' ⟨h1, h2⟩ => ⟨by rw [h1]; rfl, by rw [h2]; exact below_refl w⟩
  | cons x xs =>
    rw [← hn]
    obtain ⟨b, o, rfl, hr⟩ := h.addr (by simp [hn])
    have hlen := h.1
    have hcap : (ws.map B).length ≤ cap := by
      obtain ⟨_, a, c, e, h2, _⟩ := h; cases e; exact h2
    have hc : ∀ (j : Nat) x, (ws.map B)[j]? = some x → w.cell? ⟨b, o + j, none⟩ = some (.string x) := fun j x hx => by
      obtain ⟨hj, rfl⟩ := List.getElem?_eq_some_iff.1 hx
      have := (hr.str j hj).1
      rw [PH.cell_world, Nat.mul_one] at this; exact this
    have hb : b < w.heap.size := by
      have h1 := (hr.str 0 (by simp [hn])).1
      unfold PH.cell at h1
      cases h2 : hp w b with
      | none => rw [h2] at h1; cases h1
      | some o => exact hp_lt h2
    refine (Tryz.strings_Join b o cap (ws.map B) (B [c]) w hc hb hlen hcap (by rw [e1]; exact hs)).mono fun e w' ⟨h1, h2⟩ => ⟨?_, h2⟩
    rw [h1, e1]; rfl
theorem alloc_at (w : World) (o : Obj) : (w.alloc o).heap[w.heap.size]? = some o := by show (w.heap.push o)[w.heap.size]? = _; simp
theorem strs_new {w : World} {vs : List ByteArray} {T : TypeId} (hl : vs.length ≤ 140737488355328) (hs : ∀ x ∈ vs, x.size ≤ 140737488355328) :
    RepL (since w (w.alloc (.cells (vs.map Value.string).toArray T))) (.slice (some ⟨w.heap.size, 0, none⟩) vs.length vs.length) vs := by
  refine ⟨hl, _, _, rfl, Nat.le_refl _, fun _ => ⟨_, 0, rfl, fun i hi => ⟨[.string vs[i]], fun j hj => ?_, rfl, hs _ (List.getElem_mem hi)⟩⟩⟩
  have hj : j = 0 := by have : j < 1 := hj; omega
  subst hj
  unfold PH.cell since
  rw [if_pos (Nat.le_refl _), alloc_at]
  show (vs.map Value.string).toArray[0 + i * 1 + 0]? = some (.string vs[i])
  simp [hi]
theorem below_alloc (w : World) (o : Obj) : Below w.heap.size w (w.alloc o) := ⟨rfl, rfl, rfl, by simp, fun k hk => by show (w.heap.push o)[k]? = _; simp [Array.getElem?_push, Nat.ne_of_lt hk]⟩
def verbs7 : List ByteArray := [B (verbT 1), B (verbT 2), B (verbT 3), B (verbT 4), B (verbT 5), B (verbT 6), B (verbT 7)]
theorem verbs_low : ∀ j : Fin 43, (verbsB.getD j.val 0).toNat < 128 := by decide +kernel
theorem fields_c (w : World) (hL : LibAt (hp w)) : Calls Tryz.prog 57 #[.string (B verbsB)] w fun e w' => ∃ v, e = .returned v ∧ Below w.heap.size w w' ∧ RepL (since w w') v verbs7 := by
  refine (Tryz.strings_Fields_laid (B verbsB) w (by decide) (fun j b h => ?_) hL.tabS).mono fun e w' ⟨h1, h2⟩ => ?_
  · have h : verbsB[j]? = some b := h
    obtain ⟨hj, rfl⟩ := List.getElem?_eq_some_iff.1 h
    have := verbs_low ⟨j, by simpa [verbsB] using hj⟩
    simpa [List.getD, hj] using this
  · have e1 : Lib.fields (B verbsB).data.toList = _ := fields_verbs
    rw [e1] at h1 h2
    have e2 : (Value.string ∘ fun l : Bs => (⟨l.toArray⟩ : ByteArray)) = Value.string ∘ B := rfl
    refine ⟨_, h1, by rw [h2]; exact below_alloc _ _, ?_⟩
    rw [h2]
    exact strs_new (vs := verbs7) (by decide) (by decide)
theorem split_c (u : Bs) (hu : u.length < 4294967281) (w : World) (hL : LibAt (hp w)) : Calls Tryz.prog 106 #[.string (B u), .string (B [32])] w fun e w' => ∃ v, e = .returned v ∧ Below w.heap.size w w' ∧ RepL (since w w') v ((splitB u).map B) := by
  obtain ⟨m, hm⟩ := hL.max
  rw [PH.cell_world] at hm
  have e0 : (Lib.splitB (B [32]) 0 (Lib.countB (B u) (B [32])) (B u)).map (fun x : ByteArray => x.data.toList) = splitB u := (Lib.splitB_data _ _ _ _).trans (split_lib u)
  have e1 : Lib.splitB (B [32]) 0 (Lib.countB (B u) (B [32])) (B u) = (splitB u).map B := by
    rw [← e0, List.map_map]
    exact (List.map_id' _).symm.trans (List.map_congr_left fun x _ => (B_bs x).symm)
  have e2 := Lib.splitB_all (B [32]) (by decide) 0 _ (B u) rfl
  refine (Tryz.strings_Split (B u) (B [32]) m w (by rw [B_size]; exact hu) hm (by decide)).mono fun e w' ⟨h1, h2⟩ => ?_
  rw [e1] at h2 e2
  rw [← e2] at h1
  have hc := Lib.countB_le (B [32]) (by decide) _ (B u) (Nat.le_refl _)
  rw [B_size] at hc
  refine ⟨_, h1, by rw [h2]; exact below_alloc _ _, ?_⟩
  rw [h2]
  refine strs_new (by omega) fun x hx => ?_
  obtain ⟨y, hy, rfl⟩ := List.mem_map.1 hx
  rw [B_size]
  have := splitB_le hy
  omega
theorem index_c (l : List ByteArray) (v : Value) (x : ByteArray) (w : World) (h : RepL (hp w) v l) : Calls Tryz.prog 122 #[v, .string x] w fun e w' => e = .returned (.int .i64 (Lib.idxOfS l x)) ∧ Below w.heap.size w w' := by
  obtain ⟨a, cap, rfl⟩ := h.form
  cases hn : l with
  | nil => subst hn; exact (Tryz.slices_Index_string_empty a cap x w).mono fun e w' ⟨h1, h2⟩ => ⟨h1, by rw [h2]; exact below_refl w⟩
  | cons y ys =>
    rw [← hn]
    obtain ⟨b, o, rfl, hr⟩ := h.addr (by simp [hn])
    have hlen := h.1
    have hc : ∀ j, j < l.length → w.cell? ⟨b, o + j, none⟩ = some (.string (l.getD j ByteArray.empty)) := fun j hj => by
      have := (hr.str j hj).1
      rw [PH.cell_world, Nat.mul_one] at this
      rw [this]; simp [List.getD, hj]
    refine (Tryz.slices_Index_string b o l.length cap l x w (Nat.le_refl _) (by omega) hc).mono fun e w' ⟨h1, h2⟩ => ⟨by rw [h1, List.take_length], by rw [h2]; exact below_refl w⟩
theorem contains_c (l : List ByteArray) (v : Value) (x : ByteArray) (w : World) (h : RepL (hp w) v l) : Calls Tryz.prog 107 #[v, .string x] w fun e w' => e = .returned (.bool (Lib.containsS l x)) ∧ Below w.heap.size w w' := by
  obtain ⟨a, cap, rfl⟩ := h.form
  cases hn : l with
  | nil => subst hn; exact (Tryz.slices_Contains_string_empty a cap x w).mono fun e w' ⟨h1, h2⟩ => ⟨h1, by rw [h2]; exact below_refl w⟩
  | cons y ys =>
    rw [← hn]
    obtain ⟨b, o, rfl, hr⟩ := h.addr (by simp [hn])
    have hlen := h.1
    have hc : ∀ j, j < l.length → w.cell? ⟨b, o + j, none⟩ = some (.string (l.getD j ByteArray.empty)) := fun j hj => by
      have := (hr.str j hj).1
      rw [PH.cell_world, Nat.mul_one] at this
      rw [this]; simp [List.getD, hj]
    refine (Tryz.slices_Contains_string b o l.length cap l x w (Nat.le_refl _) (by omega) hc).mono fun e w' ⟨h1, h2⟩ => ⟨by rw [h1, List.take_length], by rw [h2]; exact below_refl w⟩
end Go.Proofs.YtealabaiamaojaaGreatDoor
namespace Go.JW
section
variable {P : Program} {q : Bool} {ops : Array Oper} {f : FuncId} {R : Ending → World → Prop} {k : List Item} {n : Nat} {fr : Nat → Value} {w0 : World} {M : Nat → Prop} {σ : PH} {K : List HP}
variable {rest : List Oper} {d : Nat} {ty : TypeId} {pos : String} {aft : Array Edge}
theorem callS {g : FuncId} {xs : Array Operand} {ts : Array TypeId} {args : List Value} (v : Value) (K' : List HP) [i : Fun P g]
    (h : LS P false ops f R k rest n (upd fr d v) w0 M σ K') (hc : ∀ w, Sat w0 M σ K w → Calls P g args.toArray w fun e w' => e = .returned v ∧ Sat w0 M σ K' w') (hx : xs.toList.map (ev n fr) = args := by rfl) :
    LS P false ops f R k (⟨some d, .call ⟨.value (.func g), xs, ts⟩, ty, pos, aft, none⟩ :: rest) n fr w0 M σ K :=
  LS.enterW rfl rfl (fun w _ => exec_call i.eq hx w) fun w hw => (hc w hw).mono fun _ _ ⟨he, hs⟩ => ⟨v, σ, K', he, hs, h⟩
end
end Go.JW
namespace Go.Proofs.YtealabaiamaojaaGreatDoor
open Go.JW Go.RowKit
def partI (c : Int) : Bool := decide (c = 32) || decide (c = 58) || decide (c = 44) || decide (c = 43) || decide (c = 126) || decide (c = 33) || decide (c = 62) || decide (c = 64)
def sign8 : Bs := [32, 58, 44, 43, 126, 33, 62, 64]
theorem partI_not {c : Int} (h : ∀ i : Fin 8, ((sign8.getD i.val 0).toNat : Int) ≠ c) : partI c = false := by
  have h0 : (32 : Int) ≠ c := h 0; have h1 : (58 : Int) ≠ c := h 1; have h2 : (44 : Int) ≠ c := h 2; have h3 : (43 : Int) ≠ c := h 3
  have h4 : (126 : Int) ≠ c := h 4; have h5 : (33 : Int) ≠ c := h 5; have h6 : (62 : Int) ≠ c := h 6; have h7 : (64 : Int) ≠ c := h 7
  simp [partI]; omega
theorem partI_is {c : Int} (i : Fin 8) (h : ((sign8.getD i.val 0).toNat : Int) = c) : partI c = true := by
  subst h; revert i; decide
theorem sign8_at : ∀ i : Fin 8, Utf8.decode (B sign8) i.val = ((sign8.getD i.val 0).toNat, 1) := by decide +kernel
theorem parting_c (c : Int) (w : World) : Calls Tryz.prog 127 #[.int .i32 c] w fun e w' => e = .returned (.bool (partI c)) ∧ Below w.heap.size w w' := by
  refine RS.enter Tryz.func127 Tryz.ntmps127 rfl rfl ?_
  refine zN ?_; refine asB ?_; refine LS.done ?_
  refine zN ?_; refine rngS (fun b5 => ?_); refine LS.done ?_
  refine zN ?_
  refine RS.loopF (X := Nat) 3 12 (fun k => k ≤ 8 ∧ ∀ i : Fin 8, i.val < k → ((sign8.getD i.val 0).toNat : Int) ≠ c) (fun k => [(5, .pointer (some ⟨b5, 0, none⟩))]) (fun _ => hp w) (fun k => [blk b5 (.stringIter ⟨#[32, 58, 44, 43, 126, 33, 62, 64]⟩ k)]) (fun k => 8 - k) 0 ⟨by omega, fun i h => by omega⟩ ⟨rfl, trivial⟩ rfl inferInstance ?_
  rintro k g ⟨hk, hs⟩ ih
  refine zN ?_
  by_cases hlt : k < 8
  · have hd : Utf8.decode ⟨#[32, 58, 44, 43, 126, 33, 62, 64]⟩ k = _ := sign8_at ⟨k, hlt⟩
    have hp : k < (⟨#[32, 58, 44, 43, 126, 33, 62, 64]⟩ : ByteArray).size := hlt
    refine nxtS hp ?_
    rw [hd]
    refine extr (v := .bool _) ?_; refine LS.done ?_
    refine zN ?_
    refine RS.condT ?_
    refine zN ?_; refine extr (v := .int _ _) ?_; refine asI ?_; refine LS.done ?_
    refine zN ?_; refine mvI ?_; refine mvI ?_; refine eqI ?_; refine LS.done ?_
    refine zN ?_
    refine RS.cond (fun z => ?_) (fun z => ?_)
    · have z := of_decide_eq_true z
      refine zN ?_; refine asB ?_; refine LS.done ?_; refine zN ?_; refine RS.ret1 (v := .bool _) Tryz.func127 fun w hw => ?_
      exact ⟨retB (partI_is ⟨k, hlt⟩ z).symm, hw.below⟩
    · have z := of_decide_eq_false z
      refine zN ?_
      exact ih (k + 1) ⟨hlt, fun i hi => (Nat.lt_or_ge i.val k).elim (hs i) fun h => by rw [show i = ⟨k, hlt⟩ from Fin.ext (show i.val = k by omega)]; exact z⟩ (by omega) ⟨rfl, trivial⟩ (by repeat (first | with_reducible exact Out.refl _ _ _ | exact Out.hv | refine Out.upd ?_ | refine Out.hvIn ?_)) inferInstance rfl
  · have hp : ¬ k < (⟨#[32, 58, 44, 43, 126, 33, 62, 64]⟩ : ByteArray).size := hlt
    refine nxtSEnd hp ?_
    refine extr (v := .bool _) ?_; refine LS.done ?_
    refine zN ?_
    refine RS.condF ?_
    refine zN ?_; refine asB ?_; refine LS.done ?_; refine zN ?_; refine RS.ret1 (v := .bool _) Tryz.func127 fun w hw => ?_
    exact ⟨retB (partI_not fun i => hs i (by omega)).symm, hw.below⟩
theorem dec_u8 (c : UInt8) (k : Nat) (hk : k < 256) : decide ((c.toNat : Int) = k) = decide (c = UInt8.ofNat k) := by
  rw [decide_eq_decide, ← UInt8.toNat_inj, UInt8.toNat_ofNat']; omega
theorem partI_np (c : UInt8) : partI c.toNat = !np c := by
  have e : ∀ k : Nat, k < 256 → decide ((c.toNat : Int) = k) = decide (c = UInt8.ofNat k) := dec_u8 c
  unfold partI np
  rw [Bool.not_not]
  exact congr (congrArg or (congr (congrArg or (congr (congrArg or (congr (congrArg or (congr (congrArg or (congr (congrArg or (congr (congrArg or (e 32 (by omega))) (e 58 (by omega)))) (e 44 (by omega)))) (e 43 (by omega)))) (e 126 (by omega)))) (e 33 (by omega)))) (e 62 (by omega)))) (e 64 (by omega))
theorem np_high {c : UInt8} (h : 128 ≤ c.toNat) : np c = true := by
  have e := partI_np c
  have : partI (c.toNat : Int) = false := by simp [partI]; omega
  rw [this] at e
  cases hn : np c with
  | true => rfl
  | false => rw [hn] at e; cases e
theorem high_part {r : Nat} (h : 128 ≤ r) : partI (r : Int) = false := by simp [partI]; omega
theorem get_B (s : Bs) (i : Nat) (h : i < s.length) : (B s)[i]'(by rw [B_size]; exact h) = s[i] := by simp [B, ByteArray.getElem_eq_getElem_data]
theorem getB (s : Bs) (i : Nat) (h : i < s.length) : (B s).get! i = s[i] := by
  have := get_bs (B s) i (by rw [B_size]; exact h)
  simp only [bs_B] at this
  exact this.symm
theorem rune_np (s : Bs) (p : Nat) (h : p < s.length) : (np s[p] = false → partI (Utf8.decode (B s) p).1 = true) ∧ (np s[p] = true → partI (Utf8.decode (B s) p).1 = false) ∧ 1 ≤ (Utf8.decode (B s) p).2 ∧
    (np s[p] = true → ∀ k, p ≤ k → k < p + (Utf8.decode (B s) p).2 → ∃ h : k < s.length, np s[k] = true) := by
  have hB : p < (B s).size := by rw [B_size]; exact h
  have e := get_B s p h
  by_cases ha : s[p].toNat < 128
  · have hd := decode_ascii (B s) p hB (by rw [e]; exact ha)
    rw [hd, e]
    refine ⟨fun hn => by rw [partI_np, hn]; rfl, fun hn => by rw [partI_np, hn]; rfl, Nat.le_refl _, fun hn k h1 h2 => ?_⟩
    have h2 : k < p + 1 := h2
    obtain rfl : k = p := by omega
    exact ⟨h, hn⟩
  · have hd := decode_high (B s) p hB (by rw [e]; omega)
    have hn := np_high (c := s[p]) (by omega)
    refine ⟨fun h0 => absurd (hn.symm.trans h0) (by decide), fun _ => high_part hd.1, hd.2, fun _ k h1 h2 => ?_⟩
    rcases Nat.eq_or_lt_of_le h1 with h1 | h1
    · subst h1; exact ⟨h, hn⟩
    · obtain ⟨h3, h4⟩ := decode_bytes (B s) p k hB h1 h2
      rw [B_size] at h3
      exact ⟨h3, np_high (by rw [getB s k h3] at h4; exact h4)⟩
abbrev rdB (b : Nat) (s : Bs) (no : Bool) : HP := blk b (.cells (List.toArray [.string (B s), .bool no]) 149 (0, 0))
theorem B_nil_iff (u : Bs) : decide (B u = ⟨#[]⟩) = u.isEmpty := by
  rw [Bool.eq_iff_iff, decide_eq_true_eq, List.isEmpty_iff, show (⟨#[]⟩ : ByteArray) = B [] from rfl, B_inj]
section
variable {w0 : World} {M : Nat → Prop} {σ : PH} {K : List HP} {b : Nat}
theorem name_s (s : Bs) (no : Bool) (w : World) (hw : Sat w0 M σ (rdB b s no :: K) w) :
    Calls Tryz.prog 100 #[.pointer (some ⟨b, 0, none⟩)] w fun e w' => e = .returned (.string (B (nameR ⟨s, no⟩).1)) ∧ Sat w0 M σ (rdB b (nameR ⟨s, no⟩).2.s (nameR ⟨s, no⟩).2.no :: K) w' := by
  refine RS.enterK Tryz.func100 Tryz.ntmps100 rfl rfl hw ?_
  refine zN ?_; refine asS ?_; refine LS.done ?_
  refine zN ?_; refine mvP ?_; refine nilck ?_; refine fld ?_; refine ld1 (v := .string _) ?_; refine lenS ?_; refine asI ?_; refine LS.done ?_
  refine zN ?_; refine mvP ?_; refine nilck ?_; refine fld ?_; refine ld1 (v := .string _) ?_; refine rngS (fun b16 => ?_); refine LS.done ?_
  repeat refine RS.seq ?_
  refine RS.cut (X := Nat) 3 24 (fun p => p ≤ s.length ∧ (∀ c ∈ s.take p, np c = true) ∧ stops np (s.drop p)) (fun p => [(3, .int .i64 p)]) (fun _ => σ) (fun _ => rdB b s no :: K) ?_ (fun J => ?_)
  · rintro p g ⟨h1, h2, h3⟩
    obtain ⟨e1, e2⟩ := take_stop h2 h3
    rw [List.take_append_drop] at e1 e2
    refine zN ?_; refine mvP ?_; refine nilck ?_; refine fld ?_; refine ld1 (v := .string _) ?_; refine mvI ?_; refine slcUpto (u := s) p ?_; refine asS ?_; refine LS.done ?_
    refine zN ?_; refine mvP ?_; refine mvP ?_; refine nilck ?_; refine fld ?_; refine ld1 (v := .string _) ?_; refine mvI ?_; refine slcFrom (u := s) p ?_; refine nilck ?_; refine fld ?_; refine st (.string _) _ ?_; refine LS.done ?_
    have hn : (nameR ⟨s, no⟩) = (s.take p, ⟨s.drop p, no || (s.take p).isEmpty⟩) := by unfold nameR; simp only [e1, e2]
    rw [hn]
    have hi : (ByteArray.mk #[]) = B [] := rfl
    cases no with
    | true =>
      refine zN ?_; refine mvP ?_; refine mvP ?_; refine nilck ?_; refine fld ?_; refine ld1 (v := .bool _) ?_; refine mvB ?_; refine LS.off ?_; refine LS.off ?_; refine pk (v := .bool _) ?_; refine nilck ?_; refine fld ?_; refine st (.bool _) _ ?_; refine LS.done ?_
      refine zN ?_; refine mvS ?_; refine asS ?_; refine LS.done ?_; refine zN ?_; refine RS.ret1 (v := .string _) Tryz.func100 fun w hw => ?_
      exact ⟨rfl, hw⟩
    | false =>
      refine zN ?_; refine mvP ?_; refine mvP ?_; refine nilck ?_; refine fld ?_; refine ld1 (v := .bool _) ?_; refine mvB ?_; refine LS.on ?_; refine mvS ?_; refine LS.on ?_; refine eqS ?_; refine pk (v := .bool _) ?_; refine nilck ?_; refine fld ?_; refine st (.bool _) _ ?_; refine LS.done ?_
      refine zN ?_; refine mvS ?_; refine asS ?_; refine LS.done ?_; refine zN ?_; refine RS.ret1 (v := .string _) Tryz.func100 fun w hw => ?_
      exact ⟨rfl, by rw [B_nil_iff] at hw; exact hw⟩
  · refine zN ?_
    refine RS.loopF (X := Nat) 3 24 (fun p => p ≤ s.length ∧ ∀ c ∈ s.take p, np c = true) (fun p => [(3, .int .i64 s.length), (16, .pointer (some ⟨b16, 0, none⟩))]) (fun _ => σ) (fun p => blk b16 (.stringIter (B s) p) :: rdB b s no :: K) (fun p => s.length - p) 0 ⟨by omega, fun c h => by simp at h⟩ ⟨intV (by rw [B_size]), rfl, trivial⟩ rfl ⟨fun h => h⟩ ?_
    rintro p g ⟨h1, h2⟩ ih
    refine zN ?_
    by_cases hlt : p < s.length
    · have hp : p < (B s).size := by rw [B_size]; exact hlt
      obtain ⟨r1, r2, r3, r4⟩ := rune_np s p hlt
      refine nxtS hp ?_
      refine extr (v := .bool _) ?_; refine LS.done ?_
      refine zN ?_
      refine RS.condT ?_
      refine zN ?_; refine extr (v := .int _ _) ?_; refine extr (v := .int _ _) ?_; refine asI ?_; refine asI ?_; refine LS.done ?_
      refine zN ?_; refine mvI ?_
      refine callP ?_ (hc := fun w _ => parting_c _ w)
      refine LS.done ?_
      cases hn : np s[p] with
      | false =>
        rw [r1 hn]
        refine zN ?_
        refine RS.condT ?_
        refine zN ?_; refine mvI ?_; refine asI ?_; refine LS.done ?_
        refine RS.exit ?_
        exact J p ⟨h1, h2, fun c hc => by rw [List.drop_eq_getElem_cons hlt] at hc; cases hc; exact hn⟩ ⟨rfl, trivial⟩ (by repeat (first | with_reducible exact Out.refl _ _ _ | exact Out.hv | refine Out.upd ?_ | refine Out.hvIn ?_)) ⟨fun h => h.tail⟩ rfl
      | true =>
        rw [r2 hn]
        refine zN ?_
        refine RS.condF ?_
        refine zN ?_
        have r5 := r4 hn
        have hl : p + (Utf8.decode (B s) p).2 ≤ s.length := by obtain ⟨h, _⟩ := r5 (p + (Utf8.decode (B s) p).2 - 1) (by omega) (by omega); omega
        exact ih (p + (Utf8.decode (B s) p).2) ⟨hl, fun c hc => by
          obtain ⟨i, hi, rfl⟩ := List.mem_iff_getElem.1 hc
          rw [List.length_take] at hi
          rw [List.getElem_take]
          rcases Nat.lt_or_ge i p with h | h
          · exact h2 _ (List.mem_iff_getElem.2 ⟨i, by rw [List.length_take]; omega, by rw [List.getElem_take]⟩)
          · exact (r5 i h (by omega)).2⟩ (by omega) ⟨rfl, rfl, trivial⟩ (by repeat (first | with_reducible exact Out.refl _ _ _ | exact Out.hv | refine Out.upd ?_ | refine Out.hvIn ?_)) ⟨fun h => h⟩ rfl
    · have hp : ¬ p < (B s).size := by rw [B_size]; exact hlt
      refine nxtSEnd hp ?_
      refine extr (v := .bool _) ?_; refine LS.done ?_
      refine zN ?_
      refine RS.condF ?_
      refine RS.exit ?_
      exact J s.length ⟨Nat.le_refl _, by rw [List.take_length]; rw [List.take_of_length_le (by omega)] at h2; exact h2, by rw [List.drop_length]; exact stops_nil _⟩ ⟨rfl, trivial⟩ (by repeat (first | with_reducible exact Out.refl _ _ _ | exact Out.hv | refine Out.upd ?_ | refine Out.hvIn ?_)) ⟨fun h => h.tail⟩ rfl
theorem sign_s (c : UInt8) (s : Bs) (no : Bool) (w : World) (hw : Sat w0 M σ (rdB b s no :: K) w) :
    Calls Tryz.prog 126 #[.pointer (some ⟨b, 0, none⟩), .string (B [c])] w fun e w' => e = .returned (.bool (signR c ⟨s, no⟩).1) ∧ Sat w0 M σ (rdB b (signR c ⟨s, no⟩).2.s (signR c ⟨s, no⟩).2.no :: K) w' := by
  have hno : (signR c ⟨s, no⟩).2.no = no := signR_back.1
  rw [hno]
  refine RS.enterK Tryz.func126 Tryz.ntmps126 rfl rfl hw ?_
  refine zN ?_; refine asB ?_; refine LS.done ?_
  refine zN ?_; refine mvP ?_; refine nilck ?_; refine fld ?_; refine ld1 (v := .string _) ?_; refine mvS ?_
  refine callP ?_ (hc := fun w _ => cut_c s c no w)
  refine mvT ?_; refine extr (v := .string _) ?_; refine extr (v := .bool _) ?_; refine asS ?_; refine asB ?_; refine LS.done ?_
  refine zN ?_; refine mvP ?_; refine mvS ?_; refine nilck ?_; refine fld ?_; refine st (.string _) _ ?_; refine LS.done ?_
  refine zN ?_; refine mvB ?_; refine asB ?_; refine LS.done ?_; refine zN ?_; refine RS.ret1 (v := .bool _) Tryz.func126 fun w hw => ?_
  exact ⟨rfl, hw⟩
theorem must_s (c : UInt8) (s : Bs) (no : Bool) (w : World) (hw : Sat w0 M σ (rdB b s no :: K) w) :
    Calls Tryz.prog 123 #[.pointer (some ⟨b, 0, none⟩), .string (B [c])] w fun e w' => e = .returned (.tuple #[]) ∧ Sat w0 M σ (rdB b (mustR c ⟨s, no⟩).s (mustR c ⟨s, no⟩).no :: K) w' := by
  have hno : (signR c ⟨s, no⟩).2.no = no := signR_back.1
  refine RS.enterK Tryz.func123 Tryz.ntmps123 rfl rfl hw ?_
  refine zN ?_; refine mvP ?_; refine mvP ?_; refine mvS ?_
  refine callS _ (rdB b (signR c ⟨s, no⟩).2.s (signR c ⟨s, no⟩).2.no :: K) ?_ (hc := fun w' hw => sign_s c s no w' hw)
  rw [hno]
  unfold mustR
  simp only
  cases hs : (signR c ⟨s, no⟩).1 with
  | true =>
    refine not_ ?_; refine mvB ?_; refine LS.on ?_; refine mvP ?_; refine LS.on ?_; refine nilck ?_; refine LS.on ?_; refine fld ?_; refine LS.on ?_; refine ld1 (v := .bool _) ?_; refine pk (v := .bool _) ?_; refine nilck ?_; refine fld ?_; refine st (.bool _) _ ?_; refine LS.done ?_
    refine zN ?_; refine RS.fin0 Tryz.func123 (fun w hw => ?_) rfl
    exact ⟨rfl, hw⟩
  | false =>
    refine not_ ?_; refine mvB ?_; refine LS.off ?_; refine LS.off ?_; refine LS.off ?_; refine LS.off ?_; refine pk (v := .bool _) ?_; refine nilck ?_; refine fld ?_; refine st (.bool _) _ ?_; refine LS.done ?_
    refine zN ?_; refine RS.fin0 Tryz.func123 (fun w hw => ?_) rfl
    exact ⟨rfl, hw⟩
theorem end_s (s : Bs) (no : Bool) (w : World) (hw : Sat w0 M σ (rdB b s no :: K) w) :
    Calls Tryz.prog 102 #[.pointer (some ⟨b, 0, none⟩)] w fun e w' => e = .returned (.bool (endR ⟨s, no⟩)) ∧ Sat w0 M σ (rdB b s no :: K) w' := by
  refine RS.enterK Tryz.func102 Tryz.ntmps102 rfl rfl hw ?_
  refine zN ?_; refine asB ?_; refine LS.done ?_
  cases no with
  | true =>
    refine zN ?_; refine mvP ?_; refine nilck ?_; refine fld ?_; refine ld1 (v := .bool _) ?_; refine not_ ?_; refine mvB ?_; refine LS.off ?_; refine LS.off ?_; refine LS.off ?_; refine LS.off ?_; refine LS.off ?_; refine pk (v := .bool _) ?_; refine asB ?_; refine LS.done ?_
    refine zN ?_; refine RS.ret1 (v := .bool _) Tryz.func102 fun w hw => ?_
    exact ⟨rfl, hw⟩
  | false =>
    refine zN ?_; refine mvP ?_; refine nilck ?_; refine fld ?_; refine ld1 (v := .bool _) ?_; refine not_ ?_; refine mvB ?_; refine LS.on ?_; refine mvP ?_; refine LS.on ?_; refine nilck ?_; refine LS.on ?_; refine fld ?_; refine LS.on ?_; refine ld1 (v := .string _) ?_; refine LS.on ?_; refine eqS ?_; refine pk (v := .bool _) ?_; refine asB ?_; refine LS.done ?_
    refine zN ?_; refine RS.ret1 (v := .bool _) Tryz.func102 fun w hw => ?_
    exact ⟨retB (B_nil_iff s), hw⟩
theorem rune_d (s : Bs) (p : Nat) (h : p < s.length) : (isD s[p] = true → Utf8.decode (B s) p = (s[p].toNat, 1)) ∧ (isD s[p] = false → ¬ (48 ≤ ((Utf8.decode (B s) p).1 : Int) ∧ ((Utf8.decode (B s) p).1 : Int) ≤ 57)) := by
  have hB : p < (B s).size := by rw [B_size]; exact h
  have e := get_B s p h
  by_cases ha : s[p].toNat < 128
  · have hd := decode_ascii (B s) p hB (by rw [e]; exact ha)
    rw [hd, e]
    refine ⟨fun _ => rfl, fun hn hh => ?_⟩
    simp [isD] at hn
    omega
  · have hd := decode_high (B s) p hB (by rw [e]; omega)
    exact ⟨fun hn => by have := isD_val hn; omega, fun _ hh => by omega⟩
theorem take_pre {q : UInt8 → Bool} {s : Bs} {k : Nat} (h : ∀ c ∈ s.take k, q c = true) : s.takeWhile q = s.take k ++ (s.drop k).takeWhile q := by
  conv => lhs; rw [← List.take_append_drop k s]
  exact List.takeWhile_append_of_pos h
theorem wrap32 {x : Int} (h0 : 0 ≤ x) (h1 : x ≤ 1000) : IntKind.wrap .i32 x = x := IntWalk.i32_in _ ⟨by omega, by omega⟩
theorem take_snoc (s : Bs) (p : Nat) (h : p < s.length) : s.take (p + 1) = s.take p ++ [s[p]] := by rw [List.take_add_one, List.getElem?_eq_getElem h]; rfl
theorem number_s (s : Bs) (no : Bool) (w : World) (hw : Sat w0 M σ (rdB b s no :: K) w) :
    Calls Tryz.prog 101 #[.pointer (some ⟨b, 0, none⟩)] w fun e w' => e = .returned (.int .i64 (numR ⟨s, no⟩).1) ∧ Sat w0 M σ (rdB b (numR ⟨s, no⟩).2.s (numR ⟨s, no⟩).2.no :: K) w' := by
  refine RS.enterK Tryz.func101 Tryz.ntmps101 rfl rfl hw ?_
  refine zN ?_; refine asI ?_; refine LS.done ?_
  refine zN ?_; refine asI ?_; refine asI ?_; refine LS.done ?_
  refine zN ?_; refine mvP ?_; refine nilck ?_; refine fld ?_; refine ld1 (v := .string _) ?_; refine rngS (fun b11 => ?_); refine LS.done ?_
  repeat refine RS.seq ?_
  refine RS.cut (X := Nat) 3 46 (fun p => p ≤ s.length ∧ (∀ c ∈ s.take p, isD c = true) ∧ stops isD (s.drop p) ∧ p ≤ 15 ∧ (1 < p → s.head? ≠ some 48)) (fun p => [(3, .int .i64 (valD (s.take p))), (4, .int .i64 p)]) (fun _ => σ) (fun _ => rdB b s no :: K) ?_ (fun J => ?_)
  · rintro p g ⟨h1, h2, h3, h4, h5⟩
    obtain ⟨e1, e2⟩ := take_stop h2 h3
    rw [List.take_append_drop] at e1 e2
    have hl : (s.take p).length = p := by rw [List.length_take]; omega
    have hb : numBad (s.take p) = false := by
      unfold numBad
      rw [hl]
      simp only [Bool.or_eq_false_iff, Bool.and_eq_false_iff, decide_eq_false_iff_not]
      refine ⟨by omega, ?_⟩
      by_cases h : 1 < p
      · refine .inr ?_
        rw [List.head?_take, if_neg (by omega)]
        exact h5 h
      · exact .inl h
    have hn : numR ⟨s, no⟩ = ((valD (s.take p) : Int), ⟨s.drop p, no || (s.take p).isEmpty⟩) := by
      unfold numR; simp only [e1, e2]; rw [if_neg (by rw [hb]; simp)]
    have hi : (s.take p).isEmpty = decide ((p : Int) = 0) := by
      rw [Bool.eq_iff_iff, List.isEmpty_iff, decide_eq_true_eq, ← List.length_eq_zero_iff, hl]; omega
    rw [hn, hi]
    cases no with
    | true =>
      refine zN ?_; refine mvP ?_; refine mvP ?_; refine nilck ?_; refine fld ?_; refine ld1 (v := .bool _) ?_; refine mvB ?_; refine LS.off ?_; refine LS.off ?_; refine pk (v := .bool _) ?_; refine nilck ?_; refine fld ?_; refine st (.bool _) _ ?_; refine LS.done ?_
      refine zN ?_; refine mvP ?_; refine mvP ?_; refine nilck ?_; refine fld ?_; refine ld1 (v := .string _) ?_; refine mvI ?_; refine slcFrom (u := s) p ?_; refine nilck ?_; refine fld ?_; refine st (.string _) _ ?_; refine LS.done ?_
      refine zN ?_; refine mvI ?_; refine asI ?_; refine LS.done ?_; refine zN ?_; refine RS.ret1 (v := .int _ _) Tryz.func101 fun w hw => ?_
      exact ⟨rfl, hw⟩
    | false =>
      refine zN ?_; refine mvP ?_; refine mvP ?_; refine nilck ?_; refine fld ?_; refine ld1 (v := .bool _) ?_; refine mvB ?_; refine LS.on ?_; refine mvI ?_; refine LS.on ?_; refine eqI ?_; refine pk (v := .bool _) ?_; refine nilck ?_; refine fld ?_; refine st (.bool _) _ ?_; refine LS.done ?_
      refine zN ?_; refine mvP ?_; refine mvP ?_; refine nilck ?_; refine fld ?_; refine ld1 (v := .string _) ?_; refine mvI ?_; refine slcFrom (u := s) p ?_; refine nilck ?_; refine fld ?_; refine st (.string _) _ ?_; refine LS.done ?_
      refine zN ?_; refine mvI ?_; refine asI ?_; refine LS.done ?_; refine zN ?_; refine RS.ret1 (v := .int _ _) Tryz.func101 fun w hw => ?_
      exact ⟨rfl, hw⟩
  · refine zN ?_
    refine RS.loopF (X := Nat) 3 46 (fun p => p ≤ s.length ∧ (∀ c ∈ s.take p, isD c = true) ∧ p ≤ 15 ∧ (1 < p → s.head? ≠ some 48)) (fun p => [(3, .int .i64 (valD (s.take p))), (4, .int .i64 p), (11, .pointer (some ⟨b11, 0, none⟩))]) (fun _ => σ) (fun p => blk b11 (.stringIter (B s) p) :: rdB b s no :: K) (fun p => s.length - p) 0 ⟨by omega, fun c h => by simp at h, by omega, by omega⟩ ⟨rfl, rfl, rfl, trivial⟩ rfl ⟨fun h => h⟩ ?_
    rintro p g ⟨h1, h2, h3, h4⟩ ih
    have hv := valD_lt _ h2
    have hp15 : 10 ^ (s.take p).length ≤ 10 ^ 15 := Nat.pow_le_pow_right (by omega) (by rw [List.length_take]; omega)
    refine zN ?_
    by_cases hlt : p < s.length
    · have hp : p < (B s).size := by rw [B_size]; exact hlt
      obtain ⟨r1, r2⟩ := rune_d s p hlt
      refine nxtS hp ?_
      refine extr (v := .bool _) ?_; refine LS.done ?_
      refine zN ?_
      refine RS.condT ?_
      refine zN ?_; refine extr (v := .int _ _) ?_; refine asI ?_; refine LS.done ?_
      have hstop : isD s[p] = false → stops isD (s.drop p) := fun hn c hc => by rw [List.drop_eq_getElem_cons hlt] at hc; cases hc; exact hn
      refine zN ?_; refine mvI ?_; refine ltI ?_; refine mvB ?_
      refine LS.part 17 (fun z => ?_) (fun z => ?_)
      · refine LS.off ?_; refine LS.off ?_; refine pk (v := .bool _) ?_; refine LS.done ?_
        have z := of_decide_eq_true z
        refine zN ?_
        refine RS.condT ?_
        refine RS.exit ?_
        have hn : isD s[p] = false := by
          cases hd : isD s[p] with
          | false => rfl
          | true => rw [r1 hd] at z; have := isD_val hd; simp only at z; omega
        exact J p ⟨h1, h2, hstop hn, h3, h4⟩ ⟨rfl, rfl, trivial⟩ (by repeat (first | with_reducible exact Out.refl _ _ _ | exact Out.hv | refine Out.upd ?_ | refine Out.hvIn ?_)) ⟨fun h => h.tail⟩ rfl
      · refine LS.on ?_; refine mvI ?_; refine LS.on ?_; refine gtI ?_; refine pk (v := .bool _) ?_; refine LS.done ?_
        have z := of_decide_eq_false z
        refine zN ?_
        refine RS.cond (fun z1 => ?_) (fun z1 => ?_)
        · have z1 := of_decide_eq_true z1
          refine RS.exit ?_
          have hn : isD s[p] = false := by
            cases hd : isD s[p] with
            | false => rfl
            | true => rw [r1 hd] at z1; have := isD_val hd; simp only at z1; omega
          exact J p ⟨h1, h2, hstop hn, h3, h4⟩ ⟨rfl, rfl, trivial⟩ (by repeat (first | with_reducible exact Out.refl _ _ _ | exact Out.hv | refine Out.upd ?_ | refine Out.hvIn ?_)) ⟨fun h => h.tail⟩ rfl
        · have z1 := of_decide_eq_false z1
          have hd : isD s[p] = true := by
            cases hd : isD s[p] with
            | true => rfl
            | false => exact absurd ⟨by omega, by omega⟩ (r2 hd)
          obtain ⟨d, hdd⟩ : ∃ d : Nat, d = s[p].toNat := ⟨_, rfl⟩
          have hr1 : (Utf8.decode (B s) p).1 = d := (congrArg Prod.fst (r1 hd)).trans hdd.symm
          have hr2 : (Utf8.decode (B s) p).2 = 1 := congrArg Prod.snd (r1 hd)
          have hdv := isD_val hd
          have hts := take_snoc s p hlt
          have hall : ∀ c ∈ s.take (p + 1), isD c = true := fun c hc => by
            rw [hts] at hc
            rcases List.mem_append.1 hc with hc | hc
            · exact h2 c hc
            · rw [List.mem_singleton.1 hc]; exact hd
          have htl : (s.take (p + 1)).length = p + 1 := by rw [List.length_take]; omega
          have hvs : (valD (s.take (p + 1)) : Int) = valD (s.take p) * 10 + ((d : Int) - 48) := by rw [hts, valD_snoc]; omega
          obtain ⟨c0, hc0⟩ : ∃ c0, s[0]? = some c0 := ⟨_, List.getElem?_eq_getElem (by omega)⟩
          have hbad : (15 < p + 1 ∨ (1 < p + 1 ∧ c0 = 48)) → numR ⟨s, no⟩ = (0, ⟨s, true⟩) := fun hh => by
            have e := take_pre hall
            have hb : numBad (s.takeWhile isD) = true := by
              rw [e]
              unfold numBad
              rw [Bool.or_eq_true, Bool.and_eq_true, decide_eq_true_eq, decide_eq_true_eq, decide_eq_true_eq, List.length_append, htl]
              rcases hh with hh | ⟨hh, h0⟩
              · exact .inl (by omega)
              · refine .inr ⟨by omega, ?_⟩
                rw [head_app (by intro e0; rw [e0] at htl; simp at htl), List.head?_take, if_neg (by omega), List.head?_eq_getElem?, hc0, h0]
            unfold numR
            simp only [hb, if_true]
          rw [hr1, hr2]
          refine zN ?_; refine mvI ?_; (first | refine addN ?_ | refine addI ?_); refine asI ?_; refine LS.done ?_
          refine zN ?_; refine mvI ?_; refine mulI ?_; refine mvI ?_; refine subI ?_; rw [wrap32 (x := (d : Int) - 48) (by omega) (by omega)]; refine cvN ?_; (first | refine addN ?_ | refine addI ?_); refine asI ?_; refine LS.done ?_
          rw [wrapEq (x := (valD (s.take p) : Int) * 10) (by omega) (by omega), wrapEq (x := (valD (s.take p) : Int) * 10 + ((d : Int) - 48)) (by omega) (by omega), ← hvs]
          refine zN ?_; refine mvI ?_; refine gtI ?_; refine mvB ?_
          refine LS.part 31 (fun y => ?_) (fun y => ?_)
          · have y := of_decide_eq_true y
            refine LS.off ?_; refine LS.off ?_; refine LS.off ?_; refine LS.offU ?_; refine LS.offU ?_; refine LS.offU ?_; refine LS.offU ?_; refine LS.offU ?_; refine LS.offU ?_; refine LS.off ?_; refine pk (v := .bool _) ?_; refine LS.done ?_
            refine zN ?_
            refine RS.condT ?_
            refine zN ?_; refine mvP ?_; refine nilck ?_; refine fld ?_; refine st (.bool _) _ ?_; refine LS.done ?_
            refine zN ?_; refine asI ?_; refine LS.done ?_; refine zN ?_; refine RS.ret1 (v := .int _ _) Tryz.func101 fun w hw => ?_
            rw [hbad (.inl (by omega))]
            exact ⟨rfl, hw.weak fun F h => h.tail⟩
          · have y := of_decide_eq_false y
            refine LS.on ?_; refine mvI ?_; refine LS.on ?_; refine gtI ?_; refine LS.on ?_; refine mvB ?_
            refine LS.part 34 (fun y1 => ?_) (fun y1 => ?_)
            · have y1 := of_decide_eq_true y1
              refine LS.on ?_; refine mvP ?_; refine LS.on ?_; refine nilck ?_; refine LS.on ?_; refine fld ?_; refine LS.on ?_; refine ld1 (v := .string _) ?_; refine LS.on ?_; refine byteT (u := s) 0 c0 ?_ hc0; refine LS.on ?_; refine eqI ?_; refine LS.on ?_; refine pk (v := .bool _) ?_; refine pk (v := .bool _) ?_; refine LS.done ?_
              refine zN ?_
              refine RS.cond (fun y2 => ?_) (fun y2 => ?_)
              · have y2 := of_decide_eq_true y2
                refine zN ?_; refine mvP ?_; refine nilck ?_; refine fld ?_; refine st (.bool _) _ ?_; refine LS.done ?_
                refine zN ?_; refine asI ?_; refine LS.done ?_; refine zN ?_; refine RS.ret1 (v := .int _ _) Tryz.func101 fun w hw => ?_
                rw [hbad (.inr ⟨by omega, UInt8.toNat_inj.1 (Int.ofNat_inj.1 y2)⟩)]
                exact ⟨rfl, hw.weak fun F h => h.tail⟩
              · have y2 := of_decide_eq_false y2
                refine zN ?_
                exact ih (p + 1) ⟨hlt, hall, by omega, fun _ e => y2 (by rw [List.head?_eq_getElem?, hc0] at e; injection e with e; rw [e]; rfl)⟩ (by omega) ⟨rfl, rfl, rfl, trivial⟩ (by repeat (first | with_reducible exact Out.refl _ _ _ | exact Out.hv | refine Out.upd ?_ | refine Out.hvIn ?_)) ⟨fun h => h⟩ rfl
            · have y1 := of_decide_eq_false y1
              refine LS.off ?_; refine LS.off ?_; refine LS.off ?_; refine LS.off ?_; refine LS.off ?_; refine LS.off ?_; refine LS.on ?_; refine pk (v := .bool _) ?_; refine pk (v := .bool _) ?_; refine LS.done ?_
              refine zN ?_
              refine RS.condF ?_
              refine zN ?_
              exact ih (p + 1) ⟨hlt, hall, by omega, fun _ => by omega⟩ (by omega) ⟨rfl, rfl, rfl, trivial⟩ (by repeat (first | with_reducible exact Out.refl _ _ _ | exact Out.hv | refine Out.upd ?_ | refine Out.hvIn ?_)) ⟨fun h => h⟩ rfl
    · have hp : ¬ p < (B s).size := by rw [B_size]; exact hlt
      refine nxtSEnd hp ?_
      refine extr (v := .bool _) ?_; refine LS.done ?_
      refine zN ?_
      refine RS.condF ?_
      refine RS.exit ?_
      exact J p ⟨h1, h2, by rw [List.drop_eq_nil_of_le (by omega)]; exact stops_nil _, h3, h4⟩ ⟨rfl, rfl, trivial⟩ (by repeat (first | with_reducible exact Out.refl _ _ _ | exact Out.hv | refine Out.upd ?_ | refine Out.hvIn ?_)) ⟨fun h => h.tail⟩ rfl
end
end Go.Proofs.YtealabaiamaojaaGreatDoor
namespace Go.Proofs.YtealabaiamaojaaGreatDoor
open Go.JW Go.RowKit

theorem tmod_ge {a n : Int} (hn : 0 < n) (h : 0 ≤ a.tmod n) : a.tmod n = a % n := by
  have h1 := Int.mul_tdiv_add_tmod a n
  have h2 := Int.tmod_lt_of_pos a hn
  have h3 : a % n = (a.tmod n + n * a.tdiv n) % n := by congr 1; omega
  rw [h3, Int.add_mul_emod_self_left, Int.emod_eq_of_lt h h2]
theorem tmod_lt {a n : Int} (hn : 0 < n) (h : a.tmod n < 0) : a.tmod n + n = a % n := by
  have h1 := Int.mul_tdiv_add_tmod a n
  have h2 : -n < a.tmod n := by
    have := Int.tmod_lt_of_pos (-a) hn
    rw [Int.neg_tmod] at this; omega
  have h3 : a % n = (a.tmod n + n * a.tdiv n) % n := by congr 1; omega
  rw [h3, Int.add_mul_emod_self_left, ← Int.add_emod_right, Int.emod_eq_of_lt (by omega) (by omega)]
theorem w3_c (a n : Int) (hn : 0 < n) (hn' : n ≤ 9223372036854775807) (w : World) : Calls Tryz.prog 53 #[.int .i64 a, .int .i64 n] w fun e w' => e = .returned (.int .i64 (a % n)) ∧ Below w.heap.size w w' := by
  refine RS.enter Tryz.func53 Tryz.ntmps53 rfl rfl ?_
  refine zN ?_; refine asI ?_; refine LS.done ?_
  refine zN ?_; refine mvI ?_; refine mvI ?_; refine remI ?_; refine asI ?_; refine LS.done ?_
  refine zN ?_; refine mvI ?_; refine ltI ?_; refine LS.done ?_
  have h2 : -n < a.tmod n := by
    have := Int.tmod_lt_of_pos (-a) hn
    rw [Int.neg_tmod] at this; omega
  refine zN ?_
  refine RS.cond (fun c => ?_) (fun c => ?_)
  · simp at c
    refine zN ?_; refine mvI ?_; refine mvI ?_; (first | refine addN ?_ | refine addI ?_); refine asI ?_; refine LS.done ?_; refine zN ?_; refine mvI ?_; refine asI ?_; refine LS.done ?_; refine zN ?_; refine RS.ret1 (v := .int _ _) Tryz.func53 fun w hw => ?_
    exact ⟨retI (tmod_lt hn c), hw.below⟩
  · simp at c
    refine zN ?_; refine mvI ?_; refine asI ?_; refine LS.done ?_; refine zN ?_; refine RS.ret1 (v := .int _ _) Tryz.func53 fun w hw => ?_
    exact ⟨retI (tmod_ge hn c), hw.below⟩
theorem w4_c (a n : Int) (hn : 0 < n) (hn' : n ≤ 9223372036854775807) (w : World) : Calls Tryz.prog 29 #[.int .i64 a, .int .i64 n] w fun e w' => e = .returned (.int .i64 (a % n)) ∧ Below w.heap.size w w' := by
  refine RS.enter Tryz.func29 Tryz.ntmps29 rfl rfl ?_
  refine zN ?_; refine asI ?_; refine LS.done ?_
  refine zN ?_; refine mvI ?_; refine mvI ?_; refine remI ?_; refine asI ?_; refine LS.done ?_
  refine zN ?_; refine mvI ?_; refine ltI ?_; refine LS.done ?_
  have h2 : -n < a.tmod n := by
    have := Int.tmod_lt_of_pos (-a) hn
    rw [Int.neg_tmod] at this; omega
  refine zN ?_
  refine RS.cond (fun c => ?_) (fun c => ?_)
  · simp at c
    refine zN ?_; refine mvI ?_; refine mvI ?_; (first | refine addN ?_ | refine addI ?_); refine asI ?_; refine LS.done ?_; refine zN ?_; refine mvI ?_; refine asI ?_; refine LS.done ?_; refine zN ?_; refine RS.ret1 (v := .int _ _) Tryz.func29 fun w hw => ?_
    exact ⟨retI (tmod_lt hn c), hw.below⟩
  · simp at c
    refine zN ?_; refine mvI ?_; refine asI ?_; refine LS.done ?_; refine zN ?_; refine RS.ret1 (v := .int _ _) Tryz.func29 fun w hw => ?_
    exact ⟨retI (tmod_ge hn c), hw.below⟩
theorem w2_c (a n : Int) (hn : 0 < n) (hn' : n ≤ 9223372036854775807) (w : World) : Calls Tryz.prog 55 #[.int .i64 a, .int .i64 n] w fun e w' => e = .returned (.int .i64 (a % n)) ∧ Below w.heap.size w w' := by
  refine RS.enter Tryz.func55 Tryz.ntmps55 rfl rfl ?_
  refine zN ?_; refine asI ?_; refine LS.done ?_
  refine zN ?_; refine mvI ?_; refine mvI ?_; refine remI ?_; refine asI ?_; refine LS.done ?_
  refine zN ?_; refine mvI ?_; refine ltI ?_; refine LS.done ?_
  have h2 : -n < a.tmod n := by
    have := Int.tmod_lt_of_pos (-a) hn
    rw [Int.neg_tmod] at this; omega
  refine zN ?_
  refine RS.cond (fun c => ?_) (fun c => ?_)
  · simp at c
    refine zN ?_; refine mvI ?_; refine mvI ?_; (first | refine addN ?_ | refine addI ?_); refine asI ?_; refine LS.done ?_; refine zN ?_; refine mvI ?_; refine asI ?_; refine LS.done ?_; refine zN ?_; refine RS.ret1 (v := .int _ _) Tryz.func55 fun w hw => ?_
    exact ⟨retI (tmod_lt hn c), hw.below⟩
  · simp at c
    refine zN ?_; refine mvI ?_; refine asI ?_; refine LS.done ?_; refine zN ?_; refine RS.ret1 (v := .int _ _) Tryz.func55 fun w hw => ?_
    exact ⟨retI (tmod_ge hn c), hw.below⟩

end Go.Proofs.YtealabaiamaojaaGreatDoor
namespace Go.Proofs.YtealabaiamaojaaGreatDoor
open Go.JW Go.RowKit

theorem nth_str (l : List ByteArray) (i : Nat) (h : i < l.length) : nth (l.map Value.string) (0 + i * 1) = some (.string (l.getD i ⟨#[]⟩)) := by
  rw [nth_eq]; simp [h]
theorem wmod (a n : Int) (hn : 0 < n) : 0 ≤ a % n ∧ a % n < n := ⟨Int.emod_nonneg a (by omega), Int.emod_lt_of_pos a hn⟩
def names8 : List ByteArray := [⟨#[97]⟩, ⟨#[98]⟩, ⟨#[206, 177]⟩, ⟨#[207, 137, 57]⟩, ⟨#[110, 49]⟩, ⟨#[110, 50]⟩, ⟨#[206, 178, 206, 179, 206, 180, 206, 181, 206, 182, 206, 183, 206, 184, 206, 185]⟩, ⟨#[122, 122]⟩]
def nameOf (n : Int) : ByteArray := names8.getD (n % 8).toNat ⟨#[]⟩
theorem lname_c (n : Int) (w : World) : Calls Tryz.prog 31 #[.int .i64 n] w fun e w' => e = .returned (.string (nameOf n)) ∧ Below w.heap.size w w' := by
  obtain ⟨h3, h4⟩ := wmod n 8 (by omega)
  refine RS.enter Tryz.func31 Tryz.ntmps31 rfl rfl ?_
  refine zN ?_; refine asS ?_; refine LS.done ?_
  refine zN ?_; refine bldS [.string _, .string _, .string _, .string _, .string _, .string _, .string _, .string _] [.string _, .string _, .string _, .string _, .string _, .string _, .string _, .string _] (fun b3 => ?_); refine mvI ?_
  refine callP ?_ (hc := fun w _ => w2_c _ _ (by omega) (by omega) w)
  refine idx (i := (n % 8).toNat) ?_ (hj := by omega); refine ld1 (v := .string (nameOf n)) ?_ (hv := nth_str names8 (n % 8).toNat (by simp [names8]; omega)); refine asS ?_; refine LS.done ?_
  refine zN ?_; refine RS.ret1 (v := .string _) Tryz.func31 fun w hw => ?_
  exact ⟨rfl, hw.below⟩
end Go.Proofs.YtealabaiamaojaaGreatDoor
namespace Go.JW
def OwnV (e : TypeId) (s : Nat) (σ : PH) (v : Value) (n : Nat) : Prop :=
  n = 0 ∨ ∃ b c0 cap, v = .slice (some ⟨b, 0, none⟩) n cap ∧ n ≤ cap ∧ σ b = some (.cells (List.toArray c0) e (0, 0)) ∧ n * s ≤ c0.length
section
variable {e s n : Nat} {σ σ' τ : PH} {v : Value}
theorem OwnV.mono (h : OwnV e s σ v n) (hs : PH.le σ σ') : OwnV e s σ' v n :=
  h.imp id fun ⟨b, c0, cap, h1, h2, h3, h4⟩ => ⟨b, c0, cap, h1, h2, hs _ _ h3, h4⟩
theorem OwnV.zero {v : Value} : OwnV e s σ v 0 := .inl rfl
theorem OwnV.recap {a : Option Addr} {c c' : Nat} (h : OwnV e s σ (.slice a n c) n) (hc : n ≤ c') : OwnV e s σ (.slice a n c') n := by
  refine h.imp id fun ⟨b, c0, cap, h1, _, h3, h4⟩ => ?_
  injection h1 with h5 h6 h7
  exact ⟨b, c0, c', by rw [h5], hc, h3, h4⟩
def RepQ {α : Type} [Rep α] (e : TypeId) (σ : PH) (v : Value) (l : List α) : Prop := RepL σ v l ∧ OwnV e (Rep.sz α) σ v l.length
theorem RepQ.mono {α : Type} [Rep α] {l : List α} (h : RepQ e σ v l) (hs : PH.le σ σ') : RepQ e σ' v l := ⟨h.1.mono hs, h.2.mono hs⟩
theorem RepQ.nil {α : Type} [Rep α] (σ : PH) (a : Option Addr) (cap : Nat) : RepQ e σ (.slice a 0 cap) ([] : List α) := ⟨RepL.nil σ a cap, .inl rfl⟩
theorem RepQ.form {α : Type} [Rep α] {l : List α} (h : RepQ e σ v l) : ∃ a cap, v = .slice a l.length cap := h.1.form
end
section
variable {w0 w : World} {M : Nat → Prop} {σ τ : PH} {K K' : List HP} {v : Value} {α : Type} {ri : Rep α} {N e : Nat} {l : List α} {put : HP → List HP}
theorem Sat.ownR {s m : Nat} {cs : List Value} (hw : Sat w0 M σ K w) (hf : FindR v K e s m cs put K') : m = 0 ∨ ∃ b c0 cap, v = .slice (some ⟨b, 0, none⟩) m cap ∧ m ≤ cap ∧ hp w b = some (.cells (List.toArray c0) e (0, 0)) ∧ m * s ≤ c0.length ∧ σ b = none := by
  obtain ⟨F1, ⟨h1, h1c, a, cap, rfl, h2, h3, h4⟩, h5, h6⟩ := hf.get hw.sep
  rcases h4 with ⟨h8, _⟩ | ⟨b, c0, rfl, g1, g2, g3, g4⟩
  · exact .inl h8
  · exact .inr ⟨b, c0, cap, rfl, h2, g2, Nat.le_trans (Nat.mul_le_mul_right s h2) g3, (h5 b g1).2⟩
theorem Sat.ownNew {s m : Nat} {cs : List Value} (hw : Sat w0 (fun _ => False) σ K w) (hf : FindR v K e s m cs put K' := by infer_instance) : OwnV e s (since w0 w) v m := by
  refine (hw.ownR hf).imp id fun ⟨b, c0, cap, h1, h2, h3, h4, h5⟩ => ⟨b, c0, cap, h1, h2, ?_, h4⟩
  have hb : w0.heap.size ≤ b := by
    refine Nat.le_of_not_lt fun hlt => ?_
    have := hw.keep b hlt (fun h => h)
    rw [h5] at this
    have h6 : w0.heap[b]? = some w0.heap[b] := Array.getElem?_eq_getElem hlt
    rw [h6] at this; cases this
  simp only [since]; rw [if_pos hb]; exact h3
theorem Sat.ownNewD (hw : Sat w0 (fun _ => False) σ K w) (hf : FindD v K α ri N e l put K' := by infer_instance) : OwnV e (Rep.sz α) (since w0 w) v l.length := by
  obtain ⟨cs, hc, h⟩ := hw.openD hf
  exact h.ownNew (hf := FindR.head)
theorem Sat.freezeQ (hw : Sat w0 M σ K w) (hl : l.length ≤ 140737488355328) (hf : FindD v K α ri N e l put K') : ∃ σ', PH.le σ σ' ∧ RepQ e σ' v l ∧ Sat w0 M σ' K' w := by
  obtain ⟨cs, hc, hw'⟩ := hw.openD hf
  have h0 := hw'.ownR (FindR.head)
  obtain ⟨a, cap, σ', rfl, h2, h3, h4, h5, h6, h7⟩ := hw'.freezeRow (hf := FindR.head)
  refine ⟨σ', h3, ⟨⟨hl, a, cap, rfl, h2, fun hn => ?_⟩, ?_⟩, h4⟩
  · rcases h7 with ⟨h8, _⟩ | ⟨b, rfl, g1, _, g2, g3⟩
    · exact absurd (List.eq_nil_of_length_eq_zero h8) hn
    · refine ⟨b, 0, rfl, (hc.mono (PH.le_trans (fromN_le N σ) h3)).rowAt fun j hj => ?_⟩
      rw [hc.len] at hj
      rw [Nat.zero_add, ← g3 j hj]
  · rcases h7 with ⟨h8, _⟩ | ⟨b, rfl, g1, _, g2, g3⟩
    · exact .inl h8
    · refine h0.imp id fun ⟨b', c0, cap', e1, e2, e3, e4, _⟩ => ?_
      injection e1 with e1 _ _
      injection e1 with e1
      injection e1 with e1 _ _
      subst e1
      exact ⟨b, c0, cap, rfl, h2, by rw [g2]; exact e3, e4⟩
end
section
variable {P : Program} {f : FuncId} {R : Ending → World → Prop} {k : List Item} {n : Nat} {fr : Nat → Value} {w0 : World} {M : Nat → Prop} {σ : PH} {K K' : List HP}
theorem RS.freezeQ {α : Type} {ri : Rep α} {N e : Nat} {l : List α} {put : HP → List HP} (v : Value) (h : ∀ σ', PH.le σ σ' → RepQ e σ' v l → RS P f R k n fr w0 M σ' K') (hl : l.length ≤ 140737488355328 := by omega) (hf : FindD v K α ri N e l put K' := by infer_instance) :
    RS P f R k n fr w0 M σ K :=
  ⟨fun w hw => by obtain ⟨σ', h1, h2, h3⟩ := hw.freezeQ hl hf; exact (h σ' h1 h2).out w h3⟩
class Calm (K : List HP) : Prop where
  at_ : ∀ {σ σ' : PH} {c : PH} {F : Nat → Prop}, SepIn ⟨σ, c⟩ K F → SepIn ⟨σ', c⟩ K F
class Calm1 (A : HP) : Prop where
  at_ : ∀ {σ σ' : PH} {c : PH} {F : Nat → Prop}, A.h ⟨σ, c⟩ F → A.h ⟨σ', c⟩ F
instance Calm.nil : Calm [] where
  at_ _ := trivial
instance Calm.cons {A : HP} {K : List HP} [a : Calm1 A] [k : Calm K] : Calm (A :: K) where
  at_ := fun ⟨F1, h1, h2, h3⟩ => ⟨F1, a.at_ h1, h2, k.at_ h3⟩
instance Calm1.blk {b : Nat} {o : Obj} : Calm1 (blk b o) where
  at_ h := h
def rowO (e : TypeId) (s : Nat) (v : Value) (n : Nat) : HP :=
  ⟨fun g F => n = 0 ∨ ∃ b c0 cap, v = .slice (some ⟨b, 0, none⟩) n cap ∧ n ≤ cap ∧ F b ∧ g.cur b = some (.cells (List.toArray c0) e (0, 0)) ∧ n * s ≤ c0.length,
   fun h hg _ => h.imp id fun ⟨b, c0, cap, h1, h2, h3, h4, h5⟩ => ⟨b, c0, cap, h1, h2, h3, by rw [hg _ h3]; exact h4, h5⟩⟩
instance Calm1.rowO {e s n : Nat} {v : Value} : Calm1 (rowO e s v n) where
  at_ h := h
theorem rowO_of {g : VH} {b e s m cap : Nat} {c0 : List Value} {F : Nat → Prop} (hc : m ≤ cap) (hl : m * s ≤ c0.length) (h : SepIn g (blk b (.cells (List.toArray c0) e (0, 0)) :: K) F) : SepIn g (rowO e s (.slice (some ⟨b, 0, none⟩) m cap) m :: K) F := by
  obtain ⟨F1, ⟨h1, h2⟩, h3, h4⟩ := h
  exact ⟨F1, .inr ⟨b, c0, cap, rfl, hc, h1, h2, hl⟩, h3, h4⟩
def cutP (σ : PH) (b : Nat) : PH := fun x => if x = b then none else σ x
theorem cutP_le {τ : PH} {b : Nat} (h : PH.le τ σ) (hb : τ b = none) : PH.le τ (cutP σ b) := fun x o hx => by
  have : x ≠ b := fun e => by rw [e, hb] at hx; cases hx
  simp only [cutP]; rw [if_neg this]; exact h x o hx
theorem Sat.thaw {w : World} {b : Nat} {o : Obj} [hk : Calm K] (hw : Sat w0 M σ K w) (hb : σ b = some o) (hn : w0.heap.size ≤ b) : Sat w0 M (cutP σ b) (blk b o :: K) w := by
  refine ⟨hw.os, hw.tape, hw.output, hw.size, fun x hx hM => ?_, fun x y hx => ?_, fun x => x = b, ⟨rfl, hw.imm b o hb⟩, ?_, ?_⟩
  · simp only [cutP]; rw [if_neg (by omega)]; exact hw.keep x hx hM
  · simp only [cutP] at hx
    split at hx
    · cases hx
    · exact hw.imm x y hx
  · rintro x rfl
    exact ⟨hp_lt (hw.imm x o hb), by simp [cutP]⟩
  · refine (hk.at_ hw.sep).mono fun x hx => ⟨⟨hx.1, ?_⟩, fun e => ?_⟩
    · simp only [cutP]; split
      · rfl
      · exact hx.2
    · subst e; rw [hb] at hx; cases hx.2
theorem RS.thaw {e s m : Nat} (v : Value) [hk : Calm K] (hO : OwnV e s σ v m) (hnew : ∀ b cap, m ≠ 0 → v = .slice (some ⟨b, 0, none⟩) m cap → w0.heap.size ≤ b)
    (h : ∀ σ', (∀ τ, PH.le τ σ → (∀ b cap, m ≠ 0 → v = .slice (some ⟨b, 0, none⟩) m cap → τ b = none) → PH.le τ σ') → (∀ e2 s2 v2 m2, e2 ≠ e → OwnV e2 s2 σ v2 m2 → OwnV e2 s2 σ' v2 m2) → RS P f R k n fr w0 M σ' (rowO e s v m :: K)) :
    RS P f R k n fr w0 M σ K := by
  rcases hO with h0 | ⟨b, c0, cap, h1, h2, h3, h4⟩
  · refine ⟨fun w hw => (h σ (fun τ h _ => h) (fun _ _ _ _ _ h => h)).out w (hw.weak fun F hF => ⟨fun _ => False, .inl h0, fun _ h => h.elim, hF.mono fun _ hb => ⟨hb, fun h => h⟩⟩)⟩
  · by_cases hm : m = 0
    · refine ⟨fun w hw => (h σ (fun τ h _ => h) (fun _ _ _ _ _ h => h)).out w (hw.weak fun F hF => ⟨fun _ => False, .inl hm, fun _ h => h.elim, hF.mono fun _ hb => ⟨hb, fun h => h⟩⟩)⟩
    · subst h1
      refine ⟨fun w hw => (h (cutP σ b) (fun τ h hb => cutP_le h (hb b cap hm rfl)) (fun e2 s2 v2 m2 he ho => ?_)).out w ((hw.thaw h3 (hnew b cap hm rfl)).weak fun F hF => rowO_of h2 h4 hF)⟩
      refine ho.imp id fun ⟨b2, c2, cap2, g1, g2, g3, g4⟩ => ⟨b2, c2, cap2, g1, g2, ?_, g4⟩
      have : b2 ≠ b := fun hb => by
        subst hb; rw [h3] at g3
        injection g3 with g3; injection g3 with _ g3 _
        exact he g3.symm
      simp only [cutP]; rw [if_neg this]; exact g3
theorem OwnV.new {τ : PH} {e s m b cap : Nat} {v : Value} (h : OwnV e s τ v m) (hN : New w0 τ) (hm : m ≠ 0) (hv : v = .slice (some ⟨b, 0, none⟩) m cap) : w0.heap.size ≤ b := by
  rcases h with h | ⟨b', c0, cap', rfl, _, h3, _⟩
  · exact absurd h hm
  · injection hv with hv _ _
    injection hv with hv
    injection hv with hv _ _
    subst hv
    exact Nat.le_of_not_lt fun hlt => by rw [hN _ hlt] at h3; cases h3
theorem OwnV.off {τ τ' : PH} {e s m b cap : Nat} {v : Value} (h : OwnV e s τ v m) (ht : ∀ x o, τ x = some o → τ' x = none) (hm : m ≠ 0) (hv : v = .slice (some ⟨b, 0, none⟩) m cap) : τ' b = none := by
  rcases h with h | ⟨b', c0, cap', rfl, _, h3, _⟩
  · exact absurd h hm
  · injection hv with hv _ _
    injection hv with hv
    injection hv with hv _ _
    subst hv
    exact ht _ _ h3
class FindO (v : Value) (K : List HP) (e s m : outParam Nat) (put : outParam (HP → List HP)) (K' : outParam (List HP)) : Prop where
  get : ∀ {g : VH} {F : Nat → Prop}, SepIn g K F → SepIn g (rowO e s v m :: K') F
  set : ∀ {A : HP} {g : VH} {F : Nat → Prop}, SepIn g (A :: K') F → SepIn g (put A) F
instance FindO.tail {v : Value} {K : List HP} {e s m : Nat} {put : HP → List HP} {K' : List HP} {B : HP} [i : FindO v K e s m put K'] : FindO v (B :: K) e s m (fun A => B :: put A) (B :: K') where
  get h := SepIn.swap (SepIn.cons_sub (fun _ => i.get) h)
  set h := SepIn.cons_sub (fun _ => i.set) (SepIn.swap h)
instance FindO.head {v : Value} {K : List HP} {e s m : Nat} : FindO v (rowO e s v m :: K) e s m (fun A => A :: K) K where
  get h := h
  set h := h
theorem RS.openO {e s m : Nat} {put : HP → List HP} (v : Value) (hm : m ≠ 0) (h : ∀ b c0 cap, v = .slice (some ⟨b, 0, none⟩) m cap → m ≤ cap → m * s ≤ c0.length → RS P f R k n fr w0 M σ (put (blk b (.cells (List.toArray c0) e (0, 0))))) (hf : FindO v K e s m put K' := by infer_instance) :
    RS P f R k n fr w0 M σ K :=
  ⟨fun w hw => by
    obtain ⟨F1, h1, h2, h3⟩ := hf.get hw.sep
    rcases h1 with h1 | ⟨b, c0, cap, g1, g2, g3, g4, g5⟩
    · exact absurd h1 hm
    · exact (h b c0 cap g1 g2 g5).out w ⟨hw.os, hw.tape, hw.output, hw.size, hw.keep, hw.imm, hf.set ⟨F1, ⟨g3, g4⟩, h2, h3⟩⟩⟩
theorem callTN {P : Program} {ops : Array Oper} {rest : List Oper} {d : Nat} {ty : TypeId} {pos : String} {aft : Array Edge} {g : FuncId} {xs : Array Operand} {ts : Array TypeId} {args : List Value} (Q : Value → PH → Prop) [i : Fun P g]
    (h : ∀ v τ σ', Q v τ → New w0 τ → (∀ b o, σ b = some o → τ b = none) → PH.le σ σ' → PH.le τ σ' → LS P false ops f R k rest n (upd fr d v) w0 M σ' K)
    (hc : ∀ w, Sat w0 M σ K w → Calls P g args.toArray w fun e w' => ∃ v, e = .returned v ∧ RowKit.Below w.heap.size w w' ∧ Q v (since w w')) (hx : xs.toList.map (ev n fr) = args := by rfl) :
    LS P false ops f R k (⟨some d, .call ⟨.value (.func g), xs, ts⟩, ty, pos, aft, none⟩ :: rest) n fr w0 M σ K :=
  callN (Q := fun v τ _ => Q v τ ∧ New w0 τ ∧ ∀ b o, σ b = some o → τ b = none) (fun v τ σ' ⟨h1, h2, h3⟩ h4 h5 => h v τ σ' h1 h2 h3 h4 h5) hx (fun w hw => (hc w hw).mono fun _ _ ⟨v, h1, h2, h3⟩ => ⟨v, h1, h2, h3, New.since hw.size, fun b o hb => by
    have := hp_lt (hw.imm b o hb)
    simp only [since]; rw [if_neg (by omega)]⟩)
theorem local_c {A A' : HP} {σm : PH} {Q : Value → PH → Prop} {g : FuncId} {args : Array Value} {w : World}
    (hc : ∀ (M' : Nat → Prop) (Ko : List HP), Sat w M' σm (A :: Ko) w → Calls P g args w fun e w' => ∃ v σ', PH.le σm σ' ∧ Q v σ' ∧ e = .returned v ∧ Sat w M' σ' (A' :: Ko) w')
    (hA : ∀ F, A.h ⟨σ, hp w⟩ F → A.h ⟨σm, hp w⟩ F) (hle : PH.le σm σ) (hw : Sat w0 M σ (A :: K) w) :
    Calls P g args w fun e w' => ∃ v σ', PH.le σ σ' ∧ (∃ τ, PH.le σm τ ∧ PH.le τ σ' ∧ Q v τ ∧ ∀ b o, τ b = some o → σm b = some o ∨ σ b = none) ∧ e = .returned v ∧ Sat w0 M σ' (A' :: K) w' := by
  obtain ⟨F1, a1, a2, a3⟩ := hw.sep
  have hσ : ∀ b, F1 b → σm b = none := fun b hb => by
    cases e : σm b with
    | none => rfl
    | some o => have := hle b o e; rw [(a2 b hb).2] at this; cases this
  let oth : HP := ⟨fun g F => (∀ b, b < w.heap.size → σm b = none → ¬ F1 b → F b) ∧ ∀ b, F b → g.cur b = hp w b, fun h hg _ => ⟨h.1, fun b hb => by rw [hg b hb]; exact h.2 b hb⟩⟩
  have hs : Sat w (fun b => σm b = none) σm [A, oth] w := by
    refine ⟨rfl, rfl, rfl, Nat.le_refl _, fun b hb hM => ?_, fun b o hb => hw.imm b o (hle b o hb), F1, hA F1 a1, fun b hb => ⟨(a2 b hb).1, hσ b hb⟩, fun b => b < w.heap.size ∧ σm b = none ∧ ¬ F1 b, ⟨fun b h1 h2 h3 => ⟨h1, h2, h3⟩, fun b _ => rfl⟩, fun b hb => ⟨⟨hb.1, hb.2.1⟩, hb.2.2⟩, trivial⟩
    cases e : σm b with
    | none => exact absurd e hM
    | some o => exact (hw.imm b o (hle b o e)).symm
  refine (hc _ [oth] hs).mono fun e w' ⟨v, τ, t1, t2, t3, t4⟩ => ?_
  obtain ⟨F2, b1, b2, F3, ⟨c1, c2⟩, c3, _⟩ := t4.sep
  have hold : ∀ b, b < w.heap.size → σm b = none → ¬ F1 b → τ b = none ∧ ¬ F2 b ∧ hp w' b = hp w b := fun b h1 h2 h3 => by
    have hb := c1 b h1 h2 h3
    exact ⟨(c3 b hb).1.2, (c3 b hb).2, c2 b hb⟩
  have hlt : ∀ b o, σ b = some o → b < w.heap.size := fun b o h => hp_lt (hw.imm b o h)
  have hnF : ∀ b o, σ b = some o → ¬ F1 b := fun b o h hF => by rw [(a2 b hF).2] at h; cases h
  have hτσ : ∀ b o, τ b = some o → σm b = some o ∨ σ b = none := fun b o hb => by
    cases e : σ b with
    | none => exact .inr rfl
    | some o' =>
      cases em : σm b with
      | none => have := (hold b (hlt b o' e) em (hnF b o' e)).1; rw [this] at hb; cases hb
      | some o2 => have := t1 b o2 em; rw [hb] at this; exact .inl this.symm
  let σ2 : PH := fun b => match σ b with | some o => some o | none => τ b
  have s1 : PH.le σ σ2 := fun b o h => by show (match σ b with | some o => some o | none => τ b) = _; rw [h]
  have s2 : PH.le τ σ2 := fun b o h => by
    show (match σ b with | some o => some o | none => τ b) = _
    cases e : σ b with
    | none => exact h
    | some o' =>
      rcases hτσ b o h with h2 | h2
      · have := hle b o h2; rw [e] at this; exact this
      · rw [h2] at e; cases e
  have s3 : ∀ b, σ2 b = none → σ b = none ∧ τ b = none := fun b h => by
    have h : (match σ b with | some o => some o | none => τ b) = none := h
    cases e : σ b with
    | none => rw [e] at h; exact ⟨rfl, h⟩
    | some o => rw [e] at h; cases h
  have s4 : ∀ b, σ b = none → τ b = none → σ2 b = none := fun b h1 h2 => by show (match σ b with | some o => some o | none => τ b) = none; rw [h1]; exact h2
  have simm : PH.le σ2 (hp w') := fun b o h => by
    have h : (match σ b with | some o => some o | none => τ b) = some o := h
    cases e : σ b with
    | none => rw [e] at h; exact t4.imm b o h
    | some o' =>
      rw [e] at h
      injection h with h; subst h
      cases em : σm b with
      | none => rw [(hold b (hlt b _ e) em (hnF b _ e)).2.2]; exact hw.imm b _ e
      | some o2 =>
        have h1 := hle b o2 em
        rw [e] at h1; injection h1 with h1; subst h1
        exact t4.imm b _ (t1 b _ em)
  refine ⟨v, σ2, s1, ⟨τ, t1, s2, t2, hτσ⟩, t3, ?_⟩
  refine ⟨t4.os.trans hw.os, t4.tape.trans hw.tape, t4.output.trans hw.output, Nat.le_trans hw.size t4.size, fun b hb hM => ?_, simm, F2, A'.loc b1 (fun _ _ => rfl) s2, fun b hb => ⟨(b2 b hb).1, s4 b ?_ (b2 b hb).2⟩, ?_⟩
  · have h1 := hw.keep b hb hM
    have h2 : w0.heap[b]? = some w0.heap[b] := Array.getElem?_eq_getElem hb
    rw [h2] at h1 ⊢
    exact s1 b _ h1
  · cases e : σ b with
    | none => rfl
    | some o =>
      cases em : σm b with
      | none => exact absurd hb (hold b (hlt b o e) em (hnF b o e)).2.1
      | some o2 => have := t1 b o2 em; rw [(b2 b hb).2] at this; cases this
  · have hK : ∀ b, (b < w.heap.size ∧ σ b = none) ∧ ¬ F1 b → τ b = none ∧ ¬ F2 b ∧ hp w' b = hp w b := fun b ⟨⟨h1, h2⟩, h3⟩ => hold b h1 (by
      cases em : σm b with
      | none => rfl
      | some o => have := hle b o em; rw [h2] at this; cases this) h3
    refine (a3.over (fun b hb => (hK b hb).2.2) s1).mono fun b hb => ⟨⟨Nat.lt_of_lt_of_le hb.1.1 t4.size, s4 b hb.1.2 (hK b hb).1⟩, (hK b hb).2.1⟩
end
end Go.JW
namespace Go.Proofs.YtealabaiamaojaaGreatDoor
open Go.JW Go.RowKit

theorem cellsStr (τ : PH) : ∀ {l : List ByteArray}, (∀ s ∈ l, s.size ≤ 140737488355328) → CellsL τ (l.map Value.string) l := by
  intro l
  induction l with
  | nil => intro _; rfl
  | cons s l ih => intro h; exact ⟨[.string s], l.map Value.string, rfl, ⟨rfl, h s (by simp)⟩, ih fun x hx => h x (by simp [hx])⟩
def marks4 : List ByteArray := [⟨#[98, 105, 103]⟩, ⟨#[115, 115, 100]⟩, ⟨#[119, 101, 115, 116]⟩, ⟨#[206, 179]⟩]
def bitOf (n : Int) (k : Nat) : Int := n.fdiv (2 ^ min (k : Int).toNat IntKind.i64.bits) % 2
def setN (n : Int) : Nat → List ByteArray
  | 0 => []
  | k + 1 => setN n k ++ (if bitOf n k = 1 then [marks4.getD k ⟨#[]⟩] else [])
def setOf (n : Int) : List ByteArray := setN n 4
theorem setN_size (n : Int) : ∀ k, k ≤ 4 → (∀ s ∈ setN n k, s.size ≤ 140737488355328) ∧ (setN n k).length ≤ k := by
  intro k
  induction k with
  | zero => intro _; simp [setN]
  | succ k ih =>
    intro hk
    obtain ⟨h1, h2⟩ := ih (by omega)
    have h3 : ∀ i : Fin 4, (marks4.getD i.val ⟨#[]⟩).size ≤ 140737488355328 := by decide
    refine ⟨fun s hs => ?_, ?_⟩
    · simp only [setN, List.mem_append] at hs
      rcases hs with hs | hs
      · exact h1 s hs
      · split at hs
        · simp at hs; subst hs; exact h3 ⟨k, by omega⟩
        · simp at hs
    · simp only [setN, List.length_append]
      split <;> simp <;> omega
theorem lset_q (n : Int) (w : World) : Calls Tryz.prog 54 #[.int .i64 n] w fun e w' => ∃ v, e = .returned v ∧ Below w.heap.size w w' ∧ RepQ 9 (since w w') v (setOf n) := by
  refine RS.enter Tryz.func54 Tryz.ntmps54 rfl rfl ?_
  refine zN ?_; refine asL ?_; refine LS.done ?_
  refine zN ?_; refine bldS [.string _, .string _, .string _, .string _] [.string _, .string _, .string _, .string _] (fun b6 => ?_); refine asL ?_; refine LS.done ?_
  refine zN ?_; refine asL ?_; refine LS.done ?_
  refine zN ?_; refine asI ?_; refine LS.done ?_
  refine RS.nilRow 9 1 ?_
  refine zN ?_
  refine RS.loopF (X := Nat × Value) 4 24 (fun x => x.1 ≤ 4) (fun x => [(4, x.2), (5, .int .i64 x.1)]) (fun _ => hp w) (fun x => [rowH 9 1 x.2 (setN n x.1).length ((setN n x.1).map Value.string), blk b6 (.cells (List.toArray (marks4.map Value.string)) 9 (0, 0))]) (fun x => 4 - x.1) (0, .slice none 0 0) (by simp) ⟨rfl, rfl, trivial⟩ rfl ⟨fun h => h⟩ ?_
  rintro ⟨k, v⟩ g hk ih
  simp only at hk ih ⊢
  refine zN ?_; refine mvI ?_; refine ltI ?_; refine LS.done ?_
  refine zN ?_
  by_cases hlt : k < 4
  · refine RS.condT ?_ (h := by simp; omega)
    refine zN ?_; refine mvI ?_; refine mvI ?_; refine cvU ?_; refine shrI ?_
    refine callP ?_ (hc := fun w _ => w2_c _ _ (by omega) (by omega) w)
    refine eqI ?_; refine LS.done ?_
    refine zN ?_
    have hN := setN_size n k (by omega)
    refine RS.cond (fun c => ?_) (fun c => ?_)
    · simp only [decide_eq_true_eq] at c
      refine zN ?_; refine mv (v := v) ?_; refine mvL ?_; refine mvI ?_; refine idx (i := k) ?_; refine ld1 (v := .string (marks4.getD k ⟨#[]⟩)) ?_ (hv := nth_str marks4 k (by simp [marks4]; omega)); refine bldS [.string _] [.string _] (fun b22 => ?_); refine appR (v := v) (kk := 1) (vy := .slice (some ⟨b22, 0, none⟩) 1 1) (news := [.string _]) (fun w hw => srcB hw (TSlice.eq (P := Tryz.prog))) (fun v23 => ?_); refine as_ (v := v23) ?_; refine LS.done ?_
      refine zN ?_; refine mvI ?_; (first | refine addN ?_ | refine addI ?_); refine asI ?_; refine LS.done ?_; refine zN ?_
      have e : setN n (k + 1) = setN n k ++ [marks4.getD k ⟨#[]⟩] := by rw [setN, if_pos (show bitOf n k = 1 from c)]
      refine ih (k + 1, v23) hlt (by omega) ⟨rfl, rfl, trivial⟩ (by repeat (first | with_reducible exact Out.refl _ _ _ | exact Out.hv | refine Out.upd ?_ | refine Out.hvIn ?_)) ?_ rfl
      simp only [e, List.length_append, List.map_append, List.map_cons, List.map_nil, List.length_singleton]
      infer_instance
    · simp only [decide_eq_false_iff_not] at c
      refine zN ?_; refine mvI ?_; (first | refine addN ?_ | refine addI ?_); refine asI ?_; refine LS.done ?_; refine zN ?_
      have e : setN n (k + 1) = setN n k := by rw [setN, if_neg (show ¬ bitOf n k = 1 from c), List.append_nil]
      refine ih (k + 1, v) hlt (by omega) ⟨rfl, rfl, trivial⟩ (by repeat (first | with_reducible exact Out.refl _ _ _ | exact Out.hv | refine Out.upd ?_ | refine Out.hvIn ?_)) ?_ rfl
      simp only [e]
      infer_instance
  · refine RS.condF ?_ (h := by simp; omega)
    obtain rfl : k = 4 := by omega
    refine zN ?_; refine mv (v := v) ?_; refine as_ (v := v) ?_; refine LS.done ?_; refine zN ?_
    refine RS.ret1 (v := v) Tryz.func54 fun w hw => ?_
    have hN := setN_size n 4 (by omega)
    exact ⟨v, rfl, hw.below, hw.rowNew (cellsStr (since _ _) hN.1) (PH.le_refl _) (by unfold setOf; omega), hw.ownNew⟩
theorem lset_c (n : Int) (w : World) : Calls Tryz.prog 54 #[.int .i64 n] w fun e w' => ∃ v, e = .returned v ∧ Below w.heap.size w w' ∧ RepL (since w w') v (setOf n) :=
  (lset_q n w).mono fun _ _ ⟨v, h1, h2, h3⟩ => ⟨v, h1, h2, h3.1⟩
end Go.Proofs.YtealabaiamaojaaGreatDoor
namespace Go.Proofs.YtealabaiamaojaaGreatDoor
open Go.JW Go.RowKit

theorem clone_post {w w' : World} {v : Value} {l : List ByteArray} (N : Nat) (h : w'.ownsRow w.heap.size 9 1 v l.length (l.map Value.string)) (hb : Below w.heap.size w w') (hl : ∀ s ∈ l, s.size ≤ 140737488355328) : Post (fun _ => none) [rowD N 9 v l] w w' := by
  obtain ⟨h1, h2⟩ := h
  refine ⟨hb, fun _ _ => rfl, fun b o h => (by cases h), ?_⟩
  have hcl : CellsL (fromN N (fun _ => none)) (l.map Value.string) l := cellsStr _ hl
  have h47 : l.length ≤ l.length := Nat.le_refl _
  rcases h2 with ⟨rfl, h3⟩ | ⟨g, cap, cur, rfl, h3, h4, h5, h6, h7, h8⟩
  · exact ⟨fun _ => False, ⟨_, hcl, hcl.len, hcl.one, none, 0, by rw [h3], by omega, by omega, .inl ⟨h3, rfl⟩⟩, fun _ h => h.elim, trivial⟩
  · refine ⟨fun b => b = g, ⟨_, hcl, hcl.len, hcl.one, _, cap, rfl, h5, by simpa [maxLen] using h6, .inr ⟨g, cur.toList, rfl, rfl, by show hp w' g = _; rw [Array.toArray_toList]; exact h4, by rw [Array.length_toList, h7]; exact Nat.le_refl _, h8⟩⟩, ?_, trivial⟩
    rintro b rfl
    exact ⟨h3, hp_lt h4, rfl⟩
theorem RepL.strs {σ : PH} {v : Value} {l : List ByteArray} (h : RepL σ v l) : ∀ s ∈ l, s.size ≤ 140737488355328 := fun s hs => by
  obtain ⟨i, hi, rfl⟩ := List.mem_iff_getElem.1 hs
  obtain ⟨a, c, rfl⟩ := h.form
  obtain ⟨b, o, _, r⟩ := h.addr (fun h0 => by simp [h0] at hi)
  exact (r.str i hi).2
theorem clone_c (l : List ByteArray) (v : Value) (N : Nat) (w : World) (h : RepL (hp w) v l) (hb : l.length ≤ 1000000) : Calls Tryz.prog 145 #[v] w fun r w' => ∃ v' τ, r = .returned v' ∧ Post τ [rowD N 9 v' l] w w' ∧ True := by
  have hs := RepL.strs h
  obtain ⟨a, c, rfl⟩ := h.form
  cases a with
  | none =>
    have hn : l = [] := Classical.byContradiction fun hn => by obtain ⟨b, o, e, _⟩ := h.addr hn; cases e
    subst hn
    refine (Tryz.slices_Clone_string_nil 0 c w).mono fun r w' ⟨h1, h2⟩ => ⟨_, (fun _ => none), h1, ?_, trivial⟩
    subst h2
    exact clone_post N ⟨rfl, .inl ⟨rfl, rfl⟩⟩ (Below.refl _ _) hs
  | some ad =>
    by_cases hn : l = []
    · subst hn
      refine (Tryz.slices_Clone_string_zero ad c w).mono fun r w' ⟨v', h1, h2, _, h3⟩ => ⟨v', _, h1, clone_post N h2 h3 hs, trivial⟩
    · obtain ⟨b, o, e, hr⟩ := h.addr hn
      injection e with e; subst e
      refine (Tryz.slices_Clone_string b o l.length c l w (Nat.le_refl _) (by omega) fun j hj => ?_).mono fun r w' ⟨v', h1, h2, _, h3⟩ => ⟨v', _, h1, clone_post N (by rw [List.take_length] at h2; exact h2) h3 hs, trivial⟩
      have := (hr.str j hj).1
      rw [← PH.cell_world, List.getD_eq_getElem?_getD, List.getElem?_eq_getElem hj]; simpa using this
theorem clone_w (l : List ByteArray) (v : Value) (w : World) (h : RepL (hp w) v l) (hb : l.length ≤ 1000000) : Calls Tryz.prog 145 #[v] w fun r w' => ∃ v', r = .returned v' ∧ Below w.heap.size w w' ∧ RepL (since w w') v' l :=
  (clone_c l v 0 w h hb).mono fun _ _ ⟨v', _, h1, h2, _⟩ => ⟨v', h1, h2.below, h2.row (by omega)⟩
end Go.Proofs.YtealabaiamaojaaGreatDoor
