/- Regions that draw, with operations that are guarded: the guards' values are told, and looked at when the walk is done. -/
import Derived.Test.YthnoaapghcadgaaDoorDOwn
namespace Go.JW

def glook : List (Nat × Option Bool) → Nat → Option (Option Bool)
  | [], _ => none
  | p :: l, x => bif Nat.beq p.1 x then some p.2 else glook l x
def nthO : List Oper → Nat → Option Oper
  | [], _ => none
  | o :: _, 0 => some o
  | _ :: l, i + 1 => nthO l i
theorem nthO_eq (l : List Oper) (i : Nat) : nthO l i = l[i]? := by
  induction l generalizing i with
  | nil => simp [nthO]
  | cons v l ih => cases i <;> simp [nthO, ih]
def onOff (gl : List (Nat × Option Bool)) (rl : List Oper) (o : Oper) : Option Bool :=
  match o.guard with
  | none => some true
  | some (j, b) => ((nthO rl j).bind (·.dst)).bind fun g => (glook gl g).map fun v => match v with | some c => (b == c) | none => false
def ersO (gl : List (Nat × Option Bool)) (rl : List Oper) (o : Oper) : Oper :=
  match onOff gl rl o with
  | some true => ⟨o.dst, o.op, o.type, o.pos, o.after, none⟩
  | _ => ⟨o.dst, .assign (.const undef), o.type, o.pos, o.after, none⟩
def ers (gl : List (Nat × Option Bool)) (rl : List Oper) : List Oper := rl.map (ersO gl rl)
/-- What is asked of the guards. -/
def gOk (n : Nat) (gl : List (Nat × Option Bool)) (rl : List Oper) : Bool :=
  rl.zipIdx.all fun p =>
    match p.1.guard with
    | none => true
    | some (j, _) => ((nthO rl j).bind (·.dst)).any (fun g => Nat.blt g n && (glook gl g).isSome) && ((closL rl []).getD p.2 0).testBit j && (p.1.dst.isSome)
theorem glook_mem : ∀ {gl : List (Nat × Option Bool)} {x : Nat} {v : Option Bool}, glook gl x = some v → (x, v) ∈ gl := by
  intro gl
  induction gl with
  | nil => intro x v h; cases h
  | cons p gl ih =>
    intro x v h
    simp only [glook] at h
    by_cases e : Nat.beq p.1 x = true
    · simp only [e, cond_true] at h
      have := Nat.eq_of_beq_eq_true e
      injection h with h
      rw [← this, ← h]; simp
    · simp only [e, cond_false] at h
      exact List.mem_cons_of_mem _ (ih h)
theorem edgeTo_ers (gl : List (Nat × Option Bool)) (rl : List Oper) (o : Oper) : edgeTo (ersO gl rl o) = edgeTo o := by
  unfold ersO; split <;> rfl
theorem closL_ers (gl : List (Nat × Option Bool)) (rl : List Oper) : ∀ (l : List Oper) (acc : List Nat), closL (l.map (ersO gl rl)) acc = closL l acc := by
  intro l
  induction l with
  | nil => intro acc; rfl
  | cons o l ih => intro acc; simp only [List.map_cons, closL, edgeTo_ers]; exact ih _
section
variable {P : Program} {f : FuncId} {R : Ending → World → Prop} {k : List Item} {n : Nat} {fr : Nat → Value} {w0 : World} {M : Nat → Prop} {σ : PH} {K Kb : List HP}
theorem RS.drawG {id : Nat} {rl : List Oper} (gl : List (Nat × Option Bool)) (tags : List Tag) (Kb : List HP) (h : LD P f R k n w0 M σ Kb (ers gl rl) (tags ++ gl.map fun p => Tag.g p.1 p.2) ⟨fr, [], [], fun _ => K, [], false⟩)
    (hm : P.follows .mixedOrders = true) (hok : drawOkT (ers gl rl) tags = true) (hg : gOk n gl rl = true) (hL : Less K Kb) : RS P f R (.code (.region id rl.toArray true) :: k) n fr w0 M σ K := by
  obtain ⟨infos, gl', h1, h2, h3, h4⟩ := h.out
  have hle : (ers gl rl).length = rl.length := by simp [ers]
  have hlen : (ers gl rl).length = tags.length := by
    simp only [drawOkT, Bool.and_eq_true, decide_eq_true_eq] at hok; exact hok.2.2
  obtain ⟨ht, hgl⟩ : infos.map Info.tag = tags ∧ gl'.map (fun p => Tag.g p.1 p.2) = gl.map (fun p => Tag.g p.1 p.2) := List.append_inj h1 (by rw [List.length_map]; omega)
  have hgg : gl' = gl := by
    refine List.map_inj_right (f := fun (p : Nat × Option Bool) => Tag.g p.1 p.2) ?_ |>.1 hgl
    rintro ⟨a, b⟩ ⟨c, d⟩ e; injection e with e1 e2; simp only at e1 e2; rw [e1, e2]
  subst hgg
  have hok' : drawOk ((ers gl' rl).zip infos) = true := by unfold drawOk; rw [zip_fst h2, zip_snd h2, ht]; exact hok
  refine RS.drawReal (l := (ers gl' rl).zip infos) (by rw [List.length_zip, h2, Nat.min_self]; exact hle.symm) (fun hp i o inf hio => ?_) hm hok' hL h3
  have hz := List.getElem?_zip_eq_some.1 hio
  have hi : i < rl.length := by have := (List.getElem?_eq_some_iff.1 hz.1).1; omega
  have ho : o = ersO gl' rl rl[i] := by
    have := hz.1
    simp only [ers, List.getElem?_map, List.getElem?_eq_getElem hi, Option.map_some, Option.some.injEq] at this
    exact this.symm
  refine ⟨rl[i], List.getElem?_eq_getElem hi, ?_, fun L g w σ' Ol j I he K' Q' hw => ?_⟩
  · rw [ho]; unfold ersO; split <;> rfl
  generalize hr : rl[i] = r at ho
  have hri : rl.toArray[i]? = some r := by simp [hi, hr]
  unfold wpOp
  rw [hri]
  simp only
  cases hgd : r.guard with
  | none =>
    simp only [Region.wanted, hgd, if_true]
    have : o = r := by
      rw [ho]; unfold ersO onOff; rw [hgd]; cases r; simp at hgd; subst hgd; rfl
    rw [this] at hw
    exact .inl hw
  | some jb =>
    obtain ⟨j', b⟩ := jb
    have hgi := List.all_eq_true.1 hg (r, i) (by rw [List.mem_zipIdx_iff_getElem?]; simp [hi, hr])
    simp only [hgd, Bool.and_eq_true] at hgi
    obtain ⟨⟨hg1, hg2⟩, hg3⟩ := hgi
    cases hj : nthO rl j' with
    | none => rw [hj] at hg1; simp at hg1
    | some oj =>
      cases hd : oj.dst with
      | none => rw [hj] at hg1; simp [hd] at hg1
      | some gs =>
        rw [hj] at hg1
        simp only [Option.bind_some, hd, Option.any_some, Bool.and_eq_true] at hg1
        obtain ⟨hgn, hgk⟩ := hg1
        obtain ⟨v, hv⟩ := Option.isSome_iff_exists.1 hgk
        obtain ⟨hfr, hns⟩ := GEnd.at_ h4 _ (glook_mem hv)
        simp only at hfr hns
        -- the guard's operation, as it is walked
        have hj' : rl[j']? = some oj := by rw [← nthO_eq]; exact hj
        have hjl : j' < rl.length := (List.getElem?_eq_some_iff.1 hj').1
        obtain ⟨oj', infj, hjz⟩ := at_some (l := (ers gl' rl).zip infos) (i := j') (by rw [List.length_zip, h2, Nat.min_self, hle]; exact hjl)
        have hojd : oj'.dst = some gs := by
          have := (List.getElem?_zip_eq_some.1 hjz).1
          simp only [ers, List.getElem?_map, hj', Option.map_some, Option.some.injEq] at this
          rw [← this]; unfold ersO; split <;> exact hd
        have hdj : dstOf oj' = gs := by unfold dstOf; rw [hojd]; rfl
        have hclos : ((closL (((ers gl' rl).zip infos).map (·.1)) []).getD i 0).testBit j' = true := by
          rw [zip_fst h2, ers, closL_ers]; exact hg2
        have hLj : L j' = true := clos_listed I.down hio he hclos
        have hvj := I.vals j' oj' infj hLj hjz
        rw [hdj] at hvj
        have hlz : ((ers gl' rl).zip infos).length = (ers gl' rl).length := by rw [List.length_zip, h2, Nat.min_self]
        have hval : g gs = guardV v := by
          cases hx : infj.val? with
          | none =>
            exfalso
            cases hst : infj.isSt with
            | true => have := dst_none hp hjz hst; rw [hojd] at this; cases this
            | false =>
              refine hns ?_
              have hs : infj.hs = true := by cases infj <;> simp [Info.val?] at hx <;> simp [Info.isSt, Info.tag, Tag.isSt] at hst <;> rfl
              have := (slots_iff (l := (ers gl' rl).zip infos) (s0 := ⟨fr, [], [], fun _ => K, [], false⟩) rfl (ers gl' rl).length (by omega) gs).2 ⟨j', oj', infj, by omega, hjz, hs, hdj⟩
              exact this
          | some u =>
            have hu : g gs = u := by cases infj <;> simp [Info.val?] at hx <;> subst hx <;> exact hvj
            have hst : infj.isSt = false := by cases infj <;> simp [Info.val?] at hx <;> rfl
            have hy := fr_yes (l := (ers gl' rl).zip infos) (s0 := ⟨fr, [], [], fun _ => K, [], false⟩) (ers gl' rl).length (by omega) j' oj' infj u (by omega) hjz hx (fun k' o' inf' hk' hkp => by
              cases hx' : inf'.isSt with
              | false => exact .inl (dst_ne hp hok' (by omega) hkp hjz hx' hst)
              | true => exact .inr ⟨dst_none hp hkp hx', by cases inf' <;> simp [Info.isSt, Info.tag, Tag.isSt] at hx' <;> rfl⟩)
            rw [hdj] at hy
            rw [hu, ← hy]; exact hfr
        have hbind : (rl.toArray[j']?).bind (·.dst) = some gs := by simp [hj', hd]
        have hev : ev n g (.tmp gs) = guardV v := by simp only [ev, hgn, cond_true]; exact hval
        have hon : onOff gl' rl r = some (match v with | some c => (b == c) | none => false) := by
          unfold onOff; rw [hgd]; simp only [hj, Option.bind_some, hd, hv, Option.map_some]
          cases v <;> rfl
        cases v with
        | none =>
          have hy := yielded_undef (ops := rl.toArray) (n := n) (fr := g) hbind hev
          simp only [Region.wanted, hgd, hy]
          rw [if_neg (by simp)]
          rw [ho] at hw
          unfold ersO at hw
          rw [hon] at hw
          simp only [Oper.wp, act_eval, execOp, Sem.run_pure, ev, Oper.upon_value] at hw
          exact hw
        | some c =>
          have hy := yielded_at (ops := rl.toArray) (n := n) (fr := g) hbind hev
          by_cases hbc : c = b
          · subst hbc
            simp only [Region.wanted, hgd, hy]
            rw [if_pos (by simp)]
            rw [ho] at hw
            unfold ersO at hw
            rw [hon] at hw
            simp only [beq_self_eq_true] at hw
            exact .inl hw
          · have hcb : (b == c) = false := beq_eq_false_iff_ne.2 fun h => hbc h.symm
            simp only [Region.wanted, hgd, hy]
            rw [if_neg (by simp; exact fun h => hbc h)]
            rw [ho] at hw
            unfold ersO at hw
            rw [hon] at hw
            simp only [hcb, Oper.wp, act_eval, execOp, Sem.run_pure, ev, Oper.upon_value] at hw
            exact hw
variable {H : HS} {O : List (Nat × Obj)} {Kf : Us → List HP} {E : List Nat} {tags : List Tag} {rest : List Oper} {d : Nat} {ty : TypeId} {pos : String} {aft : Array Edge} {x y z : Operand} {t t' : TypeId}
/-- 'len' of what the region has made. -/
theorem D.lenU {ee : TypeId} (s m : Nat) [ht : TSlice P t ee] (h : LD P f R k n w0 M σ Kb rest tags ⟨upd fr d (.int .i64 m), H, O, Kf, E, false⟩)
    (ho : ∀ us σ', PH.le σ σ' → Facts H (readsTmp ⟨some d, .call ⟨.builtin .len, #[x], #[t]⟩, ty, pos, aft, none⟩) us σ' → ∃ a c, us s = .slice a m c) (hx : ∀ us, ev n (fill fr H us) x = us s := by intro _; rfl) :
    LD P f R k n w0 M σ Kb (⟨some d, .call ⟨.builtin .len, #[x], #[t]⟩, ty, pos, aft, none⟩ :: rest) (.ex :: tags) ⟨fr, H, O, Kf, E, false⟩ :=
  D.ex h fun us σ' w hle hf hw => by
    obtain ⟨a, c, e⟩ := ho us σ' hle hf
    simp [execOp, resolve, invoke, builtin, hx us, e, Builtin.len_, run_underlying ht.eq, goInt]
variable {q : Bool} {ops : Array Oper}
theorem idxA {b off len i s : Nat} {e : TypeId} [ht : TArr P t len e] [hs : TSz P e s] {kk : IntKind} {j : Int} (h : LS P q ops f R k rest n (upd fr d (.pointer (some ⟨b, off + i * s, none⟩))) w0 M σ K)
    (hx : ev n fr x = .pointer (some ⟨b, off, none⟩) := by rfl) (hy : ev n fr y = .int kk j := by rfl) (hj : j = (i : Int) := by rfl) (hi : i < len := by omega) :
    LS P q ops f R k (⟨some d, .indexAddr t x y, ty, pos, aft, none⟩ :: rest) n fr w0 M σ K :=
  LS.val rfl rfl (fun w _ => by
    subst hj
    simp [execOp, hx, hy, Instr.indexAt, asIntOf, run_underlying ht.eq, hi, run_sz w hs.eq, add_off, Instr.sureAddr]) h
end
end Go.JW
