/- The walk of TapeSyncs. -/
import Derived.Test.YtealabaiamaojaaGreatDoorQ5
namespace Go.Proofs.YtealabaiamaojaaGreatDoor
open Go.JW Go.RowKit
theorem syncs9_c (l : List Int) (vl : Value) (w : World) (lib : LibAt (hp w)) (hr : RepL (hp w) vl l) :
    Calls Tryz.prog 9 #[vl] w fun e w' => e = .returned (.bool true) ∧ Below w.heap.size w w' := by
  obtain ⟨al, cl, rfl⟩ := hr.form
  have hlen : l.length ≤ 140737488355328 := hr.1
  refine RS.enter Tryz.func9 Tryz.ntmps9 rfl rfl ?_
  refine zN ?_; refine asB ?_; refine LS.done ?_
  refine zN ?_; skip
  refine callQ (fun v _ => v = .bool true) [] (fun v σ1 k1 hq => ?_) (hc := fun w' hw => known9_s lib w' hw)
  subst hq
  refine not_ ?_; refine LS.done ?_
  refine zN ?_
  refine RS.condF ?_
  refine zN ?_; skip
  refine callX (fun b : Nat => .pointer (some ⟨b, 0, none⟩)) (fun _ => σ1) (fun b => [tapHP b [] 0]) (fun _ => True) (fun bt _ => ?_) (fun w' hw => (tnew_s w' hw).mono fun _ _ ⟨b, h1, h2⟩ => ⟨b, h1, h2, trivial⟩)
  refine asP ?_; refine LS.done ?_
  refine zN ?_; refine mvP ?_; refine bin_eql_P ?_; refine LS.done ?_
  refine zN ?_
  refine RS.condF ?_
  refine zN ?_; refine asI ?_; refine asI ?_; refine LS.done ?_
  refine zN ?_; refine asI ?_; refine LS.done ?_
  refine zN ?_
  refine RS.loopF (X := Nat × List RecD × Nat × PH) 4 77 (fun x => x.1 ≤ 60 ∧ x.2.1.length ≤ x.1 ∧ x.2.2.1 ≤ x.2.1.length ∧ Oks x.2.1 ∧ PH.le σ1 x.2.2.2) (fun x => [(4, .int .i64 x.2.1.length), (5, .int .i64 x.2.2.1), (6, .int .i64 x.1)]) (fun x => x.2.2.2) (fun x => [tapHP bt x.2.1 x.2.2.1]) (fun x => 60 - x.1) (0, [], 0, σ1) ⟨Nat.zero_le _, Nat.zero_le _, Nat.zero_le _, oks_nil, PH.le_refl _⟩ ⟨rfl, rfl, rfl, trivial⟩ rfl ⟨fun h => h⟩ ?_
  rintro ⟨i, rs, n, σ2⟩ g ⟨hi, hri, hn, ho, hle2⟩ ih
  dsimp only at hi hri hn ho hle2
  have k2 := PH.le_trans k1 hle2
  refine zN ?_; refine mvI ?_; refine mvL ?_; refine lenL ?_; refine ltI ?_; refine mvB ?_
  refine LS.cut 17 21 [(20, .bool (decide (i < l.length ∧ i < 60)))] (fun gg => ?_) (fun J => ?_)
  rotate_left
  · refine LS.part 17 (fun g1 => ?_) (fun g1 => ?_)
    · refine LS.on ?_; refine mvI ?_; refine LS.on ?_; refine ltI ?_; refine pk (v := .bool _) ?_; refine LS.done ?_
      simp only [decide_eq_true_eq] at g1
      exact J ⟨boolV (decide_eq_decide.2 (by omega)), trivial⟩ (by repeat (first | with_reducible exact Out.refl _ _ _ | exact Out.hv | refine Out.upd ?_ | refine Out.hvIn ?_))
    · refine LS.off ?_; refine LS.off ?_; refine pk (v := .bool _) ?_; refine LS.done ?_
      simp only [decide_eq_false_iff_not] at g1
      exact J ⟨boolV (by symm; exact decide_eq_false (by omega)), trivial⟩ (by repeat (first | with_reducible exact Out.refl _ _ _ | exact Out.hv | refine Out.upd ?_ | refine Out.hvIn ?_))
  refine zN ?_
  refine RS.cond (fun z => ?_) (fun z => ?_)
  · simp only [decide_eq_true_eq] at z
    obtain ⟨b, o, rfl, hrow⟩ := hr.addr (fun h => by simp [h] at z)
    obtain ⟨hcell, h64⟩ := (hrow.mono k2).int i z.1
    obtain ⟨c, hcd⟩ : ∃ c, l[i]'(z.1) = c := ⟨_, rfl⟩
    rw [hcd] at hcell h64
    obtain ⟨q1, q2⟩ := wmod (c.tdiv 5) 4 (by omega)
    refine zN ?_; refine mvL ?_; refine mvI ?_; refine idx (i := i) ?_; refine ldS hcell ?_
    refine callP ?_ (hc := fun w _ => w9_c _ _ (by omega) (by omega) w)
    refine LS.done ?_
    repeat refine RS.seq ?_
    refine RS.cut (X := List RecD × Nat × PH) 4 59 (fun x => x.1.length ≤ i + 1 ∧ x.2.1 ≤ x.1.length ∧ Oks x.1 ∧ PH.le σ2 x.2.2) (fun x => [(4, .int .i64 x.1.length), (5, .int .i64 x.2.1), (6, .int .i64 i)]) (fun x => x.2.2) (fun x => [tapHP bt x.1 x.2.1]) ?_ (fun J => ?_)
    rotate_left
    · refine zN ?_; refine eqI ?_; refine asB ?_; refine LS.done ?_
      refine zN ?_
      refine RS.cond (fun y => ?_) (fun y => ?_)
      · refine zN ?_; refine mvP ?_
        refine callS _ [tapHP bt rs rs.length] ?_ (hc := fun w' hw => sync_s w' hw)
        refine LS.done ?_
        refine zN ?_; refine mvI ?_; refine asI ?_; refine LS.done ?_
        refine RS.inBlock ?_
        exact J (rs, rs.length, σ2) ⟨by (try dsimp only); omega, Nat.le_refl _, ho, PH.le_refl _⟩ ⟨rfl, rfl, rfl, trivial⟩ (by repeat (first | with_reducible exact Out.refl _ _ _ | exact Out.hv | refine Out.upd ?_ | refine Out.hvIn ?_)) ⟨fun h => h⟩ rfl
      · refine zN ?_; refine eqI ?_; refine asB ?_; refine LS.done ?_
        refine zN ?_
        refine RS.cond (fun y2 => ?_) (fun y2 => ?_)
        · refine zN ?_; refine mvL ?_; refine mvI ?_; refine idx (i := i) ?_; refine ldS hcell ?_; refine quoN ?_
          refine callP ?_ (hc := fun w _ => w9_c _ _ (by omega) (by omega) w)
          refine asI ?_; refine LS.done ?_
          obtain ⟨kp, hkp⟩ : ∃ kp, c.tdiv 5 % 4 = kp := ⟨_, rfl⟩
          rw [hkp] at q1 q2 ⊢
          have hkn := keepN_le kp hn
          have hlk : (rs.take (keepN rs.length n kp)).length = keepN rs.length n kp := by rw [List.length_take]; omega
          refine zN ?_; refine mvP ?_; refine mvI ?_
          refine callQ (fun v _ => v = .tuple #[]) [tapHP bt (rs.take (keepN rs.length n kp)) (keepN rs.length n kp)] (fun v σ3 k3 hq3 => ?_) (hc := fun w' hw => crash_s kp ⟨by omega, by omega⟩ ho (by omega) hn w' hw)
          subst hq3
          refine LS.done ?_
          have hval : IntKind.i64.wrap ((n : Int) + (if IntKind.i64.wrap ((rs.length : Int) - n) < kp then IntKind.i64.wrap ((rs.length : Int) - n) else kp)) = (keepN rs.length n kp : Nat) := by
            rw [wrapEq (x := (rs.length : Int) - n) (by omega) (by omega)]
            have : (n : Int) + (if (rs.length : Int) - n < kp then (rs.length : Int) - n else kp) = (keepN rs.length n kp : Nat) := by unfold keepN; split <;> omega
            rw [this, wrapEq (by omega) (by omega)]
          have hval2 : ((rs.take (keepN rs.length n kp)).length : Int) = (keepN rs.length n kp : Nat) := by rw [hlk]
          refine zN ?_; refine mvI ?_; refine mvI ?_; refine mvI ?_; refine mvI ?_; (first | refine subN ?_ | refine subI ?_); refine minJ ?_; (first | refine addN ?_ | refine addI ?_); refine asI ?_; refine LS.done ?_
          refine zN ?_; refine mvI ?_; refine asI ?_; refine LS.done ?_
          refine RS.inBlock ?_
          exact J (rs.take (keepN rs.length n kp), keepN rs.length n kp, σ3) ⟨by (try dsimp only); omega, by (try dsimp only); omega, oks_take ho _, k3⟩ ⟨congrArg (Value.int .i64) (hval.trans hval2.symm), congrArg (Value.int .i64) hval, rfl, trivial⟩ (by repeat (first | with_reducible exact Out.refl _ _ _ | exact Out.hv | refine Out.upd ?_ | refine Out.hvIn ?_)) ⟨fun h => h⟩ rfl
        · refine zN ?_; refine mvP ?_; refine mvI ?_; (first | refine addN ?_ | refine addI ?_); refine bld (vals := [(0, .int _ _), (1, .int _ _)]) [_, _, _, _, _, _, _, _, _, _] ?_
          have hok : checkP (recK 5 (1 + (i : Int))) = 0 := recK_ok (by omega) (by omega)
          refine callQ (fun v _ => v = .tuple #[]) [tapHP bt (rs ++ [recK 5 (1 + (i : Int))]) n] (fun v σ3 k3 hq3 => ?_) (hc := fun w' hw => write_s (recK 5 (1 + (i : Int))) (recC (recK 5 (1 + (i : Int))) nilV nilV nilV nilV) hok ho (by omega) (lib.mono k2) (fun w _ => recK_rep ⟨by omega, by omega⟩ ⟨by omega, by omega⟩ _) w' hw)
          subst hq3
          refine LS.done ?_
          have hA : (rs.length : Int) + 1 = ((rs ++ [recK 5 (1 + (i : Int))]).length : Nat) := by simp
          have hB : IntKind.i64.wrap ((rs.length : Int) + 1) = ((rs ++ [recK 5 (1 + (i : Int))]).length : Nat) := by rw [wrapEq (by omega) (by omega)]; exact hA
          refine zN ?_; refine mvI ?_; (first | refine addN ?_ | refine addI ?_); refine asI ?_; refine LS.done ?_
          refine RS.inBlock ?_
          exact J (rs ++ [recK 5 (1 + (i : Int))], n, σ3) ⟨by (try dsimp only); rw [List.length_append]; simp; omega, by (try dsimp only); rw [List.length_append]; omega, oks_app ho hok, k3⟩ ⟨by first | exact congrArg (Value.int .i64) hA | exact congrArg (Value.int .i64) hB, rfl, rfl, trivial⟩ (by repeat (first | with_reducible exact Out.refl _ _ _ | exact Out.hv | refine Out.upd ?_ | refine Out.hvIn ?_)) ⟨fun h => h⟩ rfl
    rintro ⟨rs', n', σ6⟩ g4 ⟨h1, h2, h3, h4⟩
    dsimp only at h1 h2 h3 h4
    have k6 := PH.le_trans k2 h4
    refine zN ?_; refine mvP ?_
    refine callS _ [tapHP bt rs' n'] ?_ (hc := fun w' hw => lasting_s w' hw)
    refine mvI ?_; refine neI ?_; rw [show (!decide ((n' : Int) = (n' : Int))) = false by simp]; refine mvB ?_; refine LS.on ?_; refine mvP ?_; refine LS.on ?_
    refine callQ (fun v σ' => RepL σ' v (refL rs')) [tapHP bt rs' n'] (fun v σ7 k7 hr7 => ?_) (hc := fun w' hw => lines_s h3 (by omega) w' hw)
    obtain ⟨a7, c7, rfl⟩ := hr7.form
    have e7 : (refL rs').length = rs'.length := refL_len _
    rw [e7]
    refine LS.on ?_; refine lenL ?_; refine LS.on ?_; refine mvI ?_; refine LS.on ?_; refine neI ?_; rw [show (!decide ((rs'.length : Int) = (rs'.length : Int))) = false by simp]; refine pk (v := .bool _) ?_; refine mvB ?_; refine LS.on ?_; refine mvP ?_; refine LS.on ?_
    refine callQ (fun v σ' => RepL σ' v rs') [tapHP bt rs' n'] (fun v σ8 k8 hr8 => ?_) (hc := fun w' hw => all_s h3 (by omega) (lib.mono (PH.le_trans k6 k7)) w' hw)
    obtain ⟨a8, c8, rfl⟩ := hr8.form
    refine LS.on ?_; refine lenL ?_; refine LS.on ?_; refine mvI ?_; refine LS.on ?_; refine neI ?_; rw [show (!decide ((rs'.length : Int) = (rs'.length : Int))) = false by simp]; refine pk (v := .bool _) ?_; refine LS.done ?_
    refine zN ?_
    refine RS.condF ?_
    refine zN ?_; refine mvI ?_; (first | refine addN ?_ | refine addI ?_); refine asI ?_; refine LS.done ?_
    refine zN ?_
    exact ih (i + 1, rs', n', σ8) ⟨by (try dsimp only); omega, h1, h2, h3, PH.le_trans hle2 (PH.le_trans h4 (PH.le_trans k7 k8))⟩ (by (try dsimp only); omega) ⟨rfl, rfl, rfl, trivial⟩ (by repeat (first | with_reducible exact Out.refl _ _ _ | exact Out.hv | refine Out.upd ?_ | refine Out.hvIn ?_)) ⟨fun h => h⟩ rfl
  · refine zN ?_; refine asB ?_; refine LS.done ?_; refine zN ?_; refine RS.ret1 (v := .bool _) Tryz.func9 fun w hw => ?_
    exact ⟨rfl, hw.below⟩
end Go.Proofs.YtealabaiamaojaaGreatDoor
