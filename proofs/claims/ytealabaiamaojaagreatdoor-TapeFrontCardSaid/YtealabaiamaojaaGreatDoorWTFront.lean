/- The walk of TapeFront. -/
import Derived.Test.YtealabaiamaojaaGreatDoorQ5
namespace Go.Proofs.YtealabaiamaojaaGreatDoor
open Go.JW Go.RowKit
theorem front9_c (l : List Int) (ss : List Bool) (keep : Int) (_ : I64 keep) (vl vs : Value) (w : World) (lib : LibAt (hp w)) (hr : RepL (hp w) vl l) (hrs : RepL (hp w) vs ss) :
    Calls Tryz.prog 10 #[vl, vs, .int .i64 keep] w fun e w' => e = .returned (.bool true) ∧ Below w.heap.size w w' := by
  obtain ⟨al, cl, rfl⟩ := hr.form
  obtain ⟨as_', cs_, rfl⟩ := hrs.form
  have hlen : l.length ≤ 140737488355328 := hr.1
  have hlens : ss.length ≤ 140737488355328 := hrs.1
  obtain ⟨q1, q2⟩ := wmod keep 40 (by omega)
  refine RS.enter Tryz.func10 Tryz.ntmps10 rfl rfl ?_
  refine zN ?_; refine asB ?_; refine LS.done ?_
  refine zN ?_; skip
  refine callQ (fun v _ => v = .bool true) [] (fun v σ1 k1 hq => ?_) (hc := fun w' hw => known9_s lib w' hw)
  subst hq
  refine not_ ?_; refine LS.done ?_
  refine zN ?_
  refine RS.condF ?_
  refine zN ?_; skip
  refine callX (fun b : Nat => .pointer (some ⟨b, 0, none⟩)) (fun _ => σ1) (fun b => [tapHP b [] 0]) (fun _ => True) (fun bt _ => ?_) (fun w' hw => (tnew_s w' hw).mono fun _ _ ⟨b, h1, h2⟩ => ⟨b, h1, h2, trivial⟩)
  refine asP ?_; refine LS.done ?_
  refine zN ?_; refine mvP ?_; refine bin_eql_P ?_; refine LS.done ?_
  refine zN ?_
  refine RS.condF ?_
  refine zN ?_; refine asI ?_; refine LS.done ?_
  refine zN ?_
  refine RS.loopF (X := List RecD × Nat × PH) 8 53 (fun x => x.1.length ≤ 30 ∧ x.2.1 ≤ x.1.length ∧ Oks x.1 ∧ PH.le σ1 x.2.2) (fun x => [(8, .int .i64 x.1.length)]) (fun x => x.2.2) (fun x => [tapHP bt x.1 x.2.1]) (fun x => 30 - x.1.length) ([], 0, σ1) ⟨Nat.zero_le _, Nat.zero_le _, oks_nil, PH.le_refl _⟩ ⟨rfl, trivial⟩ rfl ⟨fun h => h⟩ ?_
  rintro ⟨rs, n, σ2⟩ g ⟨hi, hn, ho, hle2⟩ ih
  dsimp only at hi hn ho hle2
  have k2 := PH.le_trans k1 hle2
  refine zN ?_; refine mvI ?_; refine mvL ?_; refine lenL ?_; refine ltI ?_; refine mvB ?_
  refine LS.cut 21 25 [(24, .bool (decide (rs.length < l.length ∧ rs.length < 30)))] (fun gg => ?_) (fun J => ?_)
  rotate_left
  · refine LS.part 21 (fun g1 => ?_) (fun g1 => ?_)
    · refine LS.on ?_; refine mvI ?_; refine LS.on ?_; refine ltI ?_; refine pk (v := .bool _) ?_; refine LS.done ?_
      have g1 : (rs.length : Int) < (l.length : Int) := of_decide_eq_true g1
      exact J ⟨boolV (decide_eq_decide.2 (by (try dsimp only); omega)), trivial⟩ (by repeat (first | with_reducible exact Out.refl _ _ _ | exact Out.hv | refine Out.upd ?_ | refine Out.hvIn ?_))
    · refine LS.off ?_; refine LS.off ?_; refine pk (v := .bool _) ?_; refine LS.done ?_
      have g1 : ¬ (rs.length : Int) < (l.length : Int) := of_decide_eq_false g1
      exact J ⟨boolV (by symm; exact decide_eq_false (by (try dsimp only); omega)), trivial⟩ (by repeat (first | with_reducible exact Out.refl _ _ _ | exact Out.hv | refine Out.upd ?_ | refine Out.hvIn ?_))
  refine zN ?_
  refine RS.cond (fun z => ?_) (fun z => ?_)
  · simp only [decide_eq_true_eq] at z
    refine RS.skip ?_
    obtain ⟨b_, o_, e_, hrow⟩ := hr.addr (fun h => by simp [h] at z)
    subst e_
    obtain ⟨hcell, h64⟩ := (hrow.mono k2).int (rs.length) z.1
    obtain ⟨c, hcd⟩ : ∃ c, l[rs.length]'(z.1) = c := ⟨_, rfl⟩
    rw [hcd] at hcell h64
    have hc7 := tdivRange (b := 7) h64 (by omega)
    obtain ⟨r, hrd⟩ : ∃ r, r = makeP c (rs.length : Nat) l (c.tdiv 7) := ⟨_, rfl⟩
    have hok : checkP r = 0 := by rw [hrd]; exact make_ok _ _ _ _
    refine zD ?_; refine RS.draw [.free, .free, .free, .free, .ex, .free, .free, .free, .free, .free, .ex, .free, .ex, .eff] [] ?_ (by kernel_rfl) (by kernel_rfl) (by infer_instance); refine D.mvP ?_; refine D.mvL ?_; refine D.mvI ?_; refine D.idx (i := rs.length) ?_; refine D.ldS hcell ?_; refine D.mvI ?_; refine D.mvL ?_; refine D.mvL ?_; refine D.mvI ?_; refine D.idx (i := rs.length) ?_; refine D.ldS hcell ?_; refine D.quoN ?_
    refine D.callN (fun v τ => RepA τ v r) ?_ (hc := fun _ σ' w' hle _ hw => by rw [hrd]; exact make_c c (rs.length : Nat) (c.tdiv 7) l _ w' (hr.mono (PH.le_trans k2 (PH.le_trans hle hw.imm))))
    refine D.callWU (fun us => [.pointer (some ⟨bt, 0, none⟩), us 39]) (fun v _ => v = .tuple #[]) (fun _ _ _ h _ => h) [tapHP bt (rs ++ [r]) n] ?_ (fun us σ' w' X hle hf hw => ?_)
    rotate_left
    · obtain ⟨τ, ⟨cs, h1, h2⟩, h3, _⟩ := hf.1
      have h2 := Rep.mono h2 h3
      show Calls _ _ #[.pointer (some ⟨bt, 0, none⟩), us 39] _ _
      rw [h1]
      exact (write_s (K := [X]) r cs hok ho (by omega) (lib.mono (PH.le_trans k2 hle)) (fun w hw => Rep.mono h2 hw.imm) w' (hw.front [X] [tapHP bt rs n])).mono fun _ _ ⟨v, σ', g1, g2, g3, g4⟩ => ⟨v, σ', g1, g2, g3, g4.front [_] [X]⟩
    refine D.done (fun us σ3 k3 hfs => ?_)
    have hB : (rs ++ [r]).length = rs.length + 1 := by simp
    have hA : IntKind.i64.wrap ((rs.length : Int) + 1) = ((rs ++ [r]).length : Nat) := by rw [wrapEq (by omega) (by omega), hB]; rfl
    refine RS.ow ?_
    obtain ⟨bo, hbo⟩ : ∃ bo : Bool, bo = (decide (rs.length < ss.length) && ss.getD rs.length false) := ⟨_, rfl⟩
    refine zN ?_; refine mvI ?_; refine mvL ?_; refine lenL ?_; refine ltI ?_; refine mvB ?_
    refine LS.cut 45 51 [(50, .bool bo)] (fun gg => ?_) (fun J => ?_)
    rotate_left
    · refine LS.part 45 (fun g1 => ?_) (fun g1 => ?_)
      · have g1 : (rs.length : Int) < (ss.length : Int) := of_decide_eq_true g1
        have g1 : rs.length < ss.length := by omega
        obtain ⟨bs_, os_, es_, hrow2⟩ := hrs.addr (fun h => by simp [h] at g1)
        subst es_
        obtain ⟨c1, hc1, hc2⟩ := (hrow2.mono (PH.le_trans k2 k3)) rs.length g1
        have hc2 : c1 = [.bool ss[rs.length]] := hc2
        have hcell2 := hc1 0 (by exact Nat.zero_lt_one)
        rw [hc2] at hcell2
        refine LS.on ?_; refine mvL ?_; refine LS.on ?_; refine mvI ?_; refine LS.on ?_; refine idx (i := rs.length) ?_; refine LS.on ?_; refine ldS hcell2 ?_; refine pk (v := .bool _) ?_; refine LS.done ?_
        exact J ⟨boolV (by rw [hbo, decide_eq_true g1]; simp [List.getD, g1]), trivial⟩ (by repeat (first | with_reducible exact Out.refl _ _ _ | exact Out.hv | refine Out.upd ?_ | refine Out.hvIn ?_))
      · have g1 : ¬ (rs.length : Int) < (ss.length : Int) := of_decide_eq_false g1
        refine LS.off ?_; refine LS.off ?_; refine LS.off ?_; refine LS.off ?_; refine pk (v := .bool _) ?_; refine LS.done ?_
        exact J ⟨boolV (by rw [hbo, decide_eq_false (by omega)]; rfl), trivial⟩ (by repeat (first | with_reducible exact Out.refl _ _ _ | exact Out.hv | refine Out.upd ?_ | refine Out.hvIn ?_))
    refine zN ?_
    refine RS.cond (fun y => ?_) (fun y => ?_)
    · refine zN ?_; refine mvP ?_
      refine callS _ [tapHP bt (rs ++ [r]) (rs ++ [r]).length] ?_ (hc := fun w' hw => sync_s w' hw)
      refine LS.done ?_
      refine zN ?_; refine mvI ?_; (first | refine addN ?_ | refine addI ?_); refine asI ?_; refine LS.done ?_
      refine zN ?_
      exact ih (rs ++ [r], (rs ++ [r]).length, σ3) ⟨by (try dsimp only); omega, Nat.le_refl _, oks_app ho hok, PH.le_trans hle2 k3⟩ (by (try dsimp only); omega) ⟨congrArg (Value.int .i64) hA, trivial⟩ (by repeat (first | with_reducible exact Out.refl _ _ _ | exact Out.hv | refine Out.upd ?_ | refine Out.hvIn ?_)) ⟨fun h => h⟩ rfl
    · refine RS.skip ?_
      refine zN ?_; refine mvI ?_; (first | refine addN ?_ | refine addI ?_); refine asI ?_; refine LS.done ?_
      refine zN ?_
      exact ih (rs ++ [r], n, σ3) ⟨by (try dsimp only); omega, by (try dsimp only); omega, oks_app ho hok, PH.le_trans hle2 k3⟩ (by (try dsimp only); omega) ⟨congrArg (Value.int .i64) hA, trivial⟩ (by repeat (first | with_reducible exact Out.refl _ _ _ | exact Out.hv | refine Out.upd ?_ | refine Out.hvIn ?_)) ⟨fun h => h⟩ rfl
  obtain ⟨kp, hkp⟩ : ∃ kp, keep % 40 = kp := ⟨_, rfl⟩
  have hkn := keepN_le (kp - 5) hn
  obtain ⟨kn, hkn2⟩ : ∃ kn, keepN rs.length n (kp - 5) = kn := ⟨_, rfl⟩
  rw [hkn2] at hkn
  have hlk : (rs.take kn).length = kn := by rw [List.length_take]; omega
  have e1 : (refL rs).length = rs.length := refL_len _
  have e2 : (refL (rs.take kn)).length = kn := by rw [refL_len, hlk]
  have ho2 := oks_take ho kn
  refine RS.exit ?_
  refine zN ?_; refine mvP ?_
  refine callQ (fun v σ' => RepL σ' v (refL rs)) [tapHP bt rs n] (fun v54 σ3 k3 hr3 => ?_) (hc := fun w' hw => lines_s ho (by omega) w' hw)
  obtain ⟨a9, c9, rfl⟩ := hr3.form
  have hc9 := hr3.cap
  rw [e1]
  refine mvP ?_
  refine callS _ [tapHP bt rs n] ?_ (hc := fun w' hw => lasting_s w' hw)
  refine asL ?_; refine asI ?_; refine LS.done ?_
  refine zN ?_; refine mvP ?_; refine mvI ?_
  refine callP ?_ (hc := fun w _ => w9_c _ _ (by omega) (by omega) w)
  rw [hkp] at q1 q2 ⊢
  (first | refine subN ?_ | refine subI ?_)
  refine callQ (fun v _ => v = .tuple #[]) [tapHP bt (rs.take kn) kn] (fun v σ4 k4 hq4 => ?_) (hc := fun w' hw => by rw [← hkn2]; exact crash_s (kp - 5) ⟨by omega, by omega⟩ ho (by omega) hn w' hw)
  subst hq4
  refine LS.done ?_
  refine zN ?_; refine mvP ?_
  refine callQ (fun v σ' => RepL σ' v (refL (rs.take kn))) [tapHP bt (rs.take kn) kn] (fun v63 σ5 k5 hr5 => ?_) (hc := fun w' hw => lines_s ho2 (by omega) w' hw)
  obtain ⟨a10, c10, rfl⟩ := hr5.form
  rw [e2]
  refine asL ?_; refine LS.done ?_
  have hr6 : RepL σ3 (.slice a9 kn c9) (refL (rs.take kn)) := by
    have := hr3.take kn (by omega)
    rw [← refL_take] at this; exact this
  rw [e2] at hr5
  refine zN ?_; refine mvL ?_; refine lenL ?_; refine mvI ?_; refine geI ?_; rw [decide_eq_true (show (n : Int) ≤ (kn : Int) by omega)]; refine mvB ?_; refine LS.on ?_; refine mvL ?_; refine LS.on ?_; refine lenL ?_; refine LS.on ?_; refine mvL ?_; refine LS.on ?_; refine lenL ?_; refine LS.on ?_; refine leI ?_; rw [decide_eq_true (show (kn : Int) ≤ (rs.length : Int) by omega)]; refine pk (v := .bool _) ?_; refine mvB ?_; refine LS.on ?_; refine mvL ?_; refine LS.on ?_; refine mvL ?_; refine LS.on ?_; refine mvL ?_; refine LS.on ?_; refine lenL ?_; refine LS.on ?_; refine slcHi kn (.slice a9 kn c9) ?_ (hv := by rw [ite_self]); refine LS.on ?_
  refine callP ?_ (hc := fun w' hw => rsame_c _ _ (refL (rs.take kn)) w' (hr5.mono hw.imm) (hr6.mono (PH.le_trans k4 (PH.le_trans k5 hw.imm))))
  refine pk (v := .bool _) ?_; refine mvB ?_; refine LS.on ?_; refine mvP ?_; refine LS.on ?_
  refine callS _ [tapHP bt (rs.take kn) kn] ?_ (hc := fun w' hw => lasting_s w' hw)
  refine LS.on ?_; refine mvL ?_; refine LS.on ?_; refine lenL ?_; refine LS.on ?_; refine eqI ?_; rw [decide_eq_true (show (kn : Int) = (kn : Int) from rfl)]; refine pk (v := .bool _) ?_; refine asB ?_; refine LS.done ?_
  refine zN ?_; refine RS.ret1 (v := .bool _) Tryz.func10 fun w hw => ?_
  exact ⟨rfl, hw.below⟩
end Go.Proofs.YtealabaiamaojaaGreatDoor
