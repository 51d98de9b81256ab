/- The walk of TapeAgain. -/
import Derived.Test.YtealabaiamaojaaGreatDoorQ5
namespace Go.Proofs.YtealabaiamaojaaGreatDoor
open Go.JW Go.RowKit
theorem again9_c (l : List Int) (first : Int) (_ : I64 first) (second : Int) (_ : I64 second) (vl : Value) (w : World) (lib : LibAt (hp w)) (hr : RepL (hp w) vl l) :
    Calls Tryz.prog 5 #[vl, .int .i64 first, .int .i64 second] w fun e w' => e = .returned (.bool true) ∧ Below w.heap.size w w' := by
  obtain ⟨al, cl, rfl⟩ := hr.form
  have hlen : l.length ≤ 140737488355328 := hr.1
  obtain ⟨q1, q2⟩ := wmod first 20 (by omega)
  obtain ⟨q3, q4⟩ := wmod second 9 (by omega)
  refine RS.enter Tryz.func5 Tryz.ntmps5 rfl rfl ?_
  refine zN ?_; refine asB ?_; refine LS.done ?_
  refine zN ?_; skip
  refine callQ (fun v _ => v = .bool true) [] (fun v σ1 k1 hq => ?_) (hc := fun w' hw => known9_s lib w' hw)
  subst hq
  refine not_ ?_; refine LS.done ?_
  refine zN ?_
  refine RS.condF ?_
  refine zN ?_; skip
  refine callX (fun b : Nat => .pointer (some ⟨b, 0, none⟩)) (fun _ => σ1) (fun b => [tapHP b [] 0]) (fun _ => True) (fun bt _ => ?_) (fun w' hw => (tnew_s w' hw).mono fun _ _ ⟨b, h1, h2⟩ => ⟨b, h1, h2, trivial⟩)
  refine asP ?_; refine LS.done ?_
  refine zN ?_; refine mvP ?_; refine bin_eql_P ?_; refine LS.done ?_
  refine zN ?_
  refine RS.condF ?_
  obtain ⟨m, hm⟩ : ∃ m, min l.length 15 = m := ⟨_, rfl⟩
  have hmI : (if (15 : Int) < (l.length : Int) then 15 else (l.length : Int)) = (m : Int) := by rw [← hm]; split <;> omega
  refine zN ?_; refine mvL ?_; refine lenL ?_; refine minJ ?_; rw [hmI]; refine asI ?_; refine LS.done ?_
  refine zN ?_; refine asI ?_; refine LS.done ?_
  refine zN ?_
  refine RS.loopF (X := List RecD × PH) 9 34 (fun x => x.1.length ≤ m ∧ Oks x.1 ∧ PH.le σ1 x.2) (fun x => [(9, .int .i64 x.1.length)]) (fun x => x.2) (fun x => [tapHP bt x.1 0]) (fun x => m - x.1.length) ([], σ1) ⟨Nat.zero_le _, oks_nil, PH.le_refl _⟩ ⟨rfl, trivial⟩ rfl ⟨fun h => h⟩ ?_
  rintro ⟨rs, σ2⟩ g ⟨hi, ho, hle2⟩ ih
  dsimp only at hi ho hle2
  have k2 := PH.le_trans k1 hle2
  refine zN ?_; refine mvI ?_; refine mvI ?_; refine ltI ?_; refine LS.done ?_
  refine zN ?_
  refine RS.cond (fun z => ?_) (fun z => ?_)
  · have z : (rs.length : Int) < (m : Int) := of_decide_eq_true z
    have hxl : rs.length < l.length := by omega
    obtain ⟨b, o, rfl, hrow⟩ := hr.addr (fun h => by simp [h] at hxl)
    obtain ⟨hcell, h64⟩ := (hrow.mono k2).int rs.length hxl
    obtain ⟨c, hcd⟩ : ∃ c, l[rs.length] = c := ⟨_, rfl⟩
    rw [hcd] at hcell h64
    obtain ⟨p1, p2⟩ := wmod c 999999 (by omega)
    refine zN ?_; refine mvP ?_; refine mvL ?_; refine mvI ?_; refine idx (i := rs.length) ?_; refine ldS hcell ?_
    refine callP ?_ (hc := fun w _ => w9_c _ _ (by omega) (by omega) w)
    (first | refine addN ?_ | refine addI ?_); refine bld (vals := [(0, .int _ _), (1, .int _ _)]) [_, _, _, _, _, _, _, _, _, _] ?_
    have hok : checkP (recK 4 (1 + c % 999999)) = 0 := recK_ok (by omega) (by omega)
    refine callQ (fun v _ => v = .tuple #[]) [tapHP bt (rs ++ [recK 4 (1 + c % 999999)]) 0] (fun v σ3 k3 hq3 => ?_) (hc := fun w' hw => write_s (recK 4 (1 + c % 999999)) (recC (recK 4 (1 + c % 999999)) nilV nilV nilV nilV) hok ho (by omega) (lib.mono k2) (fun w _ => recK_rep ⟨by omega, by omega⟩ ⟨by omega, by omega⟩ _) w' hw)
    subst hq3
    refine LS.done ?_
    refine zN ?_; refine mvI ?_; (first | refine addN ?_ | refine addI ?_); refine asI ?_; refine LS.done ?_
    refine zN ?_
    have hA : (rs.length : Int) + 1 = ((rs ++ [recK 4 (1 + c % 999999)]).length : Nat) := by simp
    have hB : (rs ++ [recK 4 (1 + c % 999999)]).length = rs.length + 1 := by simp
    exact ih (rs ++ [recK 4 (1 + c % 999999)], σ3) ⟨by (try dsimp only); omega, oks_app ho hok, PH.le_trans hle2 k3⟩ (by (try dsimp only); omega) ⟨congrArg (Value.int .i64) ((wrapEq (x := (rs.length : Int) + 1) (by omega) (by omega)).trans hA), trivial⟩ (by repeat (first | with_reducible exact Out.refl _ _ _ | exact Out.hv | refine Out.upd ?_ | refine Out.hvIn ?_)) ⟨fun h => h⟩ rfl
  have z : ¬ (rs.length : Int) < (m : Int) := of_decide_eq_false z
  obtain rfl : rs.length = m := by omega
  refine RS.exit ?_
  obtain ⟨kp, hkp⟩ : ∃ kp, first % 20 = kp := ⟨_, rfl⟩
  refine zN ?_; refine mvI ?_
  refine callP ?_ (hc := fun w _ => w9_c _ _ (by omega) (by omega) w)
  rw [hkp] at q1 q2 ⊢
  refine asI ?_; refine LS.done ?_
  have hkn := keepN_le kp (Nat.zero_le rs.length)
  obtain ⟨kn, hkk⟩ : ∃ kn, keepN rs.length 0 kp = kn := ⟨_, rfl⟩
  have hlk : (rs.take kn).length = kn := by rw [List.length_take]; omega
  have hmin : (if (rs.length : Int) < kp then (rs.length : Int) else kp) = (kn : Int) := by rw [← hkk]; unfold keepN; split <;> omega
  refine zN ?_; refine mvP ?_; refine mvI ?_
  refine callQ (fun v _ => v = .tuple #[]) [tapHP bt (rs.take kn) kn] (fun v σ3 k3 hq3 => ?_) (hc := fun w' hw => by rw [← hkk]; exact crash_s kp ⟨by omega, by omega⟩ ho (by omega) (Nat.zero_le _) w' hw)
  subst hq3
  refine LS.done ?_
  have ho2 := oks_take ho kn
  refine zN ?_; refine mvP ?_
  refine callQ (fun v σ' => RepL σ' v (rs.take kn)) [tapHP bt (rs.take kn) kn] (fun v σ4 k4 hr4 => ?_) (hc := fun w' hw => all_s ho2 (by omega) (lib.mono (PH.le_trans k2 k3)) w' hw)
  obtain ⟨a4, c4, rfl⟩ := hr4.form
  rw [hlk]
  refine lenL ?_; refine asI ?_; refine LS.done ?_
  refine zN ?_; refine mvP ?_; refine mvI ?_
  refine callP ?_ (hc := fun w _ => w9_c _ _ (by omega) (by omega) w)
  (first | refine subN ?_ | refine subI ?_)
  have hk2 : keepN (rs.take kn).length kn (0 - second % 9) = kn := by unfold keepN; omega
  have htt : (rs.take kn).take kn = rs.take kn := by rw [List.take_take, Nat.min_self]
  refine callQ (fun v _ => v = .tuple #[]) [tapHP bt (rs.take kn) kn] (fun v σ5 k5 hq5 => ?_) (hc := fun w' hw => by
    have := crash_s (0 - second % 9) ⟨by omega, by omega⟩ ho2 (by omega) (by omega) w' hw
    rw [hk2, htt] at this
    exact this)
  subst hq5
  refine LS.done ?_
  have k35 := PH.le_trans k2 (PH.le_trans k3 (PH.le_trans k4 k5))
  refine zN ?_; refine mvI ?_; refine mvI ?_; refine mvI ?_; refine minJ ?_; rw [hmin]; refine eqI ?_; rw [decide_eq_true (show (kn : Int) = (kn : Int) from rfl)]; refine mvB ?_; refine LS.on ?_; refine mvP ?_; refine LS.on ?_
  refine callQ (fun v σ' => RepL σ' v (rs.take kn)) [tapHP bt (rs.take kn) kn] (fun v σ6 k6 hr6 => ?_) (hc := fun w' hw => all_s ho2 (by omega) (lib.mono k35) w' hw)
  obtain ⟨a6, c6, rfl⟩ := hr6.form
  rw [hlk]
  refine LS.on ?_; refine lenL ?_; refine LS.on ?_; refine mvI ?_; refine LS.on ?_; refine eqI ?_; rw [decide_eq_true (show (kn : Int) = (kn : Int) from rfl)]; refine pk (v := .bool _) ?_; refine mvB ?_; refine LS.on ?_; refine mvP ?_; refine LS.on ?_
  refine callS _ [tapHP bt (rs.take kn) kn] ?_ (hc := fun w' hw => lasting_s w' hw)
  refine LS.on ?_; refine mvI ?_; refine LS.on ?_; refine eqI ?_; rw [decide_eq_true (show (kn : Int) = (kn : Int) from rfl)]; refine pk (v := .bool _) ?_; refine asB ?_; refine LS.done ?_
  refine zN ?_; refine RS.ret1 (v := .bool _) Tryz.func5 fun w hw => ?_
  exact ⟨rfl, hw.below⟩
end Go.Proofs.YtealabaiamaojaaGreatDoor
