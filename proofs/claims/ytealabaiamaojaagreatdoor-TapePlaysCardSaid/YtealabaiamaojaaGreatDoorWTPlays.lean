/- The walk of TapePlays. -/
import Derived.Test.YtealabaiamaojaaGreatDoorQ5
namespace Go.Proofs.YtealabaiamaojaaGreatDoor
open Go.JW Go.RowKit
theorem plays9_c (l : List CallD) (raw : Int) (hraw : I64 raw) (vl : Value) (w : World) (lib : LibAt (hp w)) (hr : RepL (hp w) vl l) :
    Calls Tryz.prog 7 #[vl, .int .i64 raw] w fun e w' => e = .returned (.bool true) ∧ Below w.heap.size w w' := by
  obtain ⟨al, cl, rfl⟩ := hr.form
  have hlen : l.length ≤ 140737488355328 := hr.1
  refine RS.enter Tryz.func7 Tryz.ntmps7 rfl rfl ?_
  refine zN ?_; refine asB ?_; refine LS.done ?_
  refine zN ?_; skip
  refine callQ (fun v _ => v = .bool true) [] (fun v σ1 k1 hq => ?_) (hc := fun w' hw => known9_s lib w' hw)
  subst hq
  refine not_ ?_; refine LS.done ?_
  refine zN ?_
  refine RS.condF ?_
  refine zN ?_; skip
  refine callX (fun b : Nat => .pointer (some ⟨b, 0, none⟩)) (fun _ => σ1) (fun b => [tapHP b [] 0]) (fun _ => True) (fun bt _ => ?_) (fun w' hw => (tnew_s w' hw).mono fun _ _ ⟨b, h1, h2⟩ => ⟨b, h1, h2, trivial⟩)
  refine bld (vals := []) [_, _] ?_; refine box_ (v := .agg _) (cs := [_, _]) (fun b15 => ?_); refine asP ?_; refine asP ?_; refine LS.done ?_
  refine RS.to (K' := [tapHP bt [] 0, refHP b15 [] 0]) ?_ ⟨fun h => SepIn.swap (refNew h)⟩
  refine zN ?_; refine mvP ?_; refine bin_eql_P ?_; refine LS.done ?_
  refine zN ?_
  refine RS.condF ?_
  refine zN ?_; refine asI ?_; refine LS.done ?_
  refine zN ?_
  refine RS.loopF (X := Nat × List RecD × Nat × PH) 7 79 (fun x => x.1 ≤ 60 ∧ x.2.1.length ≤ x.1 ∧ x.2.2.1 ≤ x.2.1.length ∧ Oks x.2.1 ∧ PH.le σ1 x.2.2.2) (fun x => [(7, .int .i64 x.1)]) (fun x => x.2.2.2) (fun x => [tapHP bt x.2.1 x.2.2.1, refHP b15 x.2.1 x.2.2.1]) (fun x => 60 - x.1) (0, [], 0, σ1) ⟨Nat.zero_le _, Nat.zero_le _, Nat.zero_le _, oks_nil, PH.le_refl _⟩ ⟨rfl, trivial⟩ rfl ⟨fun h => h⟩ ?_
  rintro ⟨i, rs, n, σ2⟩ g ⟨hi, hri, hn, ho, hle2⟩ ih
  dsimp only at hi hri hn ho hle2
  have k2 := PH.le_trans k1 hle2
  refine zN ?_; refine mvI ?_; refine mvL ?_; refine lenL ?_; refine ltI ?_; refine mvB ?_
  refine LS.cut 22 26 [(25, .bool (decide (i < l.length ∧ i < 60)))] (fun gg => ?_) (fun J => ?_)
  rotate_left
  · refine LS.part 22 (fun g1 => ?_) (fun g1 => ?_)
    · refine LS.on ?_; refine mvI ?_; refine LS.on ?_; refine ltI ?_; refine pk (v := .bool _) ?_; refine LS.done ?_
      simp only [decide_eq_true_eq] at g1
      exact J ⟨boolV (decide_eq_decide.2 (by omega)), trivial⟩ (by repeat (first | with_reducible exact Out.refl _ _ _ | exact Out.hv | refine Out.upd ?_ | refine Out.hvIn ?_))
    · refine LS.off ?_; refine LS.off ?_; refine pk (v := .bool _) ?_; refine LS.done ?_
      simp only [decide_eq_false_iff_not] at g1
      exact J ⟨boolV (by symm; exact decide_eq_false (by omega)), trivial⟩ (by repeat (first | with_reducible exact Out.refl _ _ _ | exact Out.hv | refine Out.upd ?_ | refine Out.hvIn ?_))
  refine zN ?_
  refine RS.cond (fun z => ?_) (fun z => ?_)
  · simp only [decide_eq_true_eq] at z
    obtain ⟨b, o, rfl, hrow⟩ := hr.addr (fun h => by simp [h] at z)
    obtain ⟨cc, hcell, hrc⟩ := (hrow.mono k2) i z.1
    obtain ⟨c, hcd⟩ : ∃ c, l[i]'(z.1) = c := ⟨_, rfl⟩
    rw [hcd] at hrc
    obtain ⟨vns, rfl, hk64, hn64, hrn⟩ := hrc
    obtain ⟨an, cn, rfl⟩ := hrn.form
    refine zN ?_; refine mvL ?_; refine mvI ?_; refine idx (i := i) ?_; refine ldSA (vs := [.int .i64 c.kind, .int .i64 c.n, .slice an c.ns.length cn]) rfl hcell ?_; refine alloc_ (fun b8 => ?_); refine st (.agg _) _ ?_; refine LS.done ?_
    refine RS.to (K' := [blk b8 (.cells (List.toArray [.int .i64 c.kind, .int .i64 c.n, .slice an c.ns.length cn]) 46 (0, 0)), tapHP bt rs n, refHP b15 rs n]) ?_ ⟨fun h => h⟩
    refine zN ?_; refine fld ?_; refine ld1 (v := .int _ _) ?_
    refine callP ?_ (hc := fun w _ => w9_c _ _ (by omega) (by omega) w)
    refine LS.done ?_
    obtain ⟨q1, q2⟩ := wmod c.kind 8 (by omega)
    obtain ⟨q3, q4⟩ := wmod c.n 6 (by omega)
    repeat refine RS.seq ?_
    refine RS.cut (X := List RecD × Nat × PH) 9 75 (fun x => x.1.length ≤ i + 1 ∧ x.2.1 ≤ x.1.length ∧ Oks x.1 ∧ PH.le σ2 x.2.2) (fun _ => []) (fun x => x.2.2) (fun x => [tapHP bt x.1 x.2.1, refHP b15 x.1 x.2.1]) ?_ (fun J => ?_)
    rotate_left
    · refine zN ?_; refine eqI ?_; refine asB ?_; refine LS.done ?_
      refine zN ?_
      refine RS.cond (fun y => ?_) (fun y => ?_)
      · refine zN ?_; refine mvP ?_
        refine callS _ ([_, tapHP bt rs rs.length, refHP b15 rs n]) ?_ (hc := fun w' hw => (sync_s w' (hw.front [_] [tapHP bt rs n])).mono fun _ _ h => ⟨h.1, h.2.front [_] [_]⟩)
        refine LS.done ?_
        refine zN ?_; refine mvP ?_
        refine callS _ ([_, tapHP bt rs rs.length, refHP b15 rs rs.length]) ?_ (hc := fun w' hw => (sync_x w' (hw.front [_, _] [refHP b15 rs n])).mono fun _ _ h => ⟨h.1, h.2.front [_] [_, _]⟩)
        refine LS.done ?_
        refine RS.inBlock ?_
        exact J (rs, rs.length, σ2) ⟨by (try dsimp only); omega, Nat.le_refl _, ho, PH.le_refl _⟩ trivial (by repeat (first | with_reducible exact Out.refl _ _ _ | exact Out.hv | refine Out.upd ?_ | refine Out.hvIn ?_)) ⟨fun h => h.tail⟩ rfl
      · refine zN ?_; refine eqI ?_; refine asB ?_; refine LS.done ?_
        refine zN ?_
        refine RS.cond (fun y2 => ?_) (fun y2 => ?_)
        · refine zN ?_; refine fld ?_; refine ld1 (v := .int _ _) ?_
          refine callP ?_ (hc := fun w _ => w9_c _ _ (by omega) (by omega) w)
          (first | refine subN ?_ | refine subI ?_); refine asI ?_; refine LS.done ?_
          refine zN ?_; refine fld ?_; refine ld1 (v := .int _ _) ?_
          refine callP ?_ (hc := fun w _ => w9_c _ _ (by omega) (by omega) w)
          refine eqI ?_; refine LS.done ?_
          repeat refine RS.seq ?_
          refine RS.cut (X := Int) 9 75 (fun x => I64 x) (fun x => [(9, .int .i64 x)]) (fun _ => σ2) (fun _ => [blk b8 (.cells (List.toArray [.int .i64 c.kind, .int .i64 c.n, .slice an c.ns.length cn]) 46 (0, 0)), tapHP bt rs n, refHP b15 rs n]) ?_ (fun J2 => ?_)
          rotate_left
          · refine RS.cond (fun y3 => ?_) (fun y3 => ?_)
            · refine zN ?_; refine mvI ?_; refine asI ?_; refine LS.done ?_
              exact J2 raw hraw ⟨rfl, trivial⟩ (by repeat (first | with_reducible exact Out.refl _ _ _ | exact Out.hv | refine Out.upd ?_ | refine Out.hvIn ?_)) ⟨fun h => h⟩ rfl
            · refine RS.skip ?_
              exact J2 (c.n % 6 - 1) ⟨by omega, by omega⟩ ⟨rfl, trivial⟩ (by repeat (first | with_reducible exact Out.refl _ _ _ | exact Out.hv | refine Out.upd ?_ | refine Out.hvIn ?_)) ⟨fun h => h⟩ rfl
          rintro kp g3 hkp
          have hkn := keepN_le kp hn
          have hlk : (rs.take (keepN rs.length n kp)).length = keepN rs.length n kp := by rw [List.length_take]; omega
          refine zN ?_; refine mvP ?_; refine mvI ?_
          refine callQ (fun v _ => v = .tuple #[]) ([_, tapHP bt (rs.take (keepN rs.length n kp)) (keepN rs.length n kp), refHP b15 rs n]) (fun v σ3 k3 hq3 => ?_) (hc := fun w' hw => (crash_s (K := [_, _]) kp hkp ho (by omega) hn w' (hw.front [_] [tapHP bt rs n])).mono fun _ _ ⟨v, σ', h1, h2, h3, h4⟩ => ⟨v, σ', h1, h2, h3, h4.front [_] [_]⟩)
          subst hq3
          refine LS.done ?_
          refine zN ?_; refine mvP ?_; refine mvI ?_
          refine callQ (fun v _ => v = .tuple #[]) ([_, tapHP bt (rs.take (keepN rs.length n kp)) (keepN rs.length n kp), refHP b15 (rs.take (keepN rs.length n kp)) (keepN rs.length n kp)]) (fun v σ4 k4 hq4 => ?_) (hc := fun w' hw => (crash_x (K := [_, _]) kp hkp (by omega) hn w' (hw.front [_, _] [refHP b15 rs n])).mono fun _ _ ⟨v, σ', h1, h2, h3, h4⟩ => ⟨v, σ', h1, h2, h3, h4.front [_] [_, _]⟩)
          subst hq4
          refine LS.done ?_
          refine RS.inBlock ?_
          exact J (rs.take (keepN rs.length n kp), keepN rs.length n kp, σ4) ⟨by (try dsimp only); omega, by (try dsimp only); omega, oks_take ho _, PH.le_trans k3 k4⟩ trivial (by repeat (first | with_reducible exact Out.refl _ _ _ | exact Out.hv | refine Out.upd ?_ | refine Out.hvIn ?_)) ⟨fun h => h.tail⟩ rfl
        · refine zN ?_; refine fld ?_; refine ld1 (v := .int _ _) ?_; refine quoN ?_; refine fld ?_; refine ld1 (v := .int _ _) ?_; refine fld ?_; refine ld1 (v := .slice _ _ _) ?_; refine fld ?_; refine ld1 (v := .int _ _) ?_; refine quoN ?_
          refine callT (fun v τ => ∃ cs, v = .agg (List.toArray cs) ∧ Rep.rep τ cs (makeP (c.kind.tdiv 8) c.n c.ns (c.n.tdiv 7))) (fun v τ3 σ3 hq hN k3 hτ => ?_) (fun w' hw => make_c _ _ _ _ _ w' (hrn.mono hw.imm))
          obtain ⟨r, hrd⟩ : ∃ r, r = makeP (c.kind.tdiv 8) c.n c.ns (c.n.tdiv 7) := ⟨_, rfl⟩
          have hok : checkP r = 0 := by rw [hrd]; exact make_ok _ _ _ _
          rw [← hrd] at hq
          obtain ⟨cs, rfl, hrep⟩ := hq
          have hrep := Rep.mono hrep hτ
          obtain ⟨f, rfl⟩ := rep_form hrep
          refine alloc_ (fun b10 => ?_); refine st (.agg _) _ ?_; refine LS.done ?_
          refine RS.to (K' := [rcW b10 r f, blk b8 (.cells (List.toArray [.int .i64 c.kind, .int .i64 c.n, .slice an c.ns.length cn]) 46 (0, 0)), tapHP bt rs n, refHP b15 rs n]) ?_ ⟨fun h => h⟩
          refine zN ?_; refine mvP ?_; refine ldA (rcV r f) ?_
          refine callQ (fun v _ => v = .tuple #[]) ([_, _, tapHP bt (rs ++ [r]) n, refHP b15 rs n]) (fun v σ4 k4 hq4 => ?_) (hc := fun w' hw => (write_s (K := [_, _, _]) r (rcV r f) hok ho (by omega) (lib.mono (PH.le_trans k2 k3)) (fun w hw => Rep.mono hrep hw.imm) w' (hw.front [_, _] [tapHP bt rs n])).mono fun _ _ ⟨v, σ', h1, h2, h3, h4⟩ => ⟨v, σ', h1, h2, h3, h4.front [_] [_, _]⟩)
          subst hq4
          refine LS.done ?_
          refine zN ?_; refine mvP ?_; refine ldA (rcV r f) ?_
          refine callQ (fun v _ => v = .tuple #[]) ([_, _, tapHP bt (rs ++ [r]) n, refHP b15 (rs ++ [r]) n]) (fun v σ5 k5 hq5 => ?_) (hc := fun w' hw => (write_x (K := [_, _, _]) r (rcV r f) hok (by omega) (Rep.mono hrep k4) w' (hw.front [_, _, _] [refHP b15 rs n])).mono fun _ _ ⟨v, σ', h1, h2, h3, h4⟩ => ⟨v, σ', h1, h2, h3, h4.front [_] [_, _, _]⟩)
          subst hq5
          refine LS.done ?_
          refine RS.inBlock ?_
          exact J (rs ++ [r], n, σ5) ⟨by (try dsimp only); rw [List.length_append]; simp; omega, by (try dsimp only); rw [List.length_append]; omega, oks_app ho hok, PH.le_trans k3 (PH.le_trans k4 k5)⟩ trivial (by repeat (first | with_reducible exact Out.refl _ _ _ | exact Out.hv | refine Out.upd ?_ | refine Out.hvIn ?_)) ⟨fun h => h.tail.tail⟩ rfl
    rintro ⟨rs', n', σ6⟩ g4 ⟨h1, h2, h3, h4⟩
    dsimp only at h1 h2 h3 h4
    have k6 := PH.le_trans k2 h4
    refine zN ?_; refine mvP ?_; refine mvP ?_
    refine callQ (fun v _ => v = .bool true) [tapHP bt rs' n', refHP b15 rs' n'] (fun v σ7 k7 hq => ?_) (hc := fun w' hw => same9_s h3 (by omega) (lib.mono k6) w' hw)
    subst hq
    refine not_ ?_; refine LS.done ?_
    refine zN ?_
    refine RS.condF ?_
    refine zN ?_; refine mvI ?_; (first | refine addN ?_ | refine addI ?_); refine asI ?_; refine LS.done ?_
    refine zN ?_
    exact ih (i + 1, rs', n', σ7) ⟨by (try dsimp only); omega, h1, h2, h3, PH.le_trans hle2 (PH.le_trans h4 k7)⟩ (by (try dsimp only); omega) ⟨rfl, trivial⟩ (by repeat (first | with_reducible exact Out.refl _ _ _ | exact Out.hv | refine Out.upd ?_ | refine Out.hvIn ?_)) ⟨fun h => h⟩ rfl
  · refine zN ?_; refine asB ?_; refine LS.done ?_; refine zN ?_; refine RS.ret1 (v := .bool _) Tryz.func7 fun w hw => ?_
    exact ⟨rfl, hw.below⟩
end Go.Proofs.YtealabaiamaojaaGreatDoor
