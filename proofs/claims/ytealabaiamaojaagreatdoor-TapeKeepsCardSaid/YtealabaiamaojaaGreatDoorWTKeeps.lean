/- The walk of TapeKeeps. -/
import Derived.Test.YtealabaiamaojaaGreatDoorQ5
namespace Go.Proofs.YtealabaiamaojaaGreatDoor
open Go.JW Go.RowKit
theorem keeps9_c (l : List Int) (m : List Int) (keep : Int) (_ : I64 keep) (vl vm : Value) (w : World) (lib : LibAt (hp w)) (hr : RepL (hp w) vl l) (hrm : RepL (hp w) vm m) :
    Calls Tryz.prog 8 #[vl, vm, .int .i64 keep] w fun e w' => e = .returned (.bool true) ∧ Below w.heap.size w w' := by
  obtain ⟨al, cl, rfl⟩ := hr.form
  obtain ⟨am, cm, rfl⟩ := hrm.form
  have hlen : l.length ≤ 140737488355328 := hr.1
  have hlenm : m.length ≤ 140737488355328 := hrm.1
  obtain ⟨q1, q2⟩ := wmod keep 25 (by omega)
  refine RS.enter Tryz.func8 Tryz.ntmps8 rfl rfl ?_
  refine zN ?_; refine asB ?_; refine LS.done ?_
  refine zN ?_; skip
  refine callQ (fun v _ => v = .bool true) [] (fun v σ1 k1 hq => ?_) (hc := fun w' hw => known9_s lib w' hw)
  subst hq
  refine not_ ?_; refine LS.done ?_
  refine zN ?_
  refine RS.condF ?_
  refine zN ?_; skip
  refine callX (fun b : Nat => .pointer (some ⟨b, 0, none⟩)) (fun _ => σ1) (fun b => [tapHP b [] 0]) (fun _ => True) (fun bt _ => ?_) (fun w' hw => (tnew_s w' hw).mono fun _ _ ⟨b, h1, h2⟩ => ⟨b, h1, h2, trivial⟩)
  refine asP ?_; refine LS.done ?_
  refine zN ?_; refine mvP ?_; refine bin_eql_P ?_; refine LS.done ?_
  refine zN ?_
  refine RS.condF ?_
  refine RS.nilD 0 ByteArray 9 ?_
  refine zN ?_; refine asL ?_; refine LS.done ?_
  refine zN ?_; refine asI ?_; refine LS.done ?_
  refine zN ?_
  refine RS.loopF (X := List RecD × Value × PH) 8 50 (fun x => x.1.length ≤ 20 ∧ Oks x.1 ∧ PH.le σ1 x.2.2) (fun x => [(8, x.2.1), (9, .int .i64 x.1.length)]) (fun x => x.2.2) (fun x => [tapHP bt x.1 0, rowD 0 9 x.2.1 (refL x.1)]) (fun x => 20 - x.1.length) ([], .slice none 0 0, σ1) ⟨Nat.zero_le _, oks_nil, PH.le_refl _⟩ ⟨rfl, rfl, trivial⟩ rfl ⟨fun h => SepIn.swap h⟩ ?_
  rintro ⟨rs, v8, σ2⟩ g ⟨hi, ho, hle2⟩ ih
  dsimp only at hi ho hle2
  have k2 := PH.le_trans k1 hle2
  refine zN ?_; refine mvI ?_; refine mvL ?_; refine lenL ?_; refine ltI ?_; refine mvB ?_
  refine LS.cut 24 28 [(27, .bool (decide (rs.length < l.length ∧ rs.length < 20)))] (fun gg => ?_) (fun J => ?_)
  rotate_left
  · refine LS.part 24 (fun g1 => ?_) (fun g1 => ?_)
    · refine LS.on ?_; refine mvI ?_; refine LS.on ?_; refine ltI ?_; refine pk (v := .bool _) ?_; refine LS.done ?_
      have g1 : (rs.length : Int) < (l.length : Int) := of_decide_eq_true g1
      exact J ⟨boolV (decide_eq_decide.2 (by (try dsimp only); omega)), trivial⟩ (by repeat (first | with_reducible exact Out.refl _ _ _ | exact Out.hv | refine Out.upd ?_ | refine Out.hvIn ?_))
    · refine LS.off ?_; refine LS.off ?_; refine pk (v := .bool _) ?_; refine LS.done ?_
      have g1 : ¬ (rs.length : Int) < (l.length : Int) := of_decide_eq_false g1
      exact J ⟨boolV (by symm; exact decide_eq_false (by (try dsimp only); omega)), trivial⟩ (by repeat (first | with_reducible exact Out.refl _ _ _ | exact Out.hv | refine Out.upd ?_ | refine Out.hvIn ?_))
  refine zN ?_
  refine RS.cond (fun z => ?_) (fun z => ?_)
  · simp only [decide_eq_true_eq] at z
    refine RS.skip ?_
    obtain ⟨b_, o_, e_, hrow⟩ := hr.addr (fun h => by simp [h] at z)
    subst e_
    obtain ⟨hcell, h64⟩ := (hrow.mono k2).int (rs.length) z.1
    obtain ⟨c, hcd⟩ : ∃ c, l[rs.length]'(z.1) = c := ⟨_, rfl⟩
    rw [hcd] at hcell h64
    have hc7 := tdivRange (b := 7) h64 (by omega)
    obtain ⟨r, hrd⟩ : ∃ r, r = makeP c (rs.length : Nat) l (c.tdiv 7) := ⟨_, rfl⟩
    have hok : checkP r = 0 := by rw [hrd]; exact make_ok _ _ _ _
    refine zD ?_; refine RS.drawK [.free, .free, .free, .free, .free, .free, .free, .free, .free, .free, .free, .ex, .own, .st] ?_ (by kernel_rfl) (by kernel_rfl); refine D.mvL ?_; refine D.mvI ?_; refine D.idx (i := rs.length) ?_; refine D.ldSf hcell ?_; refine D.mvI ?_; refine D.mvL ?_; refine D.mvL ?_; refine D.mvI ?_; refine D.idx (i := rs.length) ?_; refine D.ldSf hcell ?_; refine D.quoN ?_
    refine D.callN (fun v τ => RepA τ v r) ?_ (hc := fun _ σ' w' hle _ hw => by rw [hrd]; exact make_c c (rs.length : Nat) (c.tdiv 7) l _ w' (hr.mono (PH.le_trans k2 (PH.le_trans hle hw.imm))))
    refine D.alloc_ ?_
    refine D.stO (fun us => cellsL (us 41)) ?_ (fun us σ' hle hf => by
      obtain ⟨τ, ⟨cs, h1, h2⟩, _⟩ := hf.2.1
      have e : cellsL (us 41) = cs := by rw [h1]; rfl
      exact ⟨by show (cellsL (us 41)).length = _; rw [e]; exact Rep.len h2, by show (cellsL (us 41)).all _ = true; rw [e]; exact Rep.one h2, rfl⟩)
    refine D.done (fun us σ3 k3 hfs => ?_)
    obtain ⟨τ, ⟨cs, hcs, hrep⟩, hτ, _⟩ := hfs.2.1
    have hrep := Rep.mono hrep hτ
    obtain ⟨f, rfl⟩ := rep_form hrep
    refine RS.openOwn (fun bo ho_ => ?_); refine RS.as 10 (.pointer (some ⟨bo, 0, none⟩)) ho_ ?_
    refine RS.to (K' := rcW bo r f :: [tapHP bt rs 0, rowD 0 9 v8 (refL rs)]) ?_ ⟨fun h => by rw [hcs] at h; exact h⟩
    have k23 := PH.le_trans k2 k3
    refine zN ?_; refine mvP ?_; refine ldA (rcV r f) ?_
    refine callQ (fun v _ => v = .tuple #[]) ([_, tapHP bt (rs ++ [r]) 0, rowD 0 9 v8 (refL rs)]) (fun v σ4 k4 hq4 => ?_) (hc := fun w' hw => (write_s (K := [_, _]) r (rcV r f) hok ho (by omega) (lib.mono k23) (fun w hw => Rep.mono hrep hw.imm) w' (hw.front [_] [tapHP bt (rs) 0])).mono fun _ _ ⟨v, σ', h1, h2, h3, h4⟩ => ⟨v, σ', h1, h2, h3, h4.front [_] [_]⟩)
    subst hq4
    refine LS.done ?_
    have k24 := PH.le_trans k23 k4
    have hcl := strCells (x := B (textP r)) (by rw [B_size]; have := textP_size hok; omega)
    refine zN ?_; refine mv (v := v8) ?_; refine ldA (rcV r f) ?_
    refine callP ?_ (hc := fun w' hw => textD_x _ r w' (Rep.mono hrep (PH.le_trans k4 hw.imm)) hok)
    refine bldS [.string (B (textP r))] [.string (B (textP r))] (fun bb => ?_); refine appD (v := v8) (l' := [B (textP r)]) (vy := .slice (some ⟨bb, 0, none⟩) 1 1) (fun w' hw => ⟨_, srcB hw TSlice.eq, hcl _⟩) (fun va => ?_) (hb := by rw [refL_len]; simp; omega) (hm := by rw [refL_len]; simp; omega); refine as_ (v := va) ?_; refine LS.done ?_
    have hB : (rs ++ [r]).length = rs.length + 1 := by simp
    have hA : IntKind.i64.wrap ((rs.length : Int) + 1) = ((rs ++ [r]).length : Nat) := by rw [wrapEq (by omega) (by omega), hB]; rfl
    refine zN ?_; refine mvI ?_; (first | refine addN ?_ | refine addI ?_); refine asI ?_; refine LS.done ?_
    refine zN ?_
    exact ih (rs ++ [r], va, σ4) ⟨by (try dsimp only); omega, oks_app ho hok, PH.le_trans hle2 (PH.le_trans k3 k4)⟩ (by (try dsimp only); omega) ⟨rfl, congrArg (Value.int .i64) hA, trivial⟩ (by repeat (first | with_reducible exact Out.refl _ _ _ | exact Out.hv | refine Out.upd ?_ | refine Out.hvIn ?_)) ⟨fun h => by simp only [refL_app]; exact h.tail.tail⟩ rfl
  refine RS.exit ?_
  refine zN ?_; refine mvP ?_
  refine callS _ [tapHP bt rs rs.length, rowD 0 9 v8 (refL rs)] ?_ (hc := fun w' hw => sync_s w' hw)
  refine LS.done ?_
  refine zN ?_; refine mvI ?_
  refine callP ?_ (hc := fun w _ => w9_c _ _ (by omega) (by omega) w)
  obtain ⟨kp, hkp⟩ : ∃ kp, keep % 25 = kp := ⟨_, rfl⟩
  rw [hkp] at q1 q2 ⊢
  obtain ⟨kn, hkn⟩ : ∃ kn, kp.toNat = kn := ⟨_, rfl⟩
  refine asI ?_; refine LS.done ?_
  obtain ⟨r0, hr0⟩ : ∃ r0, rs = r0 := ⟨_, rfl⟩
  have ho0 : Oks r0 := hr0 ▸ ho
  have hr0l : r0.length ≤ 20 := hr0 ▸ hi
  rw [hr0]
  have kA := k2
  clear ih z hi ho
  refine zN ?_; refine asI ?_; refine LS.done ?_
  refine zN ?_
  refine RS.loopF (X := List RecD × Value × PH) 8 87 (fun x => x.1.length ≤ 20 ∧ Oks x.1 ∧ PH.le σ2 x.2.2) (fun x => [(8, x.2.1), (11, .int .i64 kp), (12, .int .i64 x.1.length)]) (fun x => x.2.2) (fun x => [tapHP bt (r0 ++ x.1) r0.length, rowD 0 9 x.2.1 (refL (r0 ++ x.1.take kn))]) (fun x => 20 - x.1.length) ([], v8, σ2) ⟨Nat.zero_le _, oks_nil, PH.le_refl _⟩ ⟨rfl, rfl, rfl, trivial⟩ rfl ⟨fun h => by simp only [List.take_nil, List.append_nil]; exact h⟩ ?_
  rintro ⟨rs, v8, σ2⟩ g ⟨hi, hon, hle2⟩ ih
  dsimp only at hi hon hle2
  have k2 := PH.le_trans kA hle2
  have ho : Oks (r0 ++ rs) := fun x hx => (List.mem_append.1 hx).elim (ho0 x) (hon x)
  have hlr : (r0 ++ rs).length ≤ 1000 := by rw [List.length_append]; omega
  refine zN ?_; refine mvI ?_; refine mvL ?_; refine lenL ?_; refine ltI ?_; refine mvB ?_
  refine LS.cut 58 62 [(61, .bool (decide (rs.length < m.length ∧ rs.length < 20)))] (fun gg => ?_) (fun J => ?_)
  rotate_left
  · refine LS.part 58 (fun g1 => ?_) (fun g1 => ?_)
    · refine LS.on ?_; refine mvI ?_; refine LS.on ?_; refine ltI ?_; refine pk (v := .bool _) ?_; refine LS.done ?_
      have g1 : (rs.length : Int) < (m.length : Int) := of_decide_eq_true g1
      exact J ⟨boolV (decide_eq_decide.2 (by (try dsimp only); omega)), trivial⟩ (by repeat (first | with_reducible exact Out.refl _ _ _ | exact Out.hv | refine Out.upd ?_ | refine Out.hvIn ?_))
    · refine LS.off ?_; refine LS.off ?_; refine pk (v := .bool _) ?_; refine LS.done ?_
      have g1 : ¬ (rs.length : Int) < (m.length : Int) := of_decide_eq_false g1
      exact J ⟨boolV (by symm; exact decide_eq_false (by (try dsimp only); omega)), trivial⟩ (by repeat (first | with_reducible exact Out.refl _ _ _ | exact Out.hv | refine Out.upd ?_ | refine Out.hvIn ?_))
  refine zN ?_
  refine RS.cond (fun z => ?_) (fun z => ?_)
  · simp only [decide_eq_true_eq] at z
    refine RS.skip ?_
    obtain ⟨b_, o_, e_, hrow⟩ := hrm.addr (fun h => by simp [h] at z)
    subst e_
    obtain ⟨hcell, h64⟩ := (hrow.mono k2).int (rs.length) z.1
    obtain ⟨c, hcd⟩ : ∃ c, m[rs.length]'(z.1) = c := ⟨_, rfl⟩
    rw [hcd] at hcell h64
    have hc7 := tdivRange (b := 7) h64 (by omega)
    obtain ⟨r, hrd⟩ : ∃ r, r = makeP c (rs.length : Nat) m (c.tdiv 7) := ⟨_, rfl⟩
    have hok : checkP r = 0 := by rw [hrd]; exact make_ok _ _ _ _
    refine zD ?_; refine RS.drawK [.free, .free, .free, .free, .free, .free, .free, .free, .free, .free, .free, .ex, .own, .st] ?_ (by kernel_rfl) (by kernel_rfl); refine D.mvL ?_; refine D.mvI ?_; refine D.idx (i := rs.length) ?_; refine D.ldSf hcell ?_; refine D.mvI ?_; refine D.mvL ?_; refine D.mvL ?_; refine D.mvI ?_; refine D.idx (i := rs.length) ?_; refine D.ldSf hcell ?_; refine D.quoN ?_
    refine D.callN (fun v τ => RepA τ v r) ?_ (hc := fun _ σ' w' hle _ hw => by rw [hrd]; exact make_c c (rs.length : Nat) (c.tdiv 7) m _ w' (hrm.mono (PH.le_trans k2 (PH.le_trans hle hw.imm))))
    refine D.alloc_ ?_
    refine D.stO (fun us => cellsL (us 75)) ?_ (fun us σ' hle hf => by
      obtain ⟨τ, ⟨cs, h1, h2⟩, _⟩ := hf.2.1
      have e : cellsL (us 75) = cs := by rw [h1]; rfl
      exact ⟨by show (cellsL (us 75)).length = _; rw [e]; exact Rep.len h2, by show (cellsL (us 75)).all _ = true; rw [e]; exact Rep.one h2, rfl⟩)
    refine D.done (fun us σ3 k3 hfs => ?_)
    obtain ⟨τ, ⟨cs, hcs, hrep⟩, hτ, _⟩ := hfs.2.1
    have hrep := Rep.mono hrep hτ
    obtain ⟨f, rfl⟩ := rep_form hrep
    refine RS.openOwn (fun bo ho_ => ?_); refine RS.as 13 (.pointer (some ⟨bo, 0, none⟩)) ho_ ?_
    refine RS.to (K' := rcW bo r f :: [tapHP bt (r0 ++ rs) r0.length, rowD 0 9 v8 (refL (r0 ++ rs.take kn))]) ?_ ⟨fun h => by rw [hcs] at h; exact h⟩
    have k23 := PH.le_trans k2 k3
    refine zN ?_; refine mvP ?_; refine ldA (rcV r f) ?_
    refine callQ (fun v _ => v = .tuple #[]) ([_, tapHP bt (r0 ++ rs ++ [r]) r0.length, rowD 0 9 v8 (refL (r0 ++ rs.take kn))]) (fun v σ4 k4 hq4 => ?_) (hc := fun w' hw => (write_s (K := [_, _]) r (rcV r f) hok ho (by omega) (lib.mono k23) (fun w hw => Rep.mono hrep hw.imm) w' (hw.front [_] [tapHP bt (r0 ++ rs) r0.length])).mono fun _ _ ⟨v, σ', h1, h2, h3, h4⟩ => ⟨v, σ', h1, h2, h3, h4.front [_] [_]⟩)
    subst hq4
    refine LS.done ?_
    have k24 := PH.le_trans k23 k4
    have hB : (rs ++ [r]).length = rs.length + 1 := by simp
    have hA : IntKind.i64.wrap ((rs.length : Int) + 1) = ((rs ++ [r]).length : Nat) := by rw [wrapEq (by omega) (by omega), hB]; rfl
    have hap : r0 ++ (rs ++ [r]) = r0 ++ rs ++ [r] := (List.append_assoc ..).symm
    refine zN ?_; refine mvI ?_; refine mvI ?_; refine ltI ?_; refine LS.done ?_
    refine zN ?_
    refine RS.cond (fun y => ?_) (fun y => ?_)
    · have y : (rs.length : Int) < kp := of_decide_eq_true y
      have htk : r0 ++ (rs ++ [r]).take kn = r0 ++ rs.take kn ++ [r] := by rw [List.take_of_length_le (by omega), List.take_of_length_le (show rs.length ≤ kn by omega), List.append_assoc]
      have hrl : (r0 ++ rs.take kn).length ≤ 1000 := by rw [List.length_append, List.length_take]; omega
      have hcl := strCells (x := B (textP r)) (by rw [B_size]; have := textP_size hok; omega)
      refine zN ?_; refine mv (v := v8) ?_; refine ldA (rcV r f) ?_
      refine callP ?_ (hc := fun w' hw => textD_x _ r w' (Rep.mono hrep (PH.le_trans k4 hw.imm)) hok)
      refine bldS [.string (B (textP r))] [.string (B (textP r))] (fun bb => ?_); refine appD (v := v8) (l' := [B (textP r)]) (vy := .slice (some ⟨bb, 0, none⟩) 1 1) (fun w' hw => ⟨_, srcB hw TSlice.eq, hcl _⟩) (fun va => ?_) (hb := by rw [refL_len]; simp; omega) (hm := by rw [refL_len]; simp; omega); refine as_ (v := va) ?_; refine LS.done ?_
      refine zN ?_; refine mvI ?_; (first | refine addN ?_ | refine addI ?_); refine asI ?_; refine LS.done ?_
      refine zN ?_
      exact ih (rs ++ [r], va, σ4) ⟨by (try dsimp only); omega, oks_app hon hok, PH.le_trans hle2 (PH.le_trans k3 k4)⟩ (by (try dsimp only); omega) ⟨rfl, rfl, congrArg (Value.int .i64) hA, trivial⟩ (by repeat (first | with_reducible exact Out.refl _ _ _ | exact Out.hv | refine Out.upd ?_ | refine Out.hvIn ?_)) ⟨fun h => by simp only [hap, htk]; rw [refL_app]; exact h.tail.tail⟩ rfl
    · have y : ¬ (rs.length : Int) < kp := of_decide_eq_false y
      have htk : (rs ++ [r]).take kn = rs.take kn := by rw [List.take_append_of_le_length (by omega)]
      refine RS.skip ?_
      refine zN ?_; refine mvI ?_; (first | refine addN ?_ | refine addI ?_); refine asI ?_; refine LS.done ?_
      refine zN ?_
      exact ih (rs ++ [r], v8, σ4) ⟨by (try dsimp only); omega, oks_app hon hok, PH.le_trans hle2 (PH.le_trans k3 k4)⟩ (by (try dsimp only); omega) ⟨rfl, rfl, congrArg (Value.int .i64) hA, trivial⟩ (by repeat (first | with_reducible exact Out.refl _ _ _ | exact Out.hv | refine Out.upd ?_ | refine Out.hvIn ?_)) ⟨fun h => by simp only [hap, htk]; exact h.tail⟩ rfl
  have hk1 : keepN (r0 ++ rs).length r0.length kp = r0.length + min kn rs.length := by rw [← hkn, List.length_append]; unfold keepN; omega
  have htk : (r0 ++ rs).take (r0.length + min kn rs.length) = r0 ++ rs.take kn := by
    rw [List.take_append, List.take_of_length_le (by omega), show r0.length + min kn rs.length - r0.length = min kn rs.length by omega]
    congr 1
    by_cases h : kn ≤ rs.length
    · rw [Nat.min_eq_left h]
    · rw [Nat.min_eq_right (by omega), List.take_length, List.take_of_length_le (by omega)]
  obtain ⟨r2, hr2⟩ : ∃ r2, r0 ++ rs.take kn = r2 := ⟨_, rfl⟩
  have hl2 : r2.length = r0.length + min kn rs.length := by rw [← hr2, List.length_append, List.length_take]
  have ho2 : Oks r2 := by rw [← hr2, ← htk]; exact oks_take ho _
  rw [hr2] at htk ⊢
  rw [← hl2] at hk1 htk
  have hl3 : r2.length ≤ 1000 := by omega
  have hln : r0.length ≤ (r0 ++ rs).length := by rw [List.length_append]; omega
  refine RS.exit ?_
  refine RS.formD (l := refL r2) v8 (fun a8 c8 e8 _ => ?_) (hf := FindD.tail (i := FindD.head)); subst e8
  refine zN ?_; refine mvP ?_; refine mvI ?_
  refine callQ (fun v _ => v = .tuple #[]) [tapHP bt r2 r2.length, rowD 0 9 (.slice a8 (refL r2).length c8) (refL r2)] (fun v σ3 k3 hq3 => ?_) (hc := fun w' hw => by
    have := crash_s (K := [_]) kp ⟨by omega, by omega⟩ ho (by omega) hln w' hw
    rw [hk1, htk] at this
    exact this)
  subst hq3
  refine LS.done ?_
  refine zN ?_; refine mvP ?_
  refine callQ (fun v σ' => RepL σ' v (refL r2)) ([tapHP bt r2 r2.length, rowD 0 9 (.slice a8 (refL r2).length c8) (refL r2)]) (fun v91 σ4 k4 hr4 => ?_) (hc := fun w' hw => (lines_s (K := [_]) ho2 (by omega) w' (hw.front [] [tapHP bt r2 r2.length])).mono fun _ _ ⟨v, σ', h1, h2, h3, h4⟩ => ⟨v, σ', h1, h2, h3, h4.front [_] []⟩)
  obtain ⟨a9, c9, rfl⟩ := hr4.form
  refine asL ?_; refine LS.done ?_
  refine zN ?_; refine mvP ?_
  have hk2 : keepN r2.length r2.length 0 = r2.length := by unfold keepN; omega
  refine callQ (fun v _ => v = .tuple #[]) [tapHP bt r2 r2.length, rowD 0 9 (.slice a8 (refL r2).length c8) (refL r2)] (fun v σ5 k5 hq5 => ?_) (hc := fun w' hw => by
    have := crash_s (K := [_]) 0 ⟨by decide, by decide⟩ ho2 (by omega) (Nat.le_refl _) w' hw
    rw [hk2, List.take_length] at this
    exact this)
  subst hq5
  refine LS.done ?_
  have e2 : (refL r2).length = r2.length := refL_len _
  refine zN ?_; refine mvL ?_; refine mvL ?_
  refine callP ?_ (hc := fun w' hw => rsame_c _ _ (refL r2) w' (hr4.mono (PH.le_trans k5 hw.imm)) (hw.rowRepD (v := .slice a8 (refL r2).length c8) (by omega) (FindD.tail (i := FindD.head))))
  refine mvB ?_; refine LS.on ?_; refine mvP ?_; refine LS.on ?_
  refine callQ (fun v σ' => RepL σ' v (refL r2)) ([tapHP bt r2 r2.length, rowD 0 9 (.slice a8 (refL r2).length c8) (refL r2)]) (fun v99 σ6 k6 hr6 => ?_) (hc := fun w' hw => (lines_s (K := [_]) ho2 (by omega) w' (hw.front [] [tapHP bt r2 r2.length])).mono fun _ _ ⟨v, σ', h1, h2, h3, h4⟩ => ⟨v, σ', h1, h2, h3, h4.front [_] []⟩)
  obtain ⟨a10, c10, rfl⟩ := hr6.form
  refine LS.on ?_; refine mvL ?_; refine LS.on ?_
  refine callP ?_ (hc := fun w' hw => rsame_c _ _ (refL r2) w' (hr6.mono hw.imm) (hw.rowRepD (v := .slice a8 (refL r2).length c8) (by omega) (FindD.tail (i := FindD.head))))
  refine pk (v := .bool _) ?_; refine mvB ?_; refine LS.on ?_; refine mvP ?_; refine LS.on ?_
  refine callS _ [tapHP bt r2 r2.length, rowD 0 9 (.slice a8 (refL r2).length c8) (refL r2)] ?_ (hc := fun w' hw => lasting_s w' hw)
  refine LS.on ?_; refine mvL ?_; refine LS.on ?_; refine lenL ?_; refine LS.on ?_; refine eqI ?_; rw [decide_eq_true (show (r2.length : Int) = ((refL r2).length : Int) by rw [e2])]; refine pk (v := .bool _) ?_; refine asB ?_; refine LS.done ?_
  refine zN ?_; refine RS.ret1 (v := .bool _) Tryz.func8 fun w hw => ?_
  exact ⟨rfl, hw.below⟩
end Go.Proofs.YtealabaiamaojaaGreatDoor
