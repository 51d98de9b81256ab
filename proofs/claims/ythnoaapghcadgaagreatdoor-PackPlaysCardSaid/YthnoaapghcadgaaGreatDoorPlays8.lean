/- Walk: PackPlays. -/
import Derived.Test.YthnoaapghcadgaaGreatDoorPack9
namespace Go.Proofs.YthnoaapghcadgaaGreatDoor
open Go.JW Go.RowKit
theorem plays8_c (ns ms ps : List Int) (mode : Int) (hm : I64 mode) (gang : Int) (hg : I64 gang) (vn vm vp : Value) (w : World) (hT : TopsAt (hp w)) (hr : RepL (hp w) vn ns) (hrm : RepL (hp w) vm ms) (hrp : RepL (hp w) vp ps) : Calls Tryz.prog 3 #[vn, vm, vp, .int .i64 mode, .int .i64 gang] w fun e w' => e = .returned (.bool true) ∧ Below w.heap.size w w' := by
  obtain ⟨an, cn, rfl⟩ := hr.form
  obtain ⟨am, cm, rfl⟩ := hrm.form
  obtain ⟨ap, cp, rfl⟩ := hrp.form
  have hpl : (podsOf ps).length ≤ 8 := podsOf_len ps
  obtain ⟨q1, q2⟩ := wmod mode 3 (by omega)
  obtain ⟨r1, r2⟩ := wmod gang 6 (by omega)
  refine RS.enter Tryz.func3 Tryz.ntmps3 rfl rfl ?_
  (repeat (first | refine RS.seq ?_ | refine RS.region ?_ | refine RS.regionQ ?_ (by kernel_rfl) (by kernel_rfl) | refine RS.skip ?_ | refine RS.inBlock ?_ | refine RS.block ?_ | refine RS.exit ?_)); refine asB ?_; refine LS.done ?_
  (repeat (first | refine RS.seq ?_ | refine RS.region ?_ | refine RS.regionQ ?_ (by kernel_rfl) (by kernel_rfl) | refine RS.skip ?_ | refine RS.inBlock ?_ | refine RS.block ?_ | refine RS.exit ?_)); skip
  refine callP ?_ (hc := fun w' hw => known8_c w' (hT.mono hw.imm))
  refine not_ ?_; refine LS.done ?_
  (repeat (first | refine RS.seq ?_ | refine RS.region ?_ | refine RS.regionQ ?_ (by kernel_rfl) (by kernel_rfl) | refine RS.skip ?_ | refine RS.inBlock ?_ | refine RS.block ?_ | refine RS.exit ?_)); refine RS.condF ?_
  (repeat (first | refine RS.seq ?_ | refine RS.region ?_ | refine RS.regionQ ?_ (by kernel_rfl) (by kernel_rfl) | refine RS.skip ?_ | refine RS.inBlock ?_ | refine RS.block ?_ | refine RS.exit ?_)); refine mvL ?_; refine mvL ?_
  refine bothLL ns ms _ _ hr hrm (fun bl br σ1 hle1 => ?_)
  refine mvT ?_; refine extr (v := .pointer _) ?_; refine extr (v := .pointer _) ?_; refine asP ?_; refine asP ?_; refine LS.done ?_
  (repeat (first | refine RS.seq ?_ | refine RS.region ?_ | refine RS.regionQ ?_ (by kernel_rfl) (by kernel_rfl) | refine RS.skip ?_ | refine RS.inBlock ?_ | refine RS.block ?_ | refine RS.exit ?_)); refine mvP ?_; refine bin_eql_P ?_; refine LS.done ?_
  (repeat (first | refine RS.seq ?_ | refine RS.region ?_ | refine RS.regionQ ?_ (by kernel_rfl) (by kernel_rfl) | refine RS.skip ?_ | refine RS.inBlock ?_ | refine RS.block ?_ | refine RS.exit ?_)); refine RS.condF ?_
  (repeat (first | refine RS.seq ?_ | refine RS.region ?_ | refine RS.regionQ ?_ (by kernel_rfl) (by kernel_rfl) | refine RS.skip ?_ | refine RS.inBlock ?_ | refine RS.block ?_ | refine RS.exit ?_)); refine mvI ?_; refine mvI ?_
  refine callP ?_ (hc := fun w _ => w8_c _ _ (by omega) (by omega) w)
  refine bldS [.int _ _, .int _ _] [.int _ _, .int _ _] (fun b33 => ?_); refine asL ?_; refine LS.done ?_
  (repeat (first | refine RS.seq ?_ | refine RS.region ?_ | refine RS.regionQ ?_ (by kernel_rfl) (by kernel_rfl) | refine RS.skip ?_ | refine RS.inBlock ?_ | refine RS.block ?_ | refine RS.exit ?_)); refine asI ?_; refine LS.done ?_
  (repeat (first | refine RS.seq ?_ | refine RS.region ?_ | refine RS.regionQ ?_ (by kernel_rfl) (by kernel_rfl) | refine RS.skip ?_ | refine RS.inBlock ?_ | refine RS.block ?_ | refine RS.exit ?_))
  refine RS.loopF (X := Nat × LedD × PH) 14 82 (fun x => x.1 ≤ 2 ∧ LedInv x.2.1 (9 + 8 * x.1) ∧ x.2.1.taken.length ≤ 3 + x.1 ∧ PH.le (hp w) x.2.2) (fun x => [(14, .int .i64 x.1)]) (fun x => x.2.2) (fun x => [ledHP bl x.2.1, refHP br x.2.1, blk b33 (.cells (List.toArray [.int .i64 mode, .int .i64 (mode % 3)]) 3 (0, 0))]) (fun x => 2 - x.1) (0, bothOf ns ms, σ1) ⟨by omega, bothOf_inv ns ms, bothOf_len ns ms, hle1⟩ ⟨rfl, trivial⟩ rfl ⟨fun h => SepIn.cons_sub (fun _ h => h.swap) h.swap⟩ ?_
  rintro ⟨i, S, σ2⟩ gg ⟨hi2, hi, htl, hle2⟩ ih
  simp only at hi2 hi htl hle2 ih ⊢
  (repeat (first | refine RS.seq ?_ | refine RS.region ?_ | refine RS.regionQ ?_ (by kernel_rfl) (by kernel_rfl) | refine RS.skip ?_ | refine RS.inBlock ?_ | refine RS.block ?_ | refine RS.exit ?_)); refine mvI ?_; refine ltI ?_; refine LS.done ?_
  (repeat (first | refine RS.seq ?_ | refine RS.region ?_ | refine RS.regionQ ?_ (by kernel_rfl) (by kernel_rfl) | refine RS.skip ?_ | refine RS.inBlock ?_ | refine RS.block ?_ | refine RS.exit ?_))
  by_cases hlt : i < 2
  · refine RS.condT ?_ (h := by simp; omega)
    (repeat (first | refine RS.seq ?_ | refine RS.region ?_ | refine RS.regionQ ?_ (by kernel_rfl) (by kernel_rfl) | refine RS.skip ?_ | refine RS.inBlock ?_ | refine RS.block ?_ | refine RS.exit ?_)); refine mvI ?_
    refine callP ?_ (hc := fun w _ => w8_c _ _ (by omega) (by omega) w)
    refine mvI ?_; refine mulI ?_; rw [wrapEq (x := 3 * (i : Int)) (by omega) (by omega)]; (first | refine addN ?_ | refine addI ?_); refine asI ?_; refine LS.done ?_
    obtain ⟨g, hgd⟩ : ∃ g, g = gang % 6 + 3 * (i : Int) := ⟨_, rfl⟩
    have hg64 : I64 g := by show _ ∧ _; omega
    obtain ⟨mi, hmi⟩ : ∃ mi, mi = if i = 0 then mode else mode % 3 := ⟨_, rfl⟩
    have hnth : nth [Value.int .i64 mode, .int .i64 (mode % 3)] (0 + i * 1) = some (.int .i64 mi) := by
      rcases (show i = 0 ∨ i = 1 by omega) with rfl | rfl
      · rw [hmi]; rfl
      · rw [hmi]; rfl
    rw [← hgd]
    obtain ⟨E, hE⟩ : ∃ E, packE S g (podsOf ps) mi = E := ⟨_, rfl⟩
    obtain ⟨L, hL⟩ : ∃ L, packL S g (podsOf ps) mi = L := ⟨_, rfl⟩
    obtain ⟨S', hS'⟩ : ∃ S', packS S g (podsOf ps) mi = S' := ⟨_, rfl⟩
    have hi' := hi.pack (by omega) g (podsOf ps) mi 8 hpl (by omega)
    have htl' := packS_len (g := g) (pods := podsOf ps) (mode := mi) hi (by omega)
    rw [hS'] at hi' htl'
    (repeat (first | refine RS.seq ?_ | refine RS.region ?_ | refine RS.skip ?_ | refine RS.inBlock ?_ | refine RS.block ?_ | refine RS.exit ?_)); refine RS.draw [.free, .free, .free, .ex, .free, .free, .free, .ex, .eff, .ex, .ex, .ex, .ex, .ex] [blk b33 (.cells (List.toArray [.int .i64 mode, .int .i64 (mode % 3)]) 3 (0, 0))] ?_ (by kernel_rfl) (by kernel_rfl) (by infer_instance); refine D.mvP ?_; refine D.mvI ?_; refine D.mvL ?_
    refine D.callN (fun v τ => RepL τ v (podsOf ps)) ?_ (hc := fun us σ' w' hle hf hw => pods8_c ps _ w' (hrp.mono (PH.le_trans hle2 (PH.le_trans hle hw.imm))))
    refine D.mvL ?_; refine D.mvI ?_; refine D.idx (i := i) ?_; refine D.ld1 (v := .int .i64 mi) ?_ (hv := hnth)
    refine D.packT g (podsOf ps) (fun us => us 47) mi E L S' hi (by omega) (by omega) (hT.mono hle2) hE hL hS' ?_ (fun us σ' hle hf => by obtain ⟨τ, h1, h2, _⟩ := hf.1; exact h1.mono h2)
    refine D.mvF8 (TP E L) (TP.mono _ _) ?_ (fun us σ' hle hf => hf.1)
    refine D.exT (TL L) (TL.mono _) ?_ (fun us σ' hle hf => by obtain ⟨v, h1, h2⟩ := hf.1; exact ⟨_, v, h1, rfl, h2⟩)
    refine D.exT (TI E) (TI.mono _) ?_ (fun us σ' hle hf => by obtain ⟨v, h1, h2⟩ := hf.2.1; exact ⟨_, _, h1, rfl, rfl⟩)
    refine D.asU (TL L) (TL.mono _) ?_ (fun us σ' hle hf => hf.2.1)
    refine D.asU (TI E) (TI.mono _) ?_ (fun us σ' hle hf => hf.2.1)
    refine D.done (fun us σ3 hle3 hfs => ?_)
    refine RS.ow ?_
    have h16 : RepL σ3 (us 16) L := hfs.2.1
    have h17 : us 17 = .int .i64 E := hfs.1
    clear hfs
    obtain ⟨a16, c16, e16⟩ := RepL.form h16
    have k3 := hle3
    refine RS.as 16 (.slice a16 L.length c16) (by show us 16 = _; exact e16) ?_
    refine RS.as 17 (.int .i64 E) (by show us 17 = _; exact h17) ?_
    rw [e16] at h16
    (repeat (first | refine RS.seq ?_ | refine RS.region ?_ | refine RS.skip ?_ | refine RS.inBlock ?_ | refine RS.block ?_ | refine RS.exit ?_)); refine RS.draw [.free, .free, .free, .ex, .free, .free, .free, .ex, .eff, .ex, .ex, .ex, .ex, .ex] [blk b33 (.cells (List.toArray [.int .i64 mode, .int .i64 (mode % 3)]) 3 (0, 0))] ?_ (by kernel_rfl) (by kernel_rfl) (by infer_instance); refine D.mvP ?_; refine D.mvI ?_; refine D.mvL ?_
    refine D.callN (fun v τ => RepL τ v (podsOf ps)) ?_ (hc := fun us σ' w' hle hf hw => pods8_c ps _ w' (hrp.mono (PH.le_trans hle2 (PH.le_trans k3 (PH.le_trans hle hw.imm)))))
    refine D.mvL ?_; refine D.mvI ?_; refine D.idx (i := i) ?_; refine D.ld1 (v := .int .i64 mi) ?_ (hv := hnth)
    refine D.rpackT g hg64 (podsOf ps) (fun us => us 59) mi E L S' hi (by omega) (by omega) (by omega) hE hL hS' ?_ (fun us σ' hle hf => by obtain ⟨τ, h1, h2, _⟩ := hf.1; exact h1.mono h2)
    refine D.mvF8 (TP E L) (TP.mono _ _) ?_ (fun us σ' hle hf => hf.1)
    refine D.exT (TL L) (TL.mono _) ?_ (fun us σ' hle hf => by obtain ⟨v, h1, h2⟩ := hf.1; exact ⟨_, v, h1, rfl, h2⟩)
    refine D.exT (TI E) (TI.mono _) ?_ (fun us σ' hle hf => by obtain ⟨v, h1, h2⟩ := hf.2.1; exact ⟨_, _, h1, rfl, rfl⟩)
    refine D.asU (TL L) (TL.mono _) ?_ (fun us σ' hle hf => hf.2.1)
    refine D.asU (TI E) (TI.mono _) ?_ (fun us σ' hle hf => hf.2.1)
    refine D.done (fun us σ4 hle4 hfs => ?_)
    refine RS.ow ?_
    have h18 : RepL σ4 (us 18) L := hfs.2.1
    have h19 : us 19 = .int .i64 E := hfs.1
    clear hfs
    obtain ⟨a18, c18, e18⟩ := RepL.form h18
    refine RS.as 18 (.slice a18 L.length c18) (by show us 18 = _; exact e18) ?_
    refine RS.as 19 (.int .i64 E) (by show us 19 = _; exact h19) ?_
    rw [e18] at h18
    (repeat (first | refine RS.seq ?_ | refine RS.region ?_ | refine RS.regionQ ?_ (by kernel_rfl) (by kernel_rfl) | refine RS.skip ?_ | refine RS.inBlock ?_ | refine RS.block ?_ | refine RS.exit ?_)); refine mvI ?_; refine mvI ?_; refine neI ?_; rw [decide_eq_true (show E = E from rfl)]; refine mvB ?_; refine LS.on ?_; refine mvL ?_; refine LS.on ?_; refine mvL ?_; refine LS.on ?_
    refine callP ?_ (hc := fun w' hw => same4_c _ _ L w' (h16.mono (PH.le_trans hle4 hw.imm)) (h18.mono hw.imm))
    refine LS.on ?_; refine not_ ?_; refine pk (v := .bool _) ?_; refine mvB ?_; refine LS.on ?_; refine mvP ?_; refine LS.on ?_; refine mvP ?_; refine LS.on ?_
    refine sameLL hi' (by omega) (by omega) (fun σ5 hle5 => ?_)
    refine LS.on ?_; refine not_ ?_; refine pk (v := .bool _) ?_; refine LS.done ?_
    (repeat (first | refine RS.seq ?_ | refine RS.region ?_ | refine RS.regionQ ?_ (by kernel_rfl) (by kernel_rfl) | refine RS.skip ?_ | refine RS.inBlock ?_ | refine RS.block ?_ | refine RS.exit ?_)); refine RS.condF ?_
    refine RS.skip ?_
    (repeat (first | refine RS.seq ?_ | refine RS.region ?_ | refine RS.regionQ ?_ (by kernel_rfl) (by kernel_rfl) | refine RS.skip ?_ | refine RS.inBlock ?_ | refine RS.block ?_ | refine RS.exit ?_)); refine mvI ?_; (first | refine addN ?_ | refine addI ?_); refine asI ?_; refine LS.done ?_; (repeat (first | refine RS.seq ?_ | refine RS.region ?_ | refine RS.regionQ ?_ (by kernel_rfl) (by kernel_rfl) | refine RS.skip ?_ | refine RS.inBlock ?_ | refine RS.block ?_ | refine RS.exit ?_))
    exact ih (i + 1, S', σ5) ⟨by (try dsimp only); omega, hi'.up (by omega), by (try dsimp only); omega, PH.le_trans hle2 (PH.le_trans k3 (PH.le_trans hle4 hle5))⟩ (by (try dsimp only); omega) ⟨rfl, trivial⟩ (by repeat (first | with_reducible exact Out.refl _ _ _ | exact Out.hv | refine Out.upd ?_ | refine Out.hvIn ?_)) ⟨fun h => h⟩ rfl
  · refine RS.condF ?_ (h := by simp; omega)
    (repeat (first | refine RS.seq ?_ | refine RS.region ?_ | refine RS.regionQ ?_ (by kernel_rfl) (by kernel_rfl) | refine RS.skip ?_ | refine RS.inBlock ?_ | refine RS.block ?_ | refine RS.exit ?_)); refine asB ?_; refine LS.done ?_; (repeat (first | refine RS.seq ?_ | refine RS.region ?_ | refine RS.regionQ ?_ (by kernel_rfl) (by kernel_rfl) | refine RS.skip ?_ | refine RS.inBlock ?_ | refine RS.block ?_ | refine RS.exit ?_)); refine RS.ret1 (v := .bool _) Tryz.func3 fun w hw => ?_
    exact ⟨rfl, hw.below⟩
end Go.Proofs.YthnoaapghcadgaaGreatDoor
