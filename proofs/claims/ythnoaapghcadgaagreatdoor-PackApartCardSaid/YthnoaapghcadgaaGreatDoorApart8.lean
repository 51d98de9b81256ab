/- Walk: PackApart. -/
import Derived.Test.YthnoaapghcadgaaGreatDoorPack9
namespace Go.Proofs.YthnoaapghcadgaaGreatDoor
open Go.JW Go.RowKit
theorem pack_apart {S : LedD} (ht : S.taken = []) (g g' : Int) (pods : List PodD) (mode : Int) : packE S g pods mode = packE S g' pods mode ∧ packL S g pods mode = packL S g' pods mode := by
  have h : ∀ g, tk S.taken g = [] := fun g => by rw [ht]; rfl
  exact ⟨by unfold packE; rw [h, h], by unfold packL; rw [h, h]⟩
theorem apart8_c (ns ps : List Int) (gang : Int) (hg : I64 gang) (vn vp : Value) (w : World) (hT : TopsAt (hp w)) (hr : RepL (hp w) vn ns) (hrp : RepL (hp w) vp ps) : Calls Tryz.prog 7 #[vn, vp, .int .i64 gang] w fun e w' => e = .returned (.bool true) ∧ Below w.heap.size w w' := by
  obtain ⟨an, cn, rfl⟩ := hr.form
  obtain ⟨ap, cp, rfl⟩ := hrp.form
  have hpl : (podsOf ps).length ≤ 8 := podsOf_len ps
  obtain ⟨q1, q2⟩ := wmod gang 5 (by omega)
  have hi := bothOf_inv ns []
  have hl3 := bothOf_len ns []
  have ht := bothOf_nil ns
  refine RS.enter Tryz.func7 Tryz.ntmps7 rfl rfl ?_
  (repeat (first | refine RS.seq ?_ | refine RS.region ?_ | refine RS.regionQ ?_ (by kernel_rfl) (by kernel_rfl) | refine RS.skip ?_ | refine RS.inBlock ?_ | refine RS.block ?_ | refine RS.exit ?_)); refine asB ?_; refine LS.done ?_
  (repeat (first | refine RS.seq ?_ | refine RS.region ?_ | refine RS.regionQ ?_ (by kernel_rfl) (by kernel_rfl) | refine RS.skip ?_ | refine RS.inBlock ?_ | refine RS.block ?_ | refine RS.exit ?_)); skip
  refine callP ?_ (hc := fun w' hw => known8_c w' (hT.mono hw.imm))
  refine not_ ?_; refine LS.done ?_
  (repeat (first | refine RS.seq ?_ | refine RS.region ?_ | refine RS.regionQ ?_ (by kernel_rfl) (by kernel_rfl) | refine RS.skip ?_ | refine RS.inBlock ?_ | refine RS.block ?_ | refine RS.exit ?_)); refine RS.condF ?_
  (repeat (first | refine RS.seq ?_ | refine RS.region ?_ | refine RS.regionQ ?_ (by kernel_rfl) (by kernel_rfl) | refine RS.skip ?_ | refine RS.inBlock ?_ | refine RS.block ?_ | refine RS.exit ?_)); refine mvL ?_
  refine bothLL ns [] _ _ hr (RepL.nil _ _ _) (fun bl br σ1 hle1 => ?_)
  refine mvT ?_; refine extr (v := .pointer _) ?_; refine extr (v := .pointer _) ?_; refine asP ?_; refine asP ?_; refine LS.done ?_
  (repeat (first | refine RS.seq ?_ | refine RS.region ?_ | refine RS.regionQ ?_ (by kernel_rfl) (by kernel_rfl) | refine RS.skip ?_ | refine RS.inBlock ?_ | refine RS.block ?_ | refine RS.exit ?_)); refine mvL ?_
  refine bothLL ns [] _ _ (hr.mono hle1) (RepL.nil _ _ _) (fun bl2 br2 σ2 hle2 => ?_)
  refine mvT ?_; refine extr (v := .pointer _) ?_; refine extr (v := .pointer _) ?_; refine asP ?_; refine asP ?_; refine LS.done ?_
  (repeat (first | refine RS.seq ?_ | refine RS.region ?_ | refine RS.regionQ ?_ (by kernel_rfl) (by kernel_rfl) | refine RS.skip ?_ | refine RS.inBlock ?_ | refine RS.block ?_ | refine RS.exit ?_)); refine mvP ?_; refine bin_eql_P ?_; refine mvB ?_; refine LS.on ?_; refine mvP ?_; refine LS.on ?_; refine bin_eql_P ?_; refine pk (v := .bool _) ?_; refine LS.done ?_
  (repeat (first | refine RS.seq ?_ | refine RS.region ?_ | refine RS.regionQ ?_ (by kernel_rfl) (by kernel_rfl) | refine RS.skip ?_ | refine RS.inBlock ?_ | refine RS.block ?_ | refine RS.exit ?_)); refine RS.condF ?_
  obtain ⟨S, hS⟩ : ∃ S, S = bothOf ns [] := ⟨_, rfl⟩
  rw [← hS] at hi hl3 ht
  rw [← hS]
  obtain ⟨E, hE⟩ : ∃ E, packE S 9 (podsOf ps) 0 = E := ⟨_, rfl⟩
  obtain ⟨L, hL⟩ : ∃ L, packL S 9 (podsOf ps) 0 = L := ⟨_, rfl⟩
  have hap := pack_apart ht (1 + gang % 5) 9 (podsOf ps) 0
  rw [hE, hL] at hap
  obtain ⟨S', hS'⟩ : ∃ S', packS S (1 + gang % 5) (podsOf ps) 0 = S' := ⟨_, rfl⟩
  have hi' := hi.pack (by omega) (1 + gang % 5) (podsOf ps) 0 8 hpl (by omega)
  have htl' := packS_len (g := 1 + gang % 5) (pods := podsOf ps) (mode := 0) hi (by omega)
  rw [hS'] at hi' htl'
  have hle02 := PH.le_trans hle1 hle2
  (repeat (first | refine RS.seq ?_ | refine RS.region ?_ | refine RS.regionQ ?_ (by kernel_rfl) (by kernel_rfl) | refine RS.skip ?_ | refine RS.inBlock ?_ | refine RS.block ?_ | refine RS.exit ?_)); refine mvP ?_; refine mvI ?_
  refine callP ?_ (hc := fun w _ => w8_c _ _ (by omega) (by omega) w)
  (first | refine addN ?_ | refine addI ?_); refine mvL ?_
  refine podsLL ps _ (hrp.mono hle02) (fun v41 σ3 hle3 hr41 => ?_)
  obtain ⟨a41, c41, rfl⟩ := hr41.form
  have hle03 := PH.le_trans hle02 hle3
  skip
  refine packLL' (1 + gang % 5) (podsOf ps) _ 0 E L S' hi (by omega) (by omega) (hT.mono hle03) hr41 hap.1 hap.2 hS' (fun v42 σ4 hle4 hr42 => ?_)
  obtain ⟨a42, c42, rfl⟩ := hr42.form
  have hle04 := PH.le_trans hle03 hle4
  refine mvT ?_; refine extr (v := .slice _ _ _) ?_; refine extr (v := .int _ _) ?_; refine asL ?_; refine asI ?_; refine LS.done ?_
  (repeat (first | refine RS.seq ?_ | refine RS.region ?_ | refine RS.regionQ ?_ (by kernel_rfl) (by kernel_rfl) | refine RS.skip ?_ | refine RS.inBlock ?_ | refine RS.block ?_ | refine RS.exit ?_)); refine mvP ?_; refine mvL ?_
  refine podsLL ps _ (hrp.mono hle04) (fun v48 σ5 hle5 hr48 => ?_)
  obtain ⟨a48, c48, rfl⟩ := hr48.form
  have hle05 := PH.le_trans hle04 hle5
  skip
  refine packLL' 9 (podsOf ps) _ 0 E L _ hi (by omega) (by omega) (hT.mono hle05) hr48 hE hL rfl (fun v49 σ6 hle6 hr49 => ?_)
  obtain ⟨a49, c49, rfl⟩ := hr49.form
  have hle06 := PH.le_trans hle05 hle6
  refine mvT ?_; refine extr (v := .slice _ _ _) ?_; refine extr (v := .int _ _) ?_; refine asL ?_; refine asI ?_; refine LS.done ?_
  (repeat (first | refine RS.seq ?_ | refine RS.region ?_ | refine RS.regionQ ?_ (by kernel_rfl) (by kernel_rfl) | refine RS.skip ?_ | refine RS.inBlock ?_ | refine RS.block ?_ | refine RS.exit ?_)); refine mvP ?_; refine mvI ?_
  refine callP ?_ (hc := fun w _ => w8_c _ _ (by omega) (by omega) w)
  (first | refine addN ?_ | refine addI ?_); refine mvL ?_
  refine podsLL ps _ (hrp.mono hle06) (fun v58 σ7 hle7 hr58 => ?_)
  obtain ⟨a58, c58, rfl⟩ := hr58.form
  skip
  refine rpackLL (1 + gang % 5) (by show _ ∧ _; omega) (podsOf ps) _ 0 hi (by omega) (by omega) (by omega) hr58 (fun v59 σ8 hle8 hr59 => ?_)
  rw [hap.2] at hr59
  rw [hap.1, hS']
  obtain ⟨a59, c59, rfl⟩ := hr59.form
  refine mvT ?_; refine extr (v := .slice _ _ _) ?_; refine extr (v := .int _ _) ?_; refine asL ?_; refine asI ?_; refine LS.done ?_
  have hle68 := PH.le_trans hle7 hle8
  have hle48 := PH.le_trans hle5 (PH.le_trans hle6 hle68)
  (repeat (first | refine RS.seq ?_ | refine RS.region ?_ | refine RS.regionQ ?_ (by kernel_rfl) (by kernel_rfl) | refine RS.skip ?_ | refine RS.inBlock ?_ | refine RS.block ?_ | refine RS.exit ?_)); refine mvI ?_; refine mvI ?_; refine eqI ?_; rw [decide_eq_true (show E = E from rfl)]; refine mvB ?_; refine LS.on ?_; refine mvI ?_; refine LS.on ?_; refine mvI ?_; refine LS.on ?_; refine eqI ?_; rw [decide_eq_true (show E = E from rfl)]; refine pk (v := .bool _) ?_; refine mvB ?_; refine LS.on ?_; refine mvL ?_; refine LS.on ?_; refine mvL ?_; refine LS.on ?_
  refine callP ?_ (hc := fun w' hw => same4_c _ _ L w' (hr42.mono (PH.le_trans hle48 hw.imm)) (hr49.mono (PH.le_trans hle68 hw.imm)))
  refine pk (v := .bool _) ?_; refine mvB ?_; refine LS.on ?_; refine mvL ?_; refine LS.on ?_; refine mvL ?_; refine LS.on ?_
  refine callP ?_ (hc := fun w' hw => same4_c _ _ L w' (hr42.mono (PH.le_trans hle48 hw.imm)) (hr59.mono hw.imm))
  refine pk (v := .bool _) ?_; refine mvB ?_; refine LS.on ?_; refine mvP ?_; refine LS.on ?_; refine mvP ?_; refine LS.on ?_
  refine sameLL hi' (by omega) (by omega) (fun σ9 hle9 => ?_)
  refine pk (v := .bool _) ?_; refine asB ?_; refine LS.done ?_
  (repeat (first | refine RS.seq ?_ | refine RS.region ?_ | refine RS.regionQ ?_ (by kernel_rfl) (by kernel_rfl) | refine RS.skip ?_ | refine RS.inBlock ?_ | refine RS.block ?_ | refine RS.exit ?_)); refine RS.ret1 (v := .bool _) Tryz.func7 fun w hw => ?_
  exact ⟨rfl, hw.below⟩
end Go.Proofs.YthnoaapghcadgaaGreatDoor
