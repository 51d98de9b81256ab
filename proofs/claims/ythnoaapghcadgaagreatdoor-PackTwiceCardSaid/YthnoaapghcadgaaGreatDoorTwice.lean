/- Walk: PackTwice. -/
import Derived.Test.YthnoaapghcadgaaGreatDoorPack8
namespace Go.Proofs.YthnoaapghcadgaaGreatDoor
open Go.JW Go.RowKit
theorem pack_again {S : LedD} {g : Int} {pods : List PodD} {mode : Int} {kk : Nat} (hi : LedInv S kk) (hk : kk ≤ 1000000) (h : packE S g pods mode = 0) :
    packE (packS S g pods mode) g pods mode = 4 ∧ packL (packS S g pods mode) g pods mode = [] ∧ packS (packS S g pods mode) g pods mode = packS S g pods mode ∧ giveE (packS S g pods mode).taken g = 0 ∧ (⟨(packS S g pods mode).nodes, giveT (packS S g pods mode).taken g⟩ : LedD) = S := by
  obtain ⟨h1, h2, h3, h4⟩ := packS_take hi hk h
  have hne : ¬ pods.length = 0 := fun e => by
    unfold packE at h
    rw [if_neg (by omega), if_pos e] at h; exact absurd h (by decide)
  obtain ⟨g1, g2⟩ := give_take hi h2
  have ht : tk (takeT S g (packL S g pods mode)) g = packL S g pods mode := by
    rw [takeT, if_pos h2]; unfold tk; rw [asg_aset_same]; rfl
  rw [h1]
  have z : 0 < (tk (takeT S g (packL S g pods mode)) g).length := by rw [ht, h3]; omega
  have e4 : packE ⟨S.nodes, takeT S g (packL S g pods mode)⟩ g pods mode = 4 := by rw [packE, if_pos z]
  exact ⟨e4, by rw [packL, if_pos z], by rw [packS, if_neg (by rw [e4]; decide)], g1, by rw [g2]⟩
theorem twice_c (ns ps : List Int) (mode : Int) (hm : I64 mode) (vn vp : Value) (w : World) (hT : TopsAt (hp w)) (hr : RepL (hp w) vn ns) (hrp : RepL (hp w) vp ps) : Calls Tryz.prog 8 #[vn, vp, .int .i64 mode] w fun e w' => e = .returned (.bool true) ∧ Below w.heap.size w w' := by
  obtain ⟨an, cn, rfl⟩ := hr.form
  obtain ⟨ap, cp, rfl⟩ := hrp.form
  obtain ⟨pods, hpods⟩ : ∃ pods, pods = podsOf ps := ⟨_, rfl⟩
  have hpl : pods.length ≤ 8 := by rw [hpods]; exact podsOf_len ps
  obtain ⟨q1, q2⟩ := wmod mode 3 (by omega)
  refine RS.enter Tryz.func8 Tryz.ntmps8 rfl rfl ?_
  (repeat (first | refine RS.seq ?_ | refine RS.region ?_ | refine RS.regionQ ?_ (by kernel_rfl) (by kernel_rfl) | refine RS.skip ?_ | refine RS.inBlock ?_ | refine RS.block ?_ | refine RS.exit ?_)); refine asB ?_; refine LS.done ?_
  (repeat (first | refine RS.seq ?_ | refine RS.region ?_ | refine RS.regionQ ?_ (by kernel_rfl) (by kernel_rfl) | refine RS.skip ?_ | refine RS.inBlock ?_ | refine RS.block ?_ | refine RS.exit ?_)); skip
  refine callP ?_ (hc := fun w' hw => known8_c w' (hT.mono hw.imm))
  refine not_ ?_; refine LS.done ?_
  (repeat (first | refine RS.seq ?_ | refine RS.region ?_ | refine RS.regionQ ?_ (by kernel_rfl) (by kernel_rfl) | refine RS.skip ?_ | refine RS.inBlock ?_ | refine RS.block ?_ | refine RS.exit ?_)); refine RS.condF ?_
  (repeat (first | refine RS.seq ?_ | refine RS.region ?_ | refine RS.regionQ ?_ (by kernel_rfl) (by kernel_rfl) | refine RS.skip ?_ | refine RS.inBlock ?_ | refine RS.block ?_ | refine RS.exit ?_)); refine mvL ?_
  refine callX (X := Nat × Nat × LedD × PH) (fun x => .tuple #[.pointer (some ⟨x.1, 0, none⟩), .pointer (some ⟨x.2.1, 0, none⟩)]) (fun x => x.2.2.2) (fun x => [ledHP x.1 x.2.2.1, refHP x.2.1 x.2.2.1]) (fun x => PH.le (hp w) x.2.2.2 ∧ LedInv x.2.2.1 9 ∧ x.2.2.1.taken.length ≤ 3 ∧ (∀ p ∈ x.2.2.1.taken, p.1 < (0 : Int))) (fun x hx => ?_) (fun w' hw => (both_s ns [] _ _ hr (RepL.nil _ _ _) hw).mono fun _ _ ⟨bl, br, S, σ', he, hle, hs, h1, h2, h3⟩ => ⟨(bl, br, S, σ'), he, hs, hle, h1, h2, fun p hp => by have := h3 p hp; simp only [List.length_nil] at this; omega⟩)
  obtain ⟨bl, br, S, σ1⟩ := x
  obtain ⟨hle1, hi, htl, hks⟩ := hx
  simp only at hle1 hi htl hks ⊢
  have htk : tk S.taken 9 = [] := keys_none hks (by omega)
  refine mvT ?_; refine extr (v := .pointer _) ?_; refine extr (v := .pointer _) ?_; refine asP ?_; refine asP ?_; refine LS.done ?_
  (repeat (first | refine RS.seq ?_ | refine RS.region ?_ | refine RS.regionQ ?_ (by kernel_rfl) (by kernel_rfl) | refine RS.skip ?_ | refine RS.inBlock ?_ | refine RS.block ?_ | refine RS.exit ?_)); refine mvP ?_; refine bin_eql_P ?_; refine LS.done ?_
  (repeat (first | refine RS.seq ?_ | refine RS.region ?_ | refine RS.regionQ ?_ (by kernel_rfl) (by kernel_rfl) | refine RS.skip ?_ | refine RS.inBlock ?_ | refine RS.block ?_ | refine RS.exit ?_)); refine RS.condF ?_
  (repeat (first | refine RS.seq ?_ | refine RS.region ?_ | refine RS.regionQ ?_ (by kernel_rfl) (by kernel_rfl) | refine RS.skip ?_ | refine RS.inBlock ?_ | refine RS.block ?_ | refine RS.exit ?_)); refine mvI ?_
  refine callP ?_ (hc := fun w _ => w8_c _ _ (by omega) (by omega) w)
  refine asI ?_; refine LS.done ?_
  obtain ⟨m, hmm⟩ : ∃ m, m = mode % 3 := ⟨_, rfl⟩
  rw [← hmm] at q1 q2 ⊢
  (repeat (first | refine RS.seq ?_ | refine RS.region ?_ | refine RS.regionQ ?_ (by kernel_rfl) (by kernel_rfl) | refine RS.skip ?_ | refine RS.inBlock ?_ | refine RS.block ?_ | refine RS.exit ?_)); refine mvP ?_; refine mvL ?_
  refine callT (fun v τ => RepL τ v pods) (fun v30 τ1 σ2 hq1 hN1 hle2 hτ1 => ?_) (fun w' hw => by rw [hpods]; exact pods8_c ps _ w' (hrp.mono (PH.le_trans hle1 hw.imm)))
  obtain ⟨a30, c30, rfl⟩ := hq1.form
  refine mvI ?_
  by_cases e : packE S 9 pods m = 0
  · obtain ⟨k1, k2, k3, k4, k5⟩ := pack_again hi (by omega) e
    have hi1 := hi.pack (by omega) 9 pods m 8 hpl (by omega)
    obtain ⟨S1, hS1⟩ : ∃ S1, S1 = packS S 9 pods m := ⟨_, rfl⟩
    obtain ⟨L, hL⟩ : ∃ L, L = packL S 9 pods m := ⟨_, rfl⟩
    rw [← hS1] at k1 k2 k3 k4 k5 hi1
    refine packLL' 9 pods _ m 0 L S1 hi (by omega) (by omega) (hT.mono (PH.le_trans hle1 hle2)) (hq1.mono hτ1) e hL.symm hS1.symm (fun v32 σ3 hle3 hr32 => ?_)
    obtain ⟨a32, c32, rfl⟩ := hr32.form
    refine mvT ?_; refine extr (v := .slice _ _ _) ?_; refine extr (v := .int _ _) ?_; refine asL ?_; refine asI ?_; refine LS.done ?_
    (repeat (first | refine RS.seq ?_ | refine RS.region ?_ | refine RS.regionQ ?_ (by kernel_rfl) (by kernel_rfl) | refine RS.skip ?_ | refine RS.inBlock ?_ | refine RS.block ?_ | refine RS.exit ?_)); refine mvI ?_; refine neI ?_; refine LS.done ?_
    (repeat (first | refine RS.seq ?_ | refine RS.region ?_ | refine RS.regionQ ?_ (by kernel_rfl) (by kernel_rfl) | refine RS.skip ?_ | refine RS.inBlock ?_ | refine RS.block ?_ | refine RS.exit ?_)); refine RS.condF ?_
    have hle03 := PH.le_trans hle1 (PH.le_trans hle2 hle3)
    (repeat (first | refine RS.seq ?_ | refine RS.region ?_ | refine RS.regionQ ?_ (by kernel_rfl) (by kernel_rfl) | refine RS.skip ?_ | refine RS.inBlock ?_ | refine RS.block ?_ | refine RS.exit ?_)); refine mvP ?_; refine mvL ?_
    refine callT (fun v τ => RepL τ v pods) (fun v44 τ2 σ4 hq2 hN2 hle4 hτ2 => ?_) (fun w' hw => by rw [hpods]; exact pods8_c ps _ w' (hrp.mono (PH.le_trans hle03 hw.imm)))
    obtain ⟨a44, c44, rfl⟩ := hq2.form
    refine mvI ?_
    refine packLL' 9 pods _ m 4 [] S1 hi1 (by omega) (by omega) (hT.mono (PH.le_trans hle03 hle4)) (hq2.mono hτ2) k1 k2 k3 (fun v46 σ5 hle5 hr46 => ?_)
    obtain ⟨a46, c46, rfl⟩ := hr46.form
    refine mvT ?_; refine extr (v := .slice _ _ _) ?_; refine extr (v := .int _ _) ?_; refine asL ?_; refine asI ?_; refine LS.done ?_
    (repeat (first | refine RS.seq ?_ | refine RS.region ?_ | refine RS.regionQ ?_ (by kernel_rfl) (by kernel_rfl) | refine RS.skip ?_ | refine RS.inBlock ?_ | refine RS.block ?_ | refine RS.exit ?_)); refine mvI ?_; refine neI ?_; refine mvB ?_; refine LS.on ?_; refine mvL ?_; refine LS.on ?_; refine lenL ?_; refine LS.on ?_; refine neI ?_; rw [decide_eq_true (show ((([] : List PlaceD).length : Nat) : Int) = 0 from rfl)]; refine pk (v := .bool _) ?_; refine mvB ?_; refine LS.on ?_; refine mvP ?_; refine LS.on ?_
    refine giveL' (S := S1) 9 0 S k4 k5 ?_
    refine LS.on ?_; refine neI ?_; refine pk (v := .bool _) ?_; refine LS.done ?_
    (repeat (first | refine RS.seq ?_ | refine RS.region ?_ | refine RS.regionQ ?_ (by kernel_rfl) (by kernel_rfl) | refine RS.skip ?_ | refine RS.inBlock ?_ | refine RS.block ?_ | refine RS.exit ?_)); refine RS.condF ?_
    have hle05 := PH.le_trans hle03 (PH.le_trans hle4 hle5)
    (repeat (first | refine RS.seq ?_ | refine RS.region ?_ | refine RS.regionQ ?_ (by kernel_rfl) (by kernel_rfl) | refine RS.skip ?_ | refine RS.inBlock ?_ | refine RS.block ?_ | refine RS.exit ?_)); refine mvP ?_; refine mvL ?_
    refine callT (fun v τ => RepL τ v pods) (fun v64 τ3 σ6 hq3 hN3 hle6 hτ3 => ?_) (fun w' hw => by rw [hpods]; exact pods8_c ps _ w' (hrp.mono (PH.le_trans hle05 hw.imm)))
    obtain ⟨a64, c64, rfl⟩ := hq3.form
    refine mvI ?_
    refine packLL' 9 pods _ m 0 L S1 hi (by omega) (by omega) (hT.mono (PH.le_trans hle05 hle6)) (hq3.mono hτ3) e hL.symm hS1.symm (fun v66 σ7 hle7 hr66 => ?_)
    obtain ⟨a66, c66, rfl⟩ := hr66.form
    refine mvT ?_; refine extr (v := .slice _ _ _) ?_; refine extr (v := .int _ _) ?_; refine asL ?_; refine asI ?_; refine LS.done ?_
    (repeat (first | refine RS.seq ?_ | refine RS.region ?_ | refine RS.regionQ ?_ (by kernel_rfl) (by kernel_rfl) | refine RS.skip ?_ | refine RS.inBlock ?_ | refine RS.block ?_ | refine RS.exit ?_)); refine mvI ?_; refine eqI ?_; refine mvB ?_; refine LS.on ?_; refine mvL ?_; refine LS.on ?_; refine mvL ?_; refine LS.on ?_
    refine callP ?_ (hc := fun w' hw => same4_c _ _ L w' (hr66.mono hw.imm) (hr32.mono (PH.le_trans hle4 (PH.le_trans hle5 (PH.le_trans hle6 (PH.le_trans hle7 hw.imm))))))
    refine pk (v := .bool _) ?_; refine asB ?_; refine LS.done ?_
    (repeat (first | refine RS.seq ?_ | refine RS.region ?_ | refine RS.regionQ ?_ (by kernel_rfl) (by kernel_rfl) | refine RS.skip ?_ | refine RS.inBlock ?_ | refine RS.block ?_ | refine RS.exit ?_)); refine RS.ret1 (v := .bool _) Tryz.func8 fun w hw => ?_
    exact ⟨rfl, hw.below⟩
  · refine packLL' 9 pods _ m (packE S 9 pods m) (packL S 9 pods m) S hi (by omega) (by omega) (hT.mono (PH.le_trans hle1 hle2)) (hq1.mono hτ1) rfl rfl (by rw [packS, if_neg e]) (fun v32 σ3 hle3 hr32 => ?_)
    obtain ⟨a32, c32, rfl⟩ := hr32.form
    refine mvT ?_; refine extr (v := .slice _ _ _) ?_; refine extr (v := .int _ _) ?_; refine asL ?_; refine asI ?_; refine LS.done ?_
    (repeat (first | refine RS.seq ?_ | refine RS.region ?_ | refine RS.regionQ ?_ (by kernel_rfl) (by kernel_rfl) | refine RS.skip ?_ | refine RS.inBlock ?_ | refine RS.block ?_ | refine RS.exit ?_)); refine mvI ?_; refine neI ?_; refine LS.done ?_
    (repeat (first | refine RS.seq ?_ | refine RS.region ?_ | refine RS.regionQ ?_ (by kernel_rfl) (by kernel_rfl) | refine RS.skip ?_ | refine RS.inBlock ?_ | refine RS.block ?_ | refine RS.exit ?_)); refine RS.condT ?_ (h := by simp [e])
    (repeat (first | refine RS.seq ?_ | refine RS.region ?_ | refine RS.regionQ ?_ (by kernel_rfl) (by kernel_rfl) | refine RS.skip ?_ | refine RS.inBlock ?_ | refine RS.block ?_ | refine RS.exit ?_)); refine mvP ?_
    refine placesL 9 hi (fun v38 σ4 hle4 hr38 => ?_)
    rw [htk] at hr38
    obtain ⟨a38, c38, rfl⟩ := hr38.form
    refine lenL ?_; refine eqI ?_; refine asB ?_; refine LS.done ?_
    (repeat (first | refine RS.seq ?_ | refine RS.region ?_ | refine RS.regionQ ?_ (by kernel_rfl) (by kernel_rfl) | refine RS.skip ?_ | refine RS.inBlock ?_ | refine RS.block ?_ | refine RS.exit ?_)); refine RS.ret1 (v := .bool _) Tryz.func8 fun w hw => ?_
    exact ⟨rfl, hw.below⟩
end Go.Proofs.YthnoaapghcadgaaGreatDoor
