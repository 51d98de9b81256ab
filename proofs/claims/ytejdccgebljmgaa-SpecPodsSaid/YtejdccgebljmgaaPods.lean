/- The law SpecPods answers true. -/
import Derived.Test.YtejdccgebljmgaaRight
namespace Go.Proofs.Ytejdccgebljmgaa
open Go.JW Go.RowKit

theorem pods_c (cs : List Value) (raw : PodD) (n shards which k : Int) (v : Value) (ns : List Int) (w : World) (hr : Rep.rep (hp w) cs raw) (hn : I64 n) (hk : I64 k) (hns : RepL (hp w) v ns) :
    Calls Try.prog 3 #[.agg cs.toArray, .int .i64 n, .int .i64 shards, .int .i64 which, .int .i64 k, v] w fun e w' => e = .returned (.bool true) ∧ Below w.heap.size w w' := by
  have hr0 := hr
  obtain ⟨vp0, vb0, rfl, hn0, hs0, hc0, hm0, hp0, hb0⟩ := hr
  obtain ⟨ap0, cp0, rfl⟩ := hp0.form
  obtain ⟨ab0, cb0, rfl⟩ := hb0.form
  obtain ⟨an, cn, rfl⟩ := hns.form
  obtain ⟨a1, a2⟩ := wmod shards 4 (by omega)
  obtain ⟨b1, b2⟩ := wmod which 6 (by omega)
  obtain ⟨d1, d2⟩ := wmod k 5 (by omega)
  obtain ⟨d3, d4⟩ := wmod k 4 (by omega)
  obtain ⟨d5, d6⟩ := wmod k 6 (by omega)
  have hint : I64 ([-1, 0, 1099511627776, 1099511627777, edge k].getD (k % 5).toNat 0) := getD_in (by have := edge_in k; intro x hx; simp at hx; omega) _
  refine RS.enter Try.func3 Try.ntmps3 rfl rfl ?_
  (repeat (first | refine RS.seq ?_ | refine RS.region ?_ | refine RS.regionQ ?_ (by kernel_rfl) (by kernel_rfl) | refine RS.skip ?_ | refine RS.inBlock ?_ | refine RS.block ?_ | refine RS.exit ?_)); refine box_ (v := .agg _) (cs := [_, _, _, _, _, _, _]) (fun b6 => ?_); refine asB ?_; refine LS.done ?_
  (repeat (first | refine RS.seq ?_ | refine RS.region ?_ | refine RS.regionQ ?_ (by kernel_rfl) (by kernel_rfl) | refine RS.skip ?_ | refine RS.inBlock ?_ | refine RS.block ?_ | refine RS.exit ?_)); skip
  refine callP ?_ (hc := fun w _ => known_c w)
  refine not_ ?_; refine LS.done ?_
  (repeat (first | refine RS.seq ?_ | refine RS.region ?_ | refine RS.regionQ ?_ (by kernel_rfl) (by kernel_rfl) | refine RS.skip ?_ | refine RS.inBlock ?_ | refine RS.block ?_ | refine RS.exit ?_)); refine RS.condF ?_
  (repeat (first | refine RS.seq ?_ | refine RS.region ?_ | refine RS.regionQ ?_ (by kernel_rfl) (by kernel_rfl) | refine RS.skip ?_ | refine RS.inBlock ?_ | refine RS.block ?_ | refine RS.exit ?_)); refine ldA [_, _, _, _, _, _, _] ?_
  refine callP ?_ (hc := fun w hw => fewPod_c _ raw w (Rep.mono hr0 hw.imm))
  refine not_ ?_; refine LS.done ?_
  (repeat (first | refine RS.seq ?_ | refine RS.region ?_ | refine RS.regionQ ?_ (by kernel_rfl) (by kernel_rfl) | refine RS.skip ?_ | refine RS.inBlock ?_ | refine RS.block ?_ | refine RS.exit ?_)); refine RS.cond (fun c => ?_) (fun c => ?_)
  · (repeat (first | refine RS.seq ?_ | refine RS.region ?_ | refine RS.regionQ ?_ (by kernel_rfl) (by kernel_rfl) | refine RS.skip ?_ | refine RS.inBlock ?_ | refine RS.block ?_ | refine RS.exit ?_)); refine asB ?_; refine LS.done ?_; (repeat (first | refine RS.seq ?_ | refine RS.region ?_ | refine RS.regionQ ?_ (by kernel_rfl) (by kernel_rfl) | refine RS.skip ?_ | refine RS.inBlock ?_ | refine RS.block ?_ | refine RS.exit ?_)); refine RS.ret1 (v := .bool _) Try.func3 fun w hw => ?_
    exact ⟨rfl, hw.below⟩
  clear c
  (repeat (first | refine RS.seq ?_ | refine RS.region ?_ | refine RS.regionQ ?_ (by kernel_rfl) (by kernel_rfl) | refine RS.skip ?_ | refine RS.inBlock ?_ | refine RS.block ?_ | refine RS.exit ?_)); refine mvI ?_
  refine callP ?_ (hc := fun w _ => w3_c _ _ (by omega) (by omega) w)
  (first | refine addN ?_ | refine addI ?_); refine asI ?_; refine LS.done ?_
  obtain ⟨s, hs⟩ : ∃ s, s = 1 + shards % 4 := ⟨_, rfl⟩
  refine RS.as 13 (.int .i64 s) (by rw [hs]; rfl) ?_
  have hs1 : 0 < s ∧ s ≤ 4 := by omega
  have hint4 : I64 ([0, s, s + 1, k].getD (k % 4).toNat 0) := getD_in (by intro x hx; simp at hx; omega) _
  clear hs
  (repeat (first | refine RS.seq ?_ | refine RS.region ?_ | refine RS.regionQ ?_ (by kernel_rfl) (by kernel_rfl) | refine RS.skip ?_ | refine RS.inBlock ?_ | refine RS.block ?_ | refine RS.exit ?_)); refine mvI ?_; refine mvI ?_
  refine callT (fun v τ => ∃ cs, v = .agg (List.toArray cs) ∧ Rep.rep τ cs (podOf 0 n s)) (fun v τ1 σ2 hq1 hN1 hle2 hτ1 => ?_) (fun w _ => lpod_c 0 n s (by omega) hn (by omega) w)
  obtain ⟨cs, rfl, hq⟩ := hq1
  have hq0 := Rep.mono hq hτ1
  obtain ⟨vp, vb, rfl, hn1, hs2, hc1, hm1, hp1, hb1⟩ := hq0
  obtain ⟨ap, cp, rfl⟩ := hp1.form
  obtain ⟨ab, cb, rfl⟩ := hb1.form
  refine alloc_ (fun b14 => ?_); refine st (.agg _) _ ?_; refine LS.done ?_
  (repeat (first | refine RS.seq ?_ | refine RS.region ?_ | refine RS.regionQ ?_ (by kernel_rfl) (by kernel_rfl) | refine RS.skip ?_ | refine RS.inBlock ?_ | refine RS.block ?_ | refine RS.exit ?_)); refine ldA [_, _, _, _, _, _, _] ?_; refine mvI ?_
  refine callP ?_ (hc := fun w hw => pod_c _ raw s w (Rep.mono hr0 (PH.le_trans hle2 hw.imm)))
  refine ldA [_, _, _, _, _, _, _] ?_; refine mvI ?_
  refine callP ?_ (hc := fun w hw => rpod_c _ raw s w (Rep.mono hr0 (PH.le_trans hle2 hw.imm)))
  refine neI ?_; refine mvB ?_
  refine LS.part 33 (fun g1 => ?_) (fun g1 => ?_)
  · exfalso; simp at g1
  refine LS.on ?_; refine ldA [_, _, _, _, _, _, _] ?_; refine LS.on ?_; refine mvI ?_; refine LS.on ?_
  refine callP ?_ (hc := fun w hw => pod_c _ (podOf 0 n s) s w (Rep.mono hq (PH.le_trans hτ1 hw.imm)))
  refine LS.on ?_; refine neI ?_; refine pk (v := .bool _) ?_; refine LS.done ?_
  (repeat (first | refine RS.seq ?_ | refine RS.region ?_ | refine RS.regionQ ?_ (by kernel_rfl) (by kernel_rfl) | refine RS.skip ?_ | refine RS.inBlock ?_ | refine RS.block ?_ | refine RS.exit ?_)); refine RS.condF ?_ (h := by rw [podOf_ok 0 n s (by omega) hs1.1]; rfl)
  (repeat (first | refine RS.seq ?_ | refine RS.region ?_ | refine RS.regionQ ?_ (by kernel_rfl) (by kernel_rfl) | refine RS.skip ?_ | refine RS.inBlock ?_ | refine RS.block ?_ | refine RS.exit ?_)); refine mvI ?_
  refine callP ?_ (hc := fun w _ => w3_c _ _ (by omega) (by omega) w)
  refine LS.done ?_
  (repeat (first | refine RS.seq ?_ | refine RS.region ?_ | refine RS.regionQ ?_ (by kernel_rfl) (by kernel_rfl) | refine RS.skip ?_ | refine RS.inBlock ?_ | refine RS.block ?_ | refine RS.exit ?_)); refine eqI ?_; refine asB ?_; refine LS.done ?_; (repeat (first | refine RS.seq ?_ | refine RS.region ?_ | refine RS.regionQ ?_ (by kernel_rfl) (by kernel_rfl) | refine RS.skip ?_ | refine RS.inBlock ?_ | refine RS.block ?_ | refine RS.exit ?_))
  refine RS.cond (fun c0 => ?_) (fun c0 => ?_)
  · (repeat (first | refine RS.seq ?_ | refine RS.region ?_ | refine RS.regionQ ?_ (by kernel_rfl) (by kernel_rfl) | refine RS.skip ?_ | refine RS.inBlock ?_ | refine RS.block ?_ | refine RS.exit ?_)); refine mvL ?_
    refine callP ?_ (hc := fun w hw => text_c ns _ w (hns.mono (PH.le_trans hle2 hw.imm)))
    refine fld ?_; refine st (.string _) _ ?_; refine LS.done ?_
    (repeat (first | refine RS.seq ?_ | refine RS.region ?_ | refine RS.regionQ ?_ (by kernel_rfl) (by kernel_rfl) | refine RS.skip ?_ | refine RS.inBlock ?_ | refine RS.block ?_ | refine RS.exit ?_)); refine ldA [_, _, _, _, _, _, _] ?_; refine mvI ?_
    refine callP ?_ (hc := fun w hw => pod_c _ { podOf 0 n s with name := textOf ns } s w (⟨_, _, rfl, by have := textOf_size ns; show (textOf ns).size ≤ _; omega, hs2, hc1, hm1, hp1.mono hw.imm, hb1.mono hw.imm⟩))
    refine ldA [_, _, _, _, _, _, _] ?_; refine mvI ?_
    refine callP ?_ (hc := fun w hw => rpod_c _ { podOf 0 n s with name := textOf ns } s w (⟨_, _, rfl, by have := textOf_size ns; show (textOf ns).size ≤ _; omega, hs2, hc1, hm1, hp1.mono hw.imm, hb1.mono hw.imm⟩))
    refine eqI ?_; refine asB ?_; refine LS.done ?_
    (repeat (first | refine RS.seq ?_ | refine RS.region ?_ | refine RS.regionQ ?_ (by kernel_rfl) (by kernel_rfl) | refine RS.skip ?_ | refine RS.inBlock ?_ | refine RS.block ?_ | refine RS.exit ?_)); refine RS.ret1 (v := .bool _) Try.func3 fun w hw => ?_
    exact ⟨retB (by simp), hw.below⟩
  (repeat (first | refine RS.seq ?_ | refine RS.region ?_ | refine RS.regionQ ?_ (by kernel_rfl) (by kernel_rfl) | refine RS.skip ?_ | refine RS.inBlock ?_ | refine RS.block ?_ | refine RS.exit ?_)); refine eqI ?_; refine asB ?_; refine LS.done ?_; (repeat (first | refine RS.seq ?_ | refine RS.region ?_ | refine RS.regionQ ?_ (by kernel_rfl) (by kernel_rfl) | refine RS.skip ?_ | refine RS.inBlock ?_ | refine RS.block ?_ | refine RS.exit ?_))
  refine RS.cond (fun c1 => ?_) (fun c1 => ?_)
  · (repeat (first | refine RS.seq ?_ | refine RS.region ?_ | refine RS.regionQ ?_ (by kernel_rfl) (by kernel_rfl) | refine RS.skip ?_ | refine RS.inBlock ?_ | refine RS.block ?_ | refine RS.exit ?_)); refine mvI ?_; refine mvI ?_; (first | refine addN ?_ | refine addI ?_); refine mvI ?_; refine bldS [.int _ _, .int _ _, .int _ _, .int _ _] [.int _ _, .int _ _, .int _ _, .int _ _] (fun b52 => ?_); refine mvI ?_
    refine callP ?_ (hc := fun w _ => w3_c _ _ (by omega) (by omega) w)
    refine idx (i := (k % 4).toNat) ?_ (hj := by omega); refine ld1 (v := .int .i64 ([0, s, s + 1, k].getD (k % 4).toNat 0)) ?_ (hv := nth_int [0, s, s + 1, k] (k % 4).toNat (by simp; omega)); refine fld ?_; refine st (.int _ _) _ ?_; refine LS.done ?_
    (repeat (first | refine RS.seq ?_ | refine RS.region ?_ | refine RS.regionQ ?_ (by kernel_rfl) (by kernel_rfl) | refine RS.skip ?_ | refine RS.inBlock ?_ | refine RS.block ?_ | refine RS.exit ?_)); refine ldA [_, _, _, _, _, _, _] ?_; refine mvI ?_
    refine callP ?_ (hc := fun w hw => pod_c _ { podOf 0 n s with shard := [0, s, s + 1, k].getD (k % 4).toNat 0 } s w (⟨_, _, rfl, hn1, hint4, hc1, hm1, hp1.mono hw.imm, hb1.mono hw.imm⟩))
    refine ldA [_, _, _, _, _, _, _] ?_; refine mvI ?_
    refine callP ?_ (hc := fun w hw => rpod_c _ { podOf 0 n s with shard := [0, s, s + 1, k].getD (k % 4).toNat 0 } s w (⟨_, _, rfl, hn1, hint4, hc1, hm1, hp1.mono hw.imm, hb1.mono hw.imm⟩))
    refine eqI ?_; refine asB ?_; refine LS.done ?_
    (repeat (first | refine RS.seq ?_ | refine RS.region ?_ | refine RS.regionQ ?_ (by kernel_rfl) (by kernel_rfl) | refine RS.skip ?_ | refine RS.inBlock ?_ | refine RS.block ?_ | refine RS.exit ?_)); refine RS.ret1 (v := .bool _) Try.func3 fun w hw => ?_
    exact ⟨retB (by simp), hw.below⟩
  (repeat (first | refine RS.seq ?_ | refine RS.region ?_ | refine RS.regionQ ?_ (by kernel_rfl) (by kernel_rfl) | refine RS.skip ?_ | refine RS.inBlock ?_ | refine RS.block ?_ | refine RS.exit ?_)); refine eqI ?_; refine asB ?_; refine LS.done ?_; (repeat (first | refine RS.seq ?_ | refine RS.region ?_ | refine RS.regionQ ?_ (by kernel_rfl) (by kernel_rfl) | refine RS.skip ?_ | refine RS.inBlock ?_ | refine RS.block ?_ | refine RS.exit ?_))
  refine RS.cond (fun c2 => ?_) (fun c2 => ?_)
  · (repeat (first | refine RS.seq ?_ | refine RS.region ?_ | refine RS.regionQ ?_ (by kernel_rfl) (by kernel_rfl) | refine RS.skip ?_ | refine RS.inBlock ?_ | refine RS.block ?_ | refine RS.exit ?_)); refine mvI ?_
    refine callP ?_ (hc := fun w _ => edge_c k hk w)
    refine bldS [.int _ _, .int _ _, .int _ _, .int _ _, .int _ _] [.int _ _, .int _ _, .int _ _, .int _ _, .int _ _] (fun b62 => ?_); refine mvI ?_
    refine callP ?_ (hc := fun w _ => w3_c _ _ (by omega) (by omega) w)
    refine idx (i := (k % 5).toNat) ?_ (hj := by omega); refine ld1 (v := .int .i64 ([-1, 0, 1099511627776, 1099511627777, edge k].getD (k % 5).toNat 0)) ?_ (hv := nth_int [-1, 0, 1099511627776, 1099511627777, edge k] (k % 5).toNat (by simp; omega)); refine fld ?_; refine fld ?_; refine st (.int _ _) _ ?_; refine LS.done ?_
    (repeat (first | refine RS.seq ?_ | refine RS.region ?_ | refine RS.regionQ ?_ (by kernel_rfl) (by kernel_rfl) | refine RS.skip ?_ | refine RS.inBlock ?_ | refine RS.block ?_ | refine RS.exit ?_)); refine ldA [_, _, _, _, _, _, _] ?_; refine mvI ?_
    refine callP ?_ (hc := fun w hw => pod_c _ { podOf 0 n s with cpu := [-1, 0, 1099511627776, 1099511627777, edge k].getD (k % 5).toNat 0 } s w (⟨_, _, rfl, hn1, hs2, hint, hm1, hp1.mono hw.imm, hb1.mono hw.imm⟩))
    refine ldA [_, _, _, _, _, _, _] ?_; refine mvI ?_
    refine callP ?_ (hc := fun w hw => rpod_c _ { podOf 0 n s with cpu := [-1, 0, 1099511627776, 1099511627777, edge k].getD (k % 5).toNat 0 } s w (⟨_, _, rfl, hn1, hs2, hint, hm1, hp1.mono hw.imm, hb1.mono hw.imm⟩))
    refine eqI ?_; refine asB ?_; refine LS.done ?_
    (repeat (first | refine RS.seq ?_ | refine RS.region ?_ | refine RS.regionQ ?_ (by kernel_rfl) (by kernel_rfl) | refine RS.skip ?_ | refine RS.inBlock ?_ | refine RS.block ?_ | refine RS.exit ?_)); refine RS.ret1 (v := .bool _) Try.func3 fun w hw => ?_
    exact ⟨retB (by simp), hw.below⟩
  (repeat (first | refine RS.seq ?_ | refine RS.region ?_ | refine RS.regionQ ?_ (by kernel_rfl) (by kernel_rfl) | refine RS.skip ?_ | refine RS.inBlock ?_ | refine RS.block ?_ | refine RS.exit ?_)); refine eqI ?_; refine asB ?_; refine LS.done ?_; (repeat (first | refine RS.seq ?_ | refine RS.region ?_ | refine RS.regionQ ?_ (by kernel_rfl) (by kernel_rfl) | refine RS.skip ?_ | refine RS.inBlock ?_ | refine RS.block ?_ | refine RS.exit ?_))
  refine RS.cond (fun c3 => ?_) (fun c3 => ?_)
  · (repeat (first | refine RS.seq ?_ | refine RS.region ?_ | refine RS.regionQ ?_ (by kernel_rfl) (by kernel_rfl) | refine RS.skip ?_ | refine RS.inBlock ?_ | refine RS.block ?_ | refine RS.exit ?_)); refine mvI ?_
    refine callP ?_ (hc := fun w _ => edge_c k hk w)
    refine bldS [.int _ _, .int _ _, .int _ _, .int _ _, .int _ _] [.int _ _, .int _ _, .int _ _, .int _ _, .int _ _] (fun b73 => ?_); refine mvI ?_
    refine callP ?_ (hc := fun w _ => w3_c _ _ (by omega) (by omega) w)
    refine idx (i := (k % 5).toNat) ?_ (hj := by omega); refine ld1 (v := .int .i64 ([-1, 0, 1099511627776, 1099511627777, edge k].getD (k % 5).toNat 0)) ?_ (hv := nth_int [-1, 0, 1099511627776, 1099511627777, edge k] (k % 5).toNat (by simp; omega)); refine fld ?_; refine fld ?_; refine st (.int _ _) _ ?_; refine LS.done ?_
    (repeat (first | refine RS.seq ?_ | refine RS.region ?_ | refine RS.regionQ ?_ (by kernel_rfl) (by kernel_rfl) | refine RS.skip ?_ | refine RS.inBlock ?_ | refine RS.block ?_ | refine RS.exit ?_)); refine ldA [_, _, _, _, _, _, _] ?_; refine mvI ?_
    refine callP ?_ (hc := fun w hw => pod_c _ { podOf 0 n s with mem := [-1, 0, 1099511627776, 1099511627777, edge k].getD (k % 5).toNat 0 } s w (⟨_, _, rfl, hn1, hs2, hc1, hint, hp1.mono hw.imm, hb1.mono hw.imm⟩))
    refine ldA [_, _, _, _, _, _, _] ?_; refine mvI ?_
    refine callP ?_ (hc := fun w hw => rpod_c _ { podOf 0 n s with mem := [-1, 0, 1099511627776, 1099511627777, edge k].getD (k % 5).toNat 0 } s w (⟨_, _, rfl, hn1, hs2, hc1, hint, hp1.mono hw.imm, hb1.mono hw.imm⟩))
    refine eqI ?_; refine asB ?_; refine LS.done ?_
    (repeat (first | refine RS.seq ?_ | refine RS.region ?_ | refine RS.regionQ ?_ (by kernel_rfl) (by kernel_rfl) | refine RS.skip ?_ | refine RS.inBlock ?_ | refine RS.block ?_ | refine RS.exit ?_)); refine RS.ret1 (v := .bool _) Try.func3 fun w hw => ?_
    exact ⟨retB (by simp), hw.below⟩
  (repeat (first | refine RS.seq ?_ | refine RS.region ?_ | refine RS.regionQ ?_ (by kernel_rfl) (by kernel_rfl) | refine RS.skip ?_ | refine RS.inBlock ?_ | refine RS.block ?_ | refine RS.exit ?_)); refine eqI ?_; refine asB ?_; refine LS.done ?_; (repeat (first | refine RS.seq ?_ | refine RS.region ?_ | refine RS.regionQ ?_ (by kernel_rfl) (by kernel_rfl) | refine RS.skip ?_ | refine RS.inBlock ?_ | refine RS.block ?_ | refine RS.exit ?_))
  refine RS.cond (fun c4 => ?_) (fun c4 => ?_)
  · (repeat (first | refine RS.seq ?_ | refine RS.region ?_ | refine RS.regionQ ?_ (by kernel_rfl) (by kernel_rfl) | refine RS.skip ?_ | refine RS.inBlock ?_ | refine RS.block ?_ | refine RS.exit ?_)); refine bldS [] [] (fun b82 => ?_); refine fld ?_; refine ld1 (v := .slice _ _ _) ?_
    obtain ⟨news, hcl, hrow⟩ := hp1.cells
    refine LS.asRow (b := b82) (m := 0) (s := 1) inferInstance (fun h => h) rfl rfl (by omega) ?_
    have hml' : (podOf 0 n s).picks.length ≤ 4 := by
      show (if n.tdiv 100 % 5 = 0 then setOf (n.tdiv 500) else []).length ≤ 4
      split
      · exact (setN_size _ 4 (by omega)).2
      · simp
    refine appR (v := .slice (some ⟨b82, 0, none⟩) 0 0) (vy := .slice ap (podOf 0 n s).picks.length cp) (kk := (podOf 0 n s).picks.length) (news := news) (fun w hw => srcS hw TSlice.eq hcl.len (fun hn => hrow hn) hcl.one) (fun v85 => ?_)
    refine mvL ?_
    refine callP ?_ (hc := fun w hw => text_c ns _ w (hns.mono (PH.le_trans hle2 hw.imm)))
    refine bldS [.string _] [.string _] (fun b88 => ?_); refine appR (v := v85) (kk := 1) (vy := .slice (some ⟨b88, 0, none⟩) 1 1) (news := [.string (textOf ns)]) (fun w hw => srcB hw TSlice.eq) (fun v89 => ?_); refine LS.formR (v := v89) inferInstance (fun a89 c89 e89 => ?_); subst e89; refine fld ?_; refine st (.slice _ _ _) _ ?_; refine LS.done ?_
    have hts := textOf_size ns
    have hcl2 : CellsL σ2 (([] ++ news) ++ [.string (textOf ns)]) ((podOf 0 n s).picks ++ [textOf ns]) := hcl.append (CellsL.one_ ⟨rfl, by omega⟩)
    (repeat (first | refine RS.seq ?_ | refine RS.region ?_ | refine RS.regionQ ?_ (by kernel_rfl) (by kernel_rfl) | refine RS.skip ?_ | refine RS.inBlock ?_ | refine RS.block ?_ | refine RS.exit ?_)); refine ldA [_, _, _, _, _, _, _] ?_; refine mvI ?_
    refine callP ?_ (hc := fun w hw => pod_c _ { podOf 0 n s with picks := (podOf 0 n s).picks ++ [textOf ns] } s w (⟨_, _, rfl, hn1, hs2, hc1, hm1, hw.rowRep hcl2 hw.imm (by simp; omega), hb1.mono hw.imm⟩))
    refine ldA [_, _, _, _, _, _, _] ?_; refine mvI ?_
    refine callP ?_ (hc := fun w hw => rpod_c _ { podOf 0 n s with picks := (podOf 0 n s).picks ++ [textOf ns] } s w (⟨_, _, rfl, hn1, hs2, hc1, hm1, hw.rowRep hcl2 hw.imm (by simp; omega), hb1.mono hw.imm⟩))
    refine eqI ?_; refine asB ?_; refine LS.done ?_
    (repeat (first | refine RS.seq ?_ | refine RS.region ?_ | refine RS.regionQ ?_ (by kernel_rfl) (by kernel_rfl) | refine RS.skip ?_ | refine RS.inBlock ?_ | refine RS.block ?_ | refine RS.exit ?_)); refine RS.ret1 (v := .bool _) Try.func3 fun w hw => ?_
    exact ⟨retB (by simp), hw.below⟩
  (repeat (first | refine RS.seq ?_ | refine RS.region ?_ | refine RS.regionQ ?_ (by kernel_rfl) (by kernel_rfl) | refine RS.skip ?_ | refine RS.inBlock ?_ | refine RS.block ?_ | refine RS.exit ?_)); refine eqI ?_; refine asB ?_; refine LS.done ?_; (repeat (first | refine RS.seq ?_ | refine RS.region ?_ | refine RS.regionQ ?_ (by kernel_rfl) (by kernel_rfl) | refine RS.skip ?_ | refine RS.inBlock ?_ | refine RS.block ?_ | refine RS.exit ?_))
  refine RS.cond (fun c5 => ?_) (fun c5 => ?_)
  · (repeat (first | refine RS.seq ?_ | refine RS.region ?_ | refine RS.regionQ ?_ (by kernel_rfl) (by kernel_rfl) | refine RS.skip ?_ | refine RS.inBlock ?_ | refine RS.block ?_ | refine RS.exit ?_)); refine bldS [.string _, .string _, .string _, .string _, .string _] [.string _, .string _, .string _, .string _, .string _] (fun b93 => ?_); refine mvI ?_
    refine callP ?_ (hc := fun w _ => w3_c _ _ (by omega) (by omega) w)
    refine slcHi (k % 6).toNat (.slice (some ⟨_, _, none⟩) _ _) ?_; refine fld ?_; refine st (.slice _ _ _) _ ?_; refine LS.done ?_
    obtain ⟨l, hl⟩ : ∃ l : List ByteArray, l = ([⟨#[97]⟩, ⟨#[98]⟩, ⟨#[99]⟩, ⟨#[100]⟩, ⟨#[101]⟩] : List ByteArray).take (k % 6).toNat := ⟨_, rfl⟩
    have hll : (k % 6).toNat = l.length := by rw [hl, List.length_take]; simp; omega
    have hlit : ∀ {g : PH}, g b93 = some (.cells (List.toArray ([⟨#[97]⟩, ⟨#[98]⟩, ⟨#[99]⟩, ⟨#[100]⟩, ⟨#[101]⟩].map Value.string)) 9 (0, 0)) → RepL g (.slice (some ⟨b93, 0, none⟩) (k % 6).toNat 5) l := fun {g} hg => by
      refine ⟨by omega, _, _, by rw [hll], by omega, fun hn => ⟨b93, 0, rfl, (cellsStr g (l := l) (fun s hs => ?_)).rowAt fun j hj => ?_⟩⟩
      · rw [hl] at hs; have := List.mem_of_mem_take hs; simp at this; rcases this with rfl | rfl | rfl | rfl | rfl <;> decide
      · simp only [List.length_map] at hj
        have : PH.cell g b93 (0 + j) = (([⟨#[97]⟩, ⟨#[98]⟩, ⟨#[99]⟩, ⟨#[100]⟩, ⟨#[101]⟩] : List ByteArray).map Value.string)[j]? := by simp [PH.cell, hg]
        rw [this, hl, List.map_take, List.getElem?_take, if_pos (by omega)]
    (repeat (first | refine RS.seq ?_ | refine RS.region ?_ | refine RS.regionQ ?_ (by kernel_rfl) (by kernel_rfl) | refine RS.skip ?_ | refine RS.inBlock ?_ | refine RS.block ?_ | refine RS.exit ?_)); refine ldA [_, _, _, _, _, _, _] ?_; refine mvI ?_
    refine callP ?_ (hc := fun w hw => pod_c _ { podOf 0 n s with bears := l } s w (⟨_, _, rfl, hn1, hs2, hc1, hm1, hp1.mono hw.imm, hlit (g := hp w) (hw.get (b := b93))⟩))
    refine ldA [_, _, _, _, _, _, _] ?_; refine mvI ?_
    refine callP ?_ (hc := fun w hw => rpod_c _ { podOf 0 n s with bears := l } s w (⟨_, _, rfl, hn1, hs2, hc1, hm1, hp1.mono hw.imm, hlit (g := hp w) (hw.get (b := b93))⟩))
    refine eqI ?_; refine asB ?_; refine LS.done ?_
    (repeat (first | refine RS.seq ?_ | refine RS.region ?_ | refine RS.regionQ ?_ (by kernel_rfl) (by kernel_rfl) | refine RS.skip ?_ | refine RS.inBlock ?_ | refine RS.block ?_ | refine RS.exit ?_)); refine RS.ret1 (v := .bool _) Try.func3 fun w hw => ?_
    exact ⟨retB (by simp), hw.below⟩
  · exfalso; simp at c0 c1 c2 c3 c4 c5; omega
end Go.Proofs.Ytejdccgebljmgaa
