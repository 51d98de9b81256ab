/- The law SpecNodes answers true. -/
import Derived.Test.YtejdccgebljmgaaRight
namespace Go.Proofs.Ytejdccgebljmgaa
open Go.JW Go.RowKit

theorem nodes_c (cs : List Value) (raw : NodeD) (name n which k : Int) (v : Value) (ns : List Int) (w : World) (hr : Rep.rep (hp w) cs raw) (hn : I64 n) (hk : I64 k) (hns : RepL (hp w) v ns) :
    Calls Try.prog 4 #[.agg cs.toArray, .int .i64 name, .int .i64 n, .int .i64 which, .int .i64 k, v] w fun e w' => e = .returned (.bool true) ∧ Below w.heap.size w w' := by
  have hr0 := hr
  obtain ⟨vp0, vb0, rfl, hn0, hc0, hm0, hp0, hb0⟩ := hr
  obtain ⟨ap0, cp0, rfl⟩ := hp0.form
  obtain ⟨ab0, cb0, rfl⟩ := hb0.form
  obtain ⟨an, cn, rfl⟩ := hns.form
  obtain ⟨b1, b2⟩ := wmod which 5 (by omega)
  obtain ⟨d1, d2⟩ := wmod k 5 (by omega)
  obtain ⟨d3, d4⟩ := wmod k 2 (by omega)
  have hint : I64 ([-1, 0, 1099511627776, 1099511627777, edge k].getD (k % 5).toNat 0) := getD_in (by have := edge_in k; intro x hx; simp at hx; omega) _
  refine RS.enter Try.func4 Try.ntmps4 rfl rfl ?_
  (repeat (first | refine RS.seq ?_ | refine RS.region ?_ | refine RS.regionQ ?_ (by kernel_rfl) (by kernel_rfl) | refine RS.skip ?_ | refine RS.inBlock ?_ | refine RS.block ?_ | refine RS.exit ?_)); refine box_ (v := .agg _) (cs := [_, _, _, _, _, _]) (fun b6 => ?_); refine asB ?_; refine LS.done ?_
  (repeat (first | refine RS.seq ?_ | refine RS.region ?_ | refine RS.regionQ ?_ (by kernel_rfl) (by kernel_rfl) | refine RS.skip ?_ | refine RS.inBlock ?_ | refine RS.block ?_ | refine RS.exit ?_)); skip
  refine callP ?_ (hc := fun w _ => known_c w)
  refine not_ ?_; refine LS.done ?_
  (repeat (first | refine RS.seq ?_ | refine RS.region ?_ | refine RS.regionQ ?_ (by kernel_rfl) (by kernel_rfl) | refine RS.skip ?_ | refine RS.inBlock ?_ | refine RS.block ?_ | refine RS.exit ?_)); refine RS.condF ?_
  (repeat (first | refine RS.seq ?_ | refine RS.region ?_ | refine RS.regionQ ?_ (by kernel_rfl) (by kernel_rfl) | refine RS.skip ?_ | refine RS.inBlock ?_ | refine RS.block ?_ | refine RS.exit ?_)); refine ldA [_, _, _, _, _, _] ?_
  refine callP ?_ (hc := fun w hw => fewNode_c _ raw w (Rep.mono hr0 hw.imm))
  refine not_ ?_; refine LS.done ?_
  (repeat (first | refine RS.seq ?_ | refine RS.region ?_ | refine RS.regionQ ?_ (by kernel_rfl) (by kernel_rfl) | refine RS.skip ?_ | refine RS.inBlock ?_ | refine RS.block ?_ | refine RS.exit ?_)); refine RS.cond (fun c => ?_) (fun c => ?_)
  · (repeat (first | refine RS.seq ?_ | refine RS.region ?_ | refine RS.regionQ ?_ (by kernel_rfl) (by kernel_rfl) | refine RS.skip ?_ | refine RS.inBlock ?_ | refine RS.block ?_ | refine RS.exit ?_)); refine asB ?_; refine LS.done ?_; (repeat (first | refine RS.seq ?_ | refine RS.region ?_ | refine RS.regionQ ?_ (by kernel_rfl) (by kernel_rfl) | refine RS.skip ?_ | refine RS.inBlock ?_ | refine RS.block ?_ | refine RS.exit ?_)); refine RS.ret1 (v := .bool _) Try.func4 fun w hw => ?_
    exact ⟨rfl, hw.below⟩
  clear c
  (repeat (first | refine RS.seq ?_ | refine RS.region ?_ | refine RS.regionQ ?_ (by kernel_rfl) (by kernel_rfl) | refine RS.skip ?_ | refine RS.inBlock ?_ | refine RS.block ?_ | refine RS.exit ?_)); refine mvI ?_; refine mvI ?_
  refine callT (fun v τ => ∃ cs, v = .agg (List.toArray cs) ∧ Rep.rep τ cs (nodeOf name n)) (fun v τ1 σ2 hq1 hN1 hle2 hτ1 => ?_) (fun w _ => lnode_c name n hn w)
  obtain ⟨cs, rfl, hq⟩ := hq1
  have hq0 := Rep.mono hq hτ1
  obtain ⟨vp, vb, rfl, hn1, hc1, hm1, hp1, hb1⟩ := hq0
  obtain ⟨ap, cp, rfl⟩ := hp1.form
  obtain ⟨ab, cb, rfl⟩ := hb1.form
  refine alloc_ (fun b13 => ?_); refine st (.agg _) _ ?_; refine LS.done ?_
  (repeat (first | refine RS.seq ?_ | refine RS.region ?_ | refine RS.regionQ ?_ (by kernel_rfl) (by kernel_rfl) | refine RS.skip ?_ | refine RS.inBlock ?_ | refine RS.block ?_ | refine RS.exit ?_)); refine ldA [_, _, _, _, _, _] ?_
  refine callP ?_ (hc := fun w hw => node_c _ raw w (Rep.mono hr0 (PH.le_trans hle2 hw.imm)))
  refine ldA [_, _, _, _, _, _] ?_
  refine callP ?_ (hc := fun w hw => rnode_c _ raw w (Rep.mono hr0 (PH.le_trans hle2 hw.imm)))
  refine neI ?_; refine mvB ?_
  refine LS.part 27 (fun g1 => ?_) (fun g1 => ?_)
  · exfalso; simp at g1
  refine LS.on ?_; refine ldA [_, _, _, _, _, _] ?_; refine LS.on ?_
  refine callP ?_ (hc := fun w hw => node_c _ (nodeOf name n) w (Rep.mono hq (PH.le_trans hτ1 hw.imm)))
  refine LS.on ?_; refine neI ?_; refine pk (v := .bool _) ?_; refine LS.done ?_
  (repeat (first | refine RS.seq ?_ | refine RS.region ?_ | refine RS.regionQ ?_ (by kernel_rfl) (by kernel_rfl) | refine RS.skip ?_ | refine RS.inBlock ?_ | refine RS.block ?_ | refine RS.exit ?_)); refine RS.condF ?_ (h := by rw [nodeOf_ok]; rfl)
  (repeat (first | refine RS.seq ?_ | refine RS.region ?_ | refine RS.regionQ ?_ (by kernel_rfl) (by kernel_rfl) | refine RS.skip ?_ | refine RS.inBlock ?_ | refine RS.block ?_ | refine RS.exit ?_)); refine mvI ?_
  refine callP ?_ (hc := fun w _ => w3_c _ _ (by omega) (by omega) w)
  refine LS.done ?_
  (repeat (first | refine RS.seq ?_ | refine RS.region ?_ | refine RS.regionQ ?_ (by kernel_rfl) (by kernel_rfl) | refine RS.skip ?_ | refine RS.inBlock ?_ | refine RS.block ?_ | refine RS.exit ?_)); refine eqI ?_; refine asB ?_; refine LS.done ?_; (repeat (first | refine RS.seq ?_ | refine RS.region ?_ | refine RS.regionQ ?_ (by kernel_rfl) (by kernel_rfl) | refine RS.skip ?_ | refine RS.inBlock ?_ | refine RS.block ?_ | refine RS.exit ?_))
  refine RS.cond (fun c0 => ?_) (fun c0 => ?_)
  · (repeat (first | refine RS.seq ?_ | refine RS.region ?_ | refine RS.regionQ ?_ (by kernel_rfl) (by kernel_rfl) | refine RS.skip ?_ | refine RS.inBlock ?_ | refine RS.block ?_ | refine RS.exit ?_)); refine mvL ?_
    refine callP ?_ (hc := fun w hw => text_c ns _ w (hns.mono (PH.le_trans hle2 hw.imm)))
    refine fld ?_; refine st (.string _) _ ?_; refine LS.done ?_
    (repeat (first | refine RS.seq ?_ | refine RS.region ?_ | refine RS.regionQ ?_ (by kernel_rfl) (by kernel_rfl) | refine RS.skip ?_ | refine RS.inBlock ?_ | refine RS.block ?_ | refine RS.exit ?_)); refine ldA [_, _, _, _, _, _] ?_
    refine callP ?_ (hc := fun w hw => node_c _ { nodeOf name n with name := textOf ns } w (⟨_, _, rfl, by have := textOf_size ns; show (textOf ns).size ≤ _; omega, hc1, hm1, hp1.mono hw.imm, hb1.mono hw.imm⟩))
    refine ldA [_, _, _, _, _, _] ?_
    refine callP ?_ (hc := fun w hw => rnode_c _ { nodeOf name n with name := textOf ns } w (⟨_, _, rfl, by have := textOf_size ns; show (textOf ns).size ≤ _; omega, hc1, hm1, hp1.mono hw.imm, hb1.mono hw.imm⟩))
    refine eqI ?_; refine asB ?_; refine LS.done ?_
    (repeat (first | refine RS.seq ?_ | refine RS.region ?_ | refine RS.regionQ ?_ (by kernel_rfl) (by kernel_rfl) | refine RS.skip ?_ | refine RS.inBlock ?_ | refine RS.block ?_ | refine RS.exit ?_)); refine RS.ret1 (v := .bool _) Try.func4 fun w hw => ?_
    exact ⟨retB (by simp), hw.below⟩
  (repeat (first | refine RS.seq ?_ | refine RS.region ?_ | refine RS.regionQ ?_ (by kernel_rfl) (by kernel_rfl) | refine RS.skip ?_ | refine RS.inBlock ?_ | refine RS.block ?_ | refine RS.exit ?_)); refine eqI ?_; refine asB ?_; refine LS.done ?_; (repeat (first | refine RS.seq ?_ | refine RS.region ?_ | refine RS.regionQ ?_ (by kernel_rfl) (by kernel_rfl) | refine RS.skip ?_ | refine RS.inBlock ?_ | refine RS.block ?_ | refine RS.exit ?_))
  refine RS.cond (fun c1 => ?_) (fun c1 => ?_)
  · (repeat (first | refine RS.seq ?_ | refine RS.region ?_ | refine RS.regionQ ?_ (by kernel_rfl) (by kernel_rfl) | refine RS.skip ?_ | refine RS.inBlock ?_ | refine RS.block ?_ | refine RS.exit ?_)); refine mvI ?_
    refine callP ?_ (hc := fun w _ => edge_c k hk w)
    refine bldS [.int _ _, .int _ _, .int _ _, .int _ _, .int _ _] [.int _ _, .int _ _, .int _ _, .int _ _, .int _ _] (fun b43 => ?_); refine mvI ?_
    refine callP ?_ (hc := fun w _ => w3_c _ _ (by omega) (by omega) w)
    refine idx (i := (k % 5).toNat) ?_ (hj := by omega); refine ld1 (v := .int .i64 ([-1, 0, 1099511627776, 1099511627777, edge k].getD (k % 5).toNat 0)) ?_ (hv := nth_int [-1, 0, 1099511627776, 1099511627777, edge k] (k % 5).toNat (by simp; omega)); refine fld ?_; refine fld ?_; refine st (.int _ _) _ ?_; refine LS.done ?_
    (repeat (first | refine RS.seq ?_ | refine RS.region ?_ | refine RS.regionQ ?_ (by kernel_rfl) (by kernel_rfl) | refine RS.skip ?_ | refine RS.inBlock ?_ | refine RS.block ?_ | refine RS.exit ?_)); refine ldA [_, _, _, _, _, _] ?_
    refine callP ?_ (hc := fun w hw => node_c _ { nodeOf name n with cpu := [-1, 0, 1099511627776, 1099511627777, edge k].getD (k % 5).toNat 0 } w (⟨_, _, rfl, hn1, hint, hm1, hp1.mono hw.imm, hb1.mono hw.imm⟩))
    refine ldA [_, _, _, _, _, _] ?_
    refine callP ?_ (hc := fun w hw => rnode_c _ { nodeOf name n with cpu := [-1, 0, 1099511627776, 1099511627777, edge k].getD (k % 5).toNat 0 } w (⟨_, _, rfl, hn1, hint, hm1, hp1.mono hw.imm, hb1.mono hw.imm⟩))
    refine eqI ?_; refine asB ?_; refine LS.done ?_
    (repeat (first | refine RS.seq ?_ | refine RS.region ?_ | refine RS.regionQ ?_ (by kernel_rfl) (by kernel_rfl) | refine RS.skip ?_ | refine RS.inBlock ?_ | refine RS.block ?_ | refine RS.exit ?_)); refine RS.ret1 (v := .bool _) Try.func4 fun w hw => ?_
    exact ⟨retB (by simp), hw.below⟩
  (repeat (first | refine RS.seq ?_ | refine RS.region ?_ | refine RS.regionQ ?_ (by kernel_rfl) (by kernel_rfl) | refine RS.skip ?_ | refine RS.inBlock ?_ | refine RS.block ?_ | refine RS.exit ?_)); refine eqI ?_; refine asB ?_; refine LS.done ?_; (repeat (first | refine RS.seq ?_ | refine RS.region ?_ | refine RS.regionQ ?_ (by kernel_rfl) (by kernel_rfl) | refine RS.skip ?_ | refine RS.inBlock ?_ | refine RS.block ?_ | refine RS.exit ?_))
  refine RS.cond (fun c2 => ?_) (fun c2 => ?_)
  · (repeat (first | refine RS.seq ?_ | refine RS.region ?_ | refine RS.regionQ ?_ (by kernel_rfl) (by kernel_rfl) | refine RS.skip ?_ | refine RS.inBlock ?_ | refine RS.block ?_ | refine RS.exit ?_)); refine mvI ?_
    refine callP ?_ (hc := fun w _ => edge_c k hk w)
    refine bldS [.int _ _, .int _ _, .int _ _, .int _ _, .int _ _] [.int _ _, .int _ _, .int _ _, .int _ _, .int _ _] (fun b54 => ?_); refine mvI ?_
    refine callP ?_ (hc := fun w _ => w3_c _ _ (by omega) (by omega) w)
    refine idx (i := (k % 5).toNat) ?_ (hj := by omega); refine ld1 (v := .int .i64 ([-1, 0, 1099511627776, 1099511627777, edge k].getD (k % 5).toNat 0)) ?_ (hv := nth_int [-1, 0, 1099511627776, 1099511627777, edge k] (k % 5).toNat (by simp; omega)); refine fld ?_; refine fld ?_; refine st (.int _ _) _ ?_; refine LS.done ?_
    (repeat (first | refine RS.seq ?_ | refine RS.region ?_ | refine RS.regionQ ?_ (by kernel_rfl) (by kernel_rfl) | refine RS.skip ?_ | refine RS.inBlock ?_ | refine RS.block ?_ | refine RS.exit ?_)); refine ldA [_, _, _, _, _, _] ?_
    refine callP ?_ (hc := fun w hw => node_c _ { nodeOf name n with mem := [-1, 0, 1099511627776, 1099511627777, edge k].getD (k % 5).toNat 0 } w (⟨_, _, rfl, hn1, hc1, hint, hp1.mono hw.imm, hb1.mono hw.imm⟩))
    refine ldA [_, _, _, _, _, _] ?_
    refine callP ?_ (hc := fun w hw => rnode_c _ { nodeOf name n with mem := [-1, 0, 1099511627776, 1099511627777, edge k].getD (k % 5).toNat 0 } w (⟨_, _, rfl, hn1, hc1, hint, hp1.mono hw.imm, hb1.mono hw.imm⟩))
    refine eqI ?_; refine asB ?_; refine LS.done ?_
    (repeat (first | refine RS.seq ?_ | refine RS.region ?_ | refine RS.regionQ ?_ (by kernel_rfl) (by kernel_rfl) | refine RS.skip ?_ | refine RS.inBlock ?_ | refine RS.block ?_ | refine RS.exit ?_)); refine RS.ret1 (v := .bool _) Try.func4 fun w hw => ?_
    exact ⟨retB (by simp), hw.below⟩
  (repeat (first | refine RS.seq ?_ | refine RS.region ?_ | refine RS.regionQ ?_ (by kernel_rfl) (by kernel_rfl) | refine RS.skip ?_ | refine RS.inBlock ?_ | refine RS.block ?_ | refine RS.exit ?_)); refine eqI ?_; refine asB ?_; refine LS.done ?_; (repeat (first | refine RS.seq ?_ | refine RS.region ?_ | refine RS.regionQ ?_ (by kernel_rfl) (by kernel_rfl) | refine RS.skip ?_ | refine RS.inBlock ?_ | refine RS.block ?_ | refine RS.exit ?_))
  refine RS.cond (fun c3 => ?_) (fun c3 => ?_)
  · (repeat (first | refine RS.seq ?_ | refine RS.region ?_ | refine RS.regionQ ?_ (by kernel_rfl) (by kernel_rfl) | refine RS.skip ?_ | refine RS.inBlock ?_ | refine RS.block ?_ | refine RS.exit ?_)); refine bldS [] [] (fun b63 => ?_); refine fld ?_; refine ld1 (v := .slice _ _ _) ?_
    obtain ⟨news, hcl, hrow⟩ := hp1.cells
    refine LS.asRow (b := b63) (m := 0) (s := 1) inferInstance (fun h => h) rfl rfl (by omega) ?_
    have hml : (setOf (n.tdiv 144)).length ≤ 4 := (setN_size _ 4 (by omega)).2
    have hml' : (nodeOf name n).marks.length ≤ 4 := hml
    refine appR (v := .slice (some ⟨b63, 0, none⟩) 0 0) (vy := .slice ap (nodeOf name n).marks.length cp) (kk := (nodeOf name n).marks.length) (news := news) (fun w hw => srcS hw (TSlice.eq (P := Try.prog)) hcl.len (fun hn => hrow hn) hcl.one) (fun v66 => ?_)
    refine mvL ?_
    refine callP ?_ (hc := fun w hw => text_c ns _ w (hns.mono (PH.le_trans hle2 hw.imm)))
    refine bldS [.string _] [.string _] (fun b69 => ?_); refine appR (v := v66) (kk := 1) (vy := .slice (some ⟨b69, 0, none⟩) 1 1) (news := [.string (textOf ns)]) (fun w hw => srcB hw TSlice.eq) (fun v70 => ?_); refine LS.formR (v := v70) inferInstance (fun a70 c70 e70 => ?_); subst e70; refine fld ?_; refine st (.slice _ _ _) _ ?_; refine LS.done ?_
    have hts := textOf_size ns
    have hcl2 : CellsL σ2 (([] ++ news) ++ [.string (textOf ns)]) ((nodeOf name n).marks ++ [textOf ns]) := hcl.append (CellsL.one_ ⟨rfl, by omega⟩)
    (repeat (first | refine RS.seq ?_ | refine RS.region ?_ | refine RS.regionQ ?_ (by kernel_rfl) (by kernel_rfl) | refine RS.skip ?_ | refine RS.inBlock ?_ | refine RS.block ?_ | refine RS.exit ?_)); refine ldA [_, _, _, _, _, _] ?_
    refine callP ?_ (hc := fun w hw => node_c _ { nodeOf name n with marks := (nodeOf name n).marks ++ [textOf ns] } w (⟨_, _, rfl, hn1, hc1, hm1, hw.rowRep hcl2 hw.imm (by simp; omega), hb1.mono hw.imm⟩))
    refine ldA [_, _, _, _, _, _] ?_
    refine callP ?_ (hc := fun w hw => rnode_c _ { nodeOf name n with marks := (nodeOf name n).marks ++ [textOf ns] } w (⟨_, _, rfl, hn1, hc1, hm1, hw.rowRep hcl2 hw.imm (by simp; omega), hb1.mono hw.imm⟩))
    refine eqI ?_; refine asB ?_; refine LS.done ?_
    (repeat (first | refine RS.seq ?_ | refine RS.region ?_ | refine RS.regionQ ?_ (by kernel_rfl) (by kernel_rfl) | refine RS.skip ?_ | refine RS.inBlock ?_ | refine RS.block ?_ | refine RS.exit ?_)); refine RS.ret1 (v := .bool _) Try.func4 fun w hw => ?_
    exact ⟨retB (by simp), hw.below⟩
  (repeat (first | refine RS.seq ?_ | refine RS.region ?_ | refine RS.regionQ ?_ (by kernel_rfl) (by kernel_rfl) | refine RS.skip ?_ | refine RS.inBlock ?_ | refine RS.block ?_ | refine RS.exit ?_)); refine eqI ?_; refine asB ?_; refine LS.done ?_; (repeat (first | refine RS.seq ?_ | refine RS.region ?_ | refine RS.regionQ ?_ (by kernel_rfl) (by kernel_rfl) | refine RS.skip ?_ | refine RS.inBlock ?_ | refine RS.block ?_ | refine RS.exit ?_))
  refine RS.cond (fun c4 => ?_) (fun c4 => ?_)
  · (repeat (first | refine RS.seq ?_ | refine RS.region ?_ | refine RS.regionQ ?_ (by kernel_rfl) (by kernel_rfl) | refine RS.skip ?_ | refine RS.inBlock ?_ | refine RS.block ?_ | refine RS.exit ?_)); refine bldS [.string _, .string _] [.string _, .string _] (fun b74 => ?_); refine mvI ?_
    refine callP ?_ (hc := fun w _ => w3_c _ _ (by omega) (by omega) w)
    skip
    have hlit : ∀ {g : PH} (o : Nat), CellsL g ((List.map Value.string [⟨#[98]⟩, ⟨#[97]⟩]).drop o) (([⟨#[98]⟩, ⟨#[97]⟩] : List ByteArray).drop o) := fun o => by rw [← List.map_drop]; exact cellsStr _ (fun s hs => by have := List.mem_of_mem_drop hs; simp at this; rcases this with rfl | rfl <;> decide)
    rcases (by omega : k % 2 = 0 ∨ k % 2 = 1) with hk2 | hk2
    · refine slcLo 0 (.slice (some ⟨_, _, none⟩) _ _) ?_; refine fld ?_; refine st (.slice _ _ _) _ ?_; refine LS.done ?_
      (repeat (first | refine RS.seq ?_ | refine RS.region ?_ | refine RS.regionQ ?_ (by kernel_rfl) (by kernel_rfl) | refine RS.skip ?_ | refine RS.inBlock ?_ | refine RS.block ?_ | refine RS.exit ?_)); refine ldA [_, _, _, _, _, _] ?_
      refine callP ?_ (hc := fun w hw => node_c _ { nodeOf name n with taints := [⟨#[98]⟩, ⟨#[97]⟩] } w (⟨_, _, rfl, hn1, hc1, hm1, hp1.mono hw.imm, repLit (g := hp w) (l := ([⟨#[98]⟩, ⟨#[97]⟩] : List ByteArray)) (hw.get (b := b74)) (hlit 0) rfl (by decide) (by decide)⟩))
      refine ldA [_, _, _, _, _, _] ?_
      refine callP ?_ (hc := fun w hw => rnode_c _ { nodeOf name n with taints := [⟨#[98]⟩, ⟨#[97]⟩] } w (⟨_, _, rfl, hn1, hc1, hm1, hp1.mono hw.imm, repLit (g := hp w) (l := ([⟨#[98]⟩, ⟨#[97]⟩] : List ByteArray)) (hw.get (b := b74)) (hlit 0) rfl (by decide) (by decide)⟩))
      refine eqI ?_; refine asB ?_; refine LS.done ?_
      (repeat (first | refine RS.seq ?_ | refine RS.region ?_ | refine RS.regionQ ?_ (by kernel_rfl) (by kernel_rfl) | refine RS.skip ?_ | refine RS.inBlock ?_ | refine RS.block ?_ | refine RS.exit ?_)); refine RS.ret1 (v := .bool _) Try.func4 fun w hw => ?_
      exact ⟨retB (by simp), hw.below⟩
    · refine slcLo 1 (.slice (some ⟨_, _, none⟩) _ _) ?_; refine fld ?_; refine st (.slice _ _ _) _ ?_; refine LS.done ?_
      (repeat (first | refine RS.seq ?_ | refine RS.region ?_ | refine RS.regionQ ?_ (by kernel_rfl) (by kernel_rfl) | refine RS.skip ?_ | refine RS.inBlock ?_ | refine RS.block ?_ | refine RS.exit ?_)); refine ldA [_, _, _, _, _, _] ?_
      refine callP ?_ (hc := fun w hw => node_c _ { nodeOf name n with taints := [⟨#[97]⟩] } w (⟨_, _, rfl, hn1, hc1, hm1, hp1.mono hw.imm, repLit (g := hp w) (l := ([⟨#[97]⟩] : List ByteArray)) (hw.get (b := b74)) (hlit 1) rfl (by decide) (by decide)⟩))
      refine ldA [_, _, _, _, _, _] ?_
      refine callP ?_ (hc := fun w hw => rnode_c _ { nodeOf name n with taints := [⟨#[97]⟩] } w (⟨_, _, rfl, hn1, hc1, hm1, hp1.mono hw.imm, repLit (g := hp w) (l := ([⟨#[97]⟩] : List ByteArray)) (hw.get (b := b74)) (hlit 1) rfl (by decide) (by decide)⟩))
      refine eqI ?_; refine asB ?_; refine LS.done ?_
      (repeat (first | refine RS.seq ?_ | refine RS.region ?_ | refine RS.regionQ ?_ (by kernel_rfl) (by kernel_rfl) | refine RS.skip ?_ | refine RS.inBlock ?_ | refine RS.block ?_ | refine RS.exit ?_)); refine RS.ret1 (v := .bool _) Try.func4 fun w hw => ?_
      exact ⟨retB (by simp), hw.below⟩
  · exfalso; simp at c0 c1 c2 c3 c4; omega
end Go.Proofs.Ytejdccgebljmgaa
