/- The law LedgerErrs answers true. -/
import Derived.Test.YtbinkokafbpnoaaOrderL
namespace Go.Proofs.Ytbinkokafbpnoaa
open Go.JW Go.RowKit
def nmB : ByteArray := ⟨#[98]⟩
def nmC : ByteArray := ⟨#[99]⟩
def nmM : ByteArray := ⟨#[109]⟩
def nmBig : ByteArray := ⟨#[78]⟩
def errL : List Int := [4, 3, 5, 2, 6, 6, 6, 5, 5, 7, 6, 1, 2]
abbrev sE : LedD := oneT 4 4 1 nmA 3 0
theorem errs_take : takeE sE 1 [] = 4 ∧ takeE sE 2 [] = 3 ∧ takeE sE 2 [placeP nmB nmM 0 0] = 5 ∧ takeE sE 2 [placeP nmB nmN 0 (-1)] = 2 ∧ takeE sE 2 [placeP nmB nmN 2 0] = 6 ∧ takeE sE 2 [placeP nmB nmN 9223372036854775807 0] = 6 ∧ takeE sE 2 [placeP nmB nmN 1 3, placeP nmC nmN 0 2] = 6 := by decide
theorem errs_rest : giveE sE.taken 2 = 5 ∧ goneE sE nmM = 5 ∧ goneE sE nmN = 7 ∧ putE sE (nodeN nmN 2 9) = 6 ∧ putE sE (nodeN nmBig 0 0) = 1 ∧ putE sE (nodeN nmM (-1) 0) = 2 := by decide +kernel
theorem take_not {S : LedD} {g : Int} {ps : List PlaceD} {E : Int} (h : takeE S g ps = E) (hE : E ≠ 0) : (⟨S.nodes, takeT S g ps⟩ : LedD) = S := by rw [takeT, if_neg (by rw [h]; exact hE)]
theorem put_not {S : LedD} {nd : NodeD} {E : Int} (h : putE S nd = E) (hE : E ≠ 0) : (⟨putN S nd, S.taken⟩ : LedD) = S := by rw [putN, if_neg (by rw [h]; exact hE)]
theorem fN {α : Type} [Rep α] {σ : PH} {v : Value} {l : List α} (h : RepL (fromN 0 σ) v l) : RepL σ v l := by rwa [fromN_zero] at h
theorem errs_c (which : Int) (hwh : I64 which) (w : World) : Calls Try.prog 12 #[.int .i64 which] w fun e w' => e = .returned (.bool true) ∧ Below w.heap.size w w' := by
  obtain ⟨t1, t2, t3, t4, t5, t6, t7⟩ := errs_take
  obtain ⟨r1, r2, r3, r4, r5, r6⟩ := errs_rest
  obtain ⟨a1, a2⟩ := wmod which 13 (by omega)
  have i1 := oneInv (c := 4) (m := 4) (by omega) (by omega)
  obtain ⟨e2, n2⟩ := take_oneN (c := 4) (m := 4) (u := 3) (v := 0) (g := 1) (p := nmA) (by omega) (by omega)
  have i2 : LedInv sE 1 := i1.take' 1 [placeP nmA nmN 3 0] 1 n2 (by simp) (by simp)
  refine RS.enter Try.func12 Try.ntmps12 rfl rfl ?_
  (repeat (first | refine RS.seq ?_ | refine RS.region ?_ | refine RS.regionQ ?_ (by kernel_rfl) (by kernel_rfl) | refine RS.skip ?_ | refine RS.inBlock ?_ | refine RS.block ?_ | refine RS.exit ?_)); refine asB ?_; refine LS.done ?_
  (repeat (first | refine RS.seq ?_ | refine RS.region ?_ | refine RS.regionQ ?_ (by kernel_rfl) (by kernel_rfl) | refine RS.skip ?_ | refine RS.inBlock ?_ | refine RS.block ?_ | refine RS.exit ?_)); skip
  refine callP ?_ (hc := fun w _ => known7_c w)
  refine not_ ?_; refine LS.done ?_
  (repeat (first | refine RS.seq ?_ | refine RS.region ?_ | refine RS.regionQ ?_ (by kernel_rfl) (by kernel_rfl) | refine RS.skip ?_ | refine RS.inBlock ?_ | refine RS.block ?_ | refine RS.exit ?_)); refine RS.condF ?_
  (repeat (first | refine RS.seq ?_ | refine RS.region ?_ | refine RS.regionQ ?_ (by kernel_rfl) (by kernel_rfl) | refine RS.skip ?_ | refine RS.inBlock ?_ | refine RS.block ?_ | refine RS.exit ?_)); skip
  refine callX (X := Nat × PH) (fun x => .pointer (some ⟨x.1, 0, none⟩)) (fun x => x.2) (fun x => ledHP x.1 (oneN 4 4) :: _) (fun x => PH.le _ x.2) (fun ⟨bl, σ1⟩ hle1 => ?_) (fun w' hw => room7_c 4 4 (by omega) (by omega) w' hw)
  simp only at hle1 ⊢
  refine asP ?_; refine LS.done ?_
  (repeat (first | refine RS.seq ?_ | refine RS.region ?_ | refine RS.regionQ ?_ (by kernel_rfl) (by kernel_rfl) | refine RS.skip ?_ | refine RS.inBlock ?_ | refine RS.block ?_ | refine RS.exit ?_)); refine mvP ?_; refine bin_eql_P ?_; refine mvB ?_; refine LS.on ?_; refine mvP ?_; refine LS.on ?_; refine bld (vals := [(0, .int _ _)]) [_, _] ?_; refine LS.on ?_; refine bld (vals := [(0, .string _), (1, .string _), (2, .agg (List.toArray [_, _]))]) [_, _, _, _, _] ?_; refine LS.on ?_; refine bldS [.agg (List.toArray (placeC (placeP nmA nmN 3 0)))] (placeC (placeP nmA nmN 3 0)) (fun b19 => ?_); refine LS.on ?_
  refine takeL' 1 _ [placeP nmA nmN 3 0] 0 sE i1 (by omega) e2 n2 (by simp) (argP (by decide) (by decide) (by omega) (by omega) inferInstance) (fun σ2 hle2 => ?_)
  refine LS.on ?_; refine neI ?_; refine pk (v := .bool _) ?_; refine LS.done ?_
  (repeat (first | refine RS.seq ?_ | refine RS.region ?_ | refine RS.regionQ ?_ (by kernel_rfl) (by kernel_rfl) | refine RS.skip ?_ | refine RS.inBlock ?_ | refine RS.block ?_ | refine RS.exit ?_)); refine RS.condF ?_
  (repeat (first | refine RS.seq ?_ | refine RS.region ?_ | refine RS.regionQ ?_ (by kernel_rfl) (by kernel_rfl) | refine RS.skip ?_ | refine RS.inBlock ?_ | refine RS.block ?_ | refine RS.exit ?_)); refine bld (vals := [(0, .int _ _)]) [_, _] ?_; refine alloc_ (fun b4 => ?_); refine st (.agg _) _ ?_; refine LS.done ?_
  refine RS.to (K' := [ledHP bl sE, blk b4 (.cells (List.toArray [.int .i64 9223372036854775807, .int .i64 0]) 30 (0, 0))]) ?_ ⟨fun h => (SepIn.cons_sub (fun _ h => h.tail) h).swap⟩
  (repeat (first | refine RS.seq ?_ | refine RS.region ?_ | refine RS.skip ?_ | refine RS.inBlock ?_ | refine RS.block ?_ | refine RS.exit ?_)); refine RS.draw [.free, .eff, .free, .eff, .free, .free, .ex, .eff, .free, .free, .free, .ex, .eff, .free, .free, .free, .ex, .eff, .free, .ex, .free, .ex, .eff, .free, .free, .free, .free, .free, .ex, .eff, .free, .eff, .free, .eff, .free, .eff, .free, .free, .free, .eff, .free, .free, .eff, .free, .free, .free, .eff, .ex, .ex] [blk b4 (.cells (List.toArray [.int .i64 9223372036854775807, .int .i64 0]) 30 (0, 0))] ?_ (by kernel_rfl) (by kernel_rfl) (by infer_instance); refine D.mvP ?_
  refine D.takeL 1 (fun _ => .slice none 0 0) [] 4 sE i2 (by omega) (by simp) (fun _ _ _ _ => RepL.nil _ _ _) t1 (take_not t1 (by decide)) ?_
  refine D.mvP ?_
  refine D.takeL 2 (fun _ => .slice none 0 0) [] 3 sE i2 (by omega) (by simp) (fun _ _ _ _ => RepL.nil _ _ _) t2 (take_not t2 (by decide)) ?_
  refine D.mvP ?_; refine D.bld (vals := [(0, .string _), (1, .string _)]) [_, _, _, _, _] ?_
  refine D.litT 0 [placeP nmB nmM 0 0] (vs := fun us => [.agg (List.toArray (placeC (placeP nmB nmM 0 0)))]) ?_ (fun us σ' _ _ => ⟨repP _ (by decide) (by decide) (by decide) (by decide), trivial⟩)
  refine D.takeL 2 (fun us => us 30) [placeP nmB nmM 0 0] 5 sE i2 (by omega) (by simp) (fun _ _ _ h => fN h.1) t3 (take_not t3 (by decide)) ?_
  refine D.mvP ?_; refine D.bld (vals := [(1, .int _ _)]) [_, _] ?_; refine D.bld (vals := [(0, .string _), (1, .string _), (2, .agg (List.toArray [_, _]))]) [_, _, _, _, _] ?_
  refine D.litT 0 [placeP nmB nmN 0 (-1)] (vs := fun us => [.agg (List.toArray (placeC (placeP nmB nmN 0 (-1))))]) ?_ (fun us σ' _ _ => ⟨repP _ (by decide) (by decide) (by decide) (by decide), trivial⟩)
  refine D.takeL 2 (fun us => us 35) [placeP nmB nmN 0 (-1)] 2 sE i2 (by omega) (by simp) (fun _ _ _ h => fN h.1) t4 (take_not t4 (by decide)) ?_
  refine D.mvP ?_; refine D.bld (vals := [(0, .int _ _)]) [_, _] ?_; refine D.bld (vals := [(0, .string _), (1, .string _), (2, .agg (List.toArray [_, _]))]) [_, _, _, _, _] ?_
  refine D.litT 0 [placeP nmB nmN 2 0] (vs := fun us => [.agg (List.toArray (placeC (placeP nmB nmN 2 0)))]) ?_ (fun us σ' _ _ => ⟨repP _ (by decide) (by decide) (by decide) (by decide), trivial⟩)
  refine D.takeL 2 (fun us => us 40) [placeP nmB nmN 2 0] 6 sE i2 (by omega) (by simp) (fun _ _ _ h => fN h.1) t5 (take_not t5 (by decide)) ?_
  refine D.mvP ?_; refine D.ldA [_, _] ?_; refine D.bld (vals := [(0, .string _), (1, .string _), (2, .agg (List.toArray [_, _]))]) [_, _, _, _, _] ?_
  refine D.litT 0 [placeP nmB nmN 9223372036854775807 0] (vs := fun us => [.agg (List.toArray (placeC (placeP nmB nmN 9223372036854775807 0)))]) ?_ (fun us σ' _ _ => ⟨repP _ (by decide) (by decide) (by decide) (by decide), trivial⟩)
  refine D.takeL 2 (fun us => us 45) [placeP nmB nmN 9223372036854775807 0] 6 sE i2 (by omega) (by simp) (fun _ _ _ h => fN h.1) t6 (take_not t6 (by decide)) ?_
  refine D.mvP ?_; refine D.bld (vals := [(0, .int _ _), (1, .int _ _)]) [_, _] ?_; refine D.bld (vals := [(0, .string _), (1, .string _), (2, .agg (List.toArray [_, _]))]) [_, _, _, _, _] ?_; refine D.bld (vals := [(1, .int _ _)]) [_, _] ?_; refine D.bld (vals := [(0, .string _), (1, .string _), (2, .agg (List.toArray [_, _]))]) [_, _, _, _, _] ?_
  refine D.litT 0 [placeP nmB nmN 1 3, placeP nmC nmN 0 2] (vs := fun us => [.agg (List.toArray (placeC (placeP nmB nmN 1 3))), .agg (List.toArray (placeC (placeP nmC nmN 0 2)))]) ?_ (fun us σ' _ _ => ⟨repP _ (by decide) (by decide) (by decide) (by decide), repP _ (by decide) (by decide) (by decide) (by decide), trivial⟩)
  refine D.takeL 2 (fun us => us 52) [placeP nmB nmN 1 3, placeP nmC nmN 0 2] 6 sE i2 (by omega) (by simp) (fun _ _ _ h => fN h.1) t7 (take_not t7 (by decide)) ?_
  refine D.mvP ?_
  refine D.giveL 2 5 sE r1 rfl ?_
  refine D.mvP ?_
  refine D.goneL nmM 5 sE i2 (by omega) r2 rfl ?_
  refine D.mvP ?_
  refine D.goneL nmN 7 sE i2 (by omega) r3 rfl ?_
  refine D.mvP ?_; refine D.bld (vals := [(0, .int _ _), (1, .int _ _)]) [_, _] ?_; refine D.bld (vals := [(0, .string _), (1, .agg (List.toArray [_, _]))]) [_, _, _, _, _, _] ?_
  refine D.putL (nodeN nmN 2 9) none none 0 0 6 sE i2 (by omega) (fun _ _ => rep_nodeN _ _ (by decide) (by decide) (by decide)) r4 (put_not r4 (by decide)) ?_
  refine D.mvP ?_; refine D.bld (vals := [(0, .string _)]) [_, _, _, _, _, _] ?_
  refine D.putL (nodeN nmBig 0 0) none none 0 0 1 sE i2 (by omega) (fun _ _ => rep_nodeN _ _ (by decide) (by decide) (by decide)) r5 (put_not r5 (by decide)) ?_
  refine D.mvP ?_; refine D.bld (vals := [(0, .int _ _)]) [_, _] ?_; refine D.bld (vals := [(0, .string _), (1, .agg (List.toArray [_, _]))]) [_, _, _, _, _, _] ?_
  refine D.putL (nodeN nmM (-1) 0) none none 0 0 2 sE i2 (by omega) (fun _ _ => rep_nodeN _ _ (by decide) (by decide) (by decide)) r6 (put_not r6 (by decide)) ?_
  refine D.litT 0 errL (vs := fun us => [us 25, us 27, us 31, us 36, us 41, us 46, us 53, us 55, us 57, us 59, us 63, us 66, us 70]) ?_ (fun us σ' _ hf => by
    obtain ⟨h70, h66, h63, h59, h57, h55, h53, _, h46, _, h41, _, h36, _, h31, _, h27, h25, _⟩ := hf
    have h70 : us 70 = _ := h70
    have h66 : us 66 = _ := h66
    have h63 : us 63 = _ := h63
    have h59 : us 59 = _ := h59
    have h57 : us 57 = _ := h57
    have h55 : us 55 = _ := h55
    have h53 : us 53 = _ := h53
    have h46 : us 46 = _ := h46
    have h41 : us 41 = _ := h41
    have h36 : us 36 = _ := h36
    have h31 : us 31 = _ := h31
    have h27 : us 27 = _ := h27
    have h25 : us 25 = _ := h25
    rw [h70, h66, h63, h59, h57, h55, h53, h46, h41, h36, h31, h27, h25]
    exact ⟨⟨rfl, by decide⟩, ⟨rfl, by decide⟩, ⟨rfl, by decide⟩, ⟨rfl, by decide⟩, ⟨rfl, by decide⟩, ⟨rfl, by decide⟩, ⟨rfl, by decide⟩, ⟨rfl, by decide⟩, ⟨rfl, by decide⟩, ⟨rfl, by decide⟩, ⟨rfl, by decide⟩, ⟨rfl, by decide⟩, ⟨rfl, by decide⟩, trivial⟩)
  refine D.asU (fun v σ => RepL (fromN 0 σ) v errL) (fun v σ1 σ2 h hs => h.mono (fromN_up hs)) ?_ (fun us σ' _ hf => hf.1)
  refine D.done (fun us σ3 hle3 hfs => ?_)
  have h5 : RepL σ3 (us 5) errL := fN hfs.1
  clear hfs
  obtain ⟨v5, hv5⟩ : ∃ v, v = us 5 := ⟨_, rfl⟩
  rw [← hv5] at h5
  obtain ⟨a5, c5, rfl⟩ := h5.form
  refine RS.as 5 (.slice a5 errL.length c5) hv5.symm ?_
  clear hv5
  obtain ⟨b5, o5, rfl, hrow5⟩ := h5.addr (by simp [errL])
  obtain ⟨u1, u2, u3⟩ := oneT_used 4 4 1 nmA 3 0
  refine RS.ow ?_
  (repeat (first | refine RS.seq ?_ | refine RS.region ?_ | refine RS.regionQ ?_ (by kernel_rfl) (by kernel_rfl) | refine RS.skip ?_ | refine RS.inBlock ?_ | refine RS.block ?_ | refine RS.exit ?_)); refine bldS [.int _ _, .int _ _, .int _ _, .int _ _, .int _ _, .int _ _, .int _ _, .int _ _, .int _ _, .int _ _, .int _ _, .int _ _, .int _ _] [.int _ _, .int _ _, .int _ _, .int _ _, .int _ _, .int _ _, .int _ _, .int _ _, .int _ _, .int _ _, .int _ _, .int _ _, .int _ _] (fun b72 => ?_); refine asL ?_; refine LS.done ?_
  (repeat (first | refine RS.seq ?_ | refine RS.region ?_ | refine RS.regionQ ?_ (by kernel_rfl) (by kernel_rfl) | refine RS.skip ?_ | refine RS.inBlock ?_ | refine RS.block ?_ | refine RS.exit ?_)); refine mvI ?_; refine mvL ?_; refine lenL ?_
  refine callP ?_ (hc := fun w _ => w7_c _ _ (by omega) (by omega) w)
  obtain ⟨k, hk⟩ : ∃ k : Nat, (k : Int) = which % 13 := ⟨(which % 13).toNat, by omega⟩
  rw [show which % ((13 : Nat) : Int) = (k : Int) from hk.symm]
  have hk13 : k < 13 := by omega
  obtain ⟨hcell, _⟩ := (hrow5.mono (PH.le_refl _)).int k hk13
  have hgd : errL[k]'hk13 = errL.getD k 0 := by rw [List.getD_eq_getElem?_getD, List.getElem?_eq_getElem hk13]; rfl
  rw [hgd] at hcell
  refine asI ?_; refine LS.done ?_
  (repeat (first | refine RS.seq ?_ | refine RS.region ?_ | refine RS.regionQ ?_ (by kernel_rfl) (by kernel_rfl) | refine RS.skip ?_ | refine RS.inBlock ?_ | refine RS.block ?_ | refine RS.exit ?_)); refine mvP ?_
  refine usedL nmN i2 (by omega) (fun σ5 hle5 => ?_)
  rw [u1, u2, u3]
  refine mvT ?_; refine extr (v := _) ?_; refine extr (v := .int _ _) ?_; refine alloc_ (fun b8 => ?_); refine st (.agg _) _ ?_; refine asI ?_; refine LS.done ?_
  have hcell' := PH.cell_mono hle5 hcell
  (repeat (first | refine RS.seq ?_ | refine RS.region ?_ | refine RS.skip ?_ | refine RS.inBlock ?_ | refine RS.block ?_ | refine RS.exit ?_)); refine RS.drawG [(91, some true), (96, some true), (100, some true)] [.free, .free, .free, .ex, .free, .free, .free, .ex, .free, .free, .ex, .free, .free, .free, .free, .free, .free, .free, .free, .free, .ex, .ex, .free, .free, .free] _ ?_ (by kernel_rfl) (by kernel_rfl) (by kernel_rfl) ⟨fun h => h⟩; simp only [ers, ersO, onOff, glook, nthO, List.map_cons, List.map_nil, Option.bind_some, Option.map_some, Nat.beq, cond_true, cond_false, BEq.beq]; refine D.mvL ?_; refine D.mvI ?_; refine D.idx (i := k) ?_ (hi := by simp [errL]; omega); refine D.ldS hcell' ?_; refine D.mvL ?_; refine D.mvI ?_; refine D.idx (i := k) ?_; refine D.ld1 (v := .int .i64 (errL.getD k 0)) ?_ (hv := nth_int errL k hk13); refine D.eqI ?_; rw [decide_eq_true (show errL.getD k 0 = errL.getD k 0 from rfl)]; refine D.mvB ?_; refine D.ldA [_, _] ?_; refine D.bld (vals := [(0, .int _ _)]) [_, _] ?_; refine D.eqA (b := true) (us1 := [.int .i64 3, .int .i64 0]) (us2 := [.int .i64 3, .int .i64 0]) (fun w => by rw [eq_vec]; simp) (by kernel_rfl) ?_; refine D.pk (v := .bool _) ?_; refine D.mvB ?_; refine D.mvI ?_; refine D.eqI ?_; refine D.pk (v := .bool _) ?_; refine D.mvB ?_; refine D.mvP ?_
  refine D.nodesL i2 inferInstance ?_
  refine D.lenU 102 1 ?_ (fun us σ' _ hf => RepL.form (show RepL σ' (us 102) (nodesOf sE) from hf.1)); refine D.eqI ?_; refine D.pk (v := .bool _) ?_; refine D.asB ?_; refine D.doneG [(91, some true), (96, some true), (100, some true)] ⟨⟨rfl, rfl⟩, ⟨rfl, rfl⟩, ⟨rfl, rfl⟩, trivial⟩ (fun us σ1 hle1 hfs => ?_)
  (repeat (first | refine RS.seq ?_ | refine RS.region ?_ | refine RS.regionQ ?_ (by kernel_rfl) (by kernel_rfl) | refine RS.skip ?_ | refine RS.inBlock ?_ | refine RS.block ?_ | refine RS.exit ?_)); refine RS.ret1 (v := .bool _) Try.func12 fun w hw => ?_
  exact ⟨rfl, hw.below⟩
end Go.Proofs.Ytbinkokafbpnoaa
