/- Contracts: pods copied, and a gang's slice, as the document has them. -/
import Derived.Test.YtejdccgebljmgaaWeak
namespace Go.Proofs.Ytejdccgebljmgaa
open Go.JW Go.RowKit

/-- A slice with nothing in it, as a row. -/
theorem LS.zeroD {P : Program} {ops : Array Oper} {f : FuncId} {R : Ending → World → Prop} {k : List Item} {n : Nat} {fr : Nat → Value} {w0 : World} {M : Nat → Prop} {σ : PH} {K : List HP} {l : List Oper} (N : Nat) (α : Type) [Rep α] (e : Nat) (a : Option Addr)
    (h : LS P false ops f R k l n fr w0 M σ (rowD N e (.slice a 0 0) ([] : List α) :: K)) : LS P false ops f R k l n fr w0 M σ K :=
  ⟨fun w hw => h.out w (hw.weak fun _ hF => ⟨fun _ => False, ⟨[], rfl, by simp, rfl, a, 0, rfl, by simp, by simp, .inl ⟨rfl, rfl⟩⟩, fun _ h => h.elim, hF.mono fun _ hb => ⟨hb, fun h => h⟩⟩)⟩
theorem rcopy_c (v : Value) (l : List PodD) (w : World) (hl : RepL (hp w) v l) (hb : l.length ≤ 1000) (hbb : ∀ p ∈ l, p.picks.length ≤ 1000 ∧ p.bears.length ≤ 1000) :
    Calls Try.prog 49 #[v] w fun e w' => ∃ v, e = .returned v ∧ Below w.heap.size w w' ∧ RepL (since w w') v l := by
  obtain ⟨a, cap, rfl⟩ := hl.form
  refine RS.enter Try.func49 Try.ntmps49 rfl rfl ?_
  (repeat (first | refine RS.seq ?_ | refine RS.region ?_ | refine RS.regionQ ?_ (by kernel_rfl) (by kernel_rfl) | refine RS.skip ?_ | refine RS.inBlock ?_ | refine RS.block ?_ | refine RS.exit ?_)); refine asL ?_; refine LS.done ?_
  (repeat (first | refine RS.seq ?_ | refine RS.region ?_ | refine RS.regionQ ?_ (by kernel_rfl) (by kernel_rfl) | refine RS.skip ?_ | refine RS.inBlock ?_ | refine RS.block ?_ | refine RS.exit ?_)); refine asL ?_; refine LS.done ?_
  (repeat (first | refine RS.seq ?_ | refine RS.region ?_ | refine RS.regionQ ?_ (by kernel_rfl) (by kernel_rfl) | refine RS.skip ?_ | refine RS.inBlock ?_ | refine RS.block ?_ | refine RS.exit ?_)); refine asI ?_; refine LS.done ?_
  refine RS.nilD w.heap.size PodD 26 ?_
  (repeat (first | refine RS.seq ?_ | refine RS.region ?_ | refine RS.regionQ ?_ (by kernel_rfl) (by kernel_rfl) | refine RS.skip ?_ | refine RS.inBlock ?_ | refine RS.block ?_ | refine RS.exit ?_))
  refine RS.loopF (X := Nat × Value × PH) 3 36 (fun x => x.1 ≤ l.length ∧ PH.le (hp w) x.2.2) (fun x => [(4, .int .i64 x.1), (3, x.2.1)]) (fun x => x.2.2) (fun x => [rowD w.heap.size 26 x.2.1 (l.take x.1)]) (fun x => l.length - x.1) (0, .slice none 0 0, hp w) ⟨by omega, PH.le_refl _⟩ ⟨rfl, rfl, trivial⟩ rfl ⟨fun h => h⟩ ?_
  rintro ⟨i, v, σ⟩ gg ⟨hi, hle⟩ ih
  simp only at hi hle ih ⊢
  (repeat (first | refine RS.seq ?_ | refine RS.region ?_ | refine RS.regionQ ?_ (by kernel_rfl) (by kernel_rfl) | refine RS.skip ?_ | refine RS.inBlock ?_ | refine RS.block ?_ | refine RS.exit ?_)); refine mvI ?_; refine mvL ?_; refine lenL ?_; refine ltI ?_; refine LS.done ?_
  (repeat (first | refine RS.seq ?_ | refine RS.region ?_ | refine RS.regionQ ?_ (by kernel_rfl) (by kernel_rfl) | refine RS.skip ?_ | refine RS.inBlock ?_ | refine RS.block ?_ | refine RS.exit ?_))
  by_cases hlt : i < l.length
  · refine RS.condT ?_ (h := by simp; omega)
    obtain ⟨b, o, rfl, hrow⟩ := hl.addr (fun h => by simp [h] at hlt)
    obtain ⟨vs, hvr, hvl, hvc⟩ := RowAt.pod (hrow.mono hle) i hlt
    obtain ⟨vp, vb, rfl, hnm, hs64, hc64, hm64, hvp, hvb⟩ := hvr
    obtain ⟨ap, cp, rfl⟩ := hvp.form
    obtain ⟨ab, cb, rfl⟩ := hvb.form
    have hpb := hbb l[i] (List.getElem_mem _)
    (repeat (first | refine RS.seq ?_ | refine RS.region ?_ | refine RS.regionQ ?_ (by kernel_rfl) (by kernel_rfl) | refine RS.skip ?_ | refine RS.inBlock ?_ | refine RS.block ?_ | refine RS.exit ?_)); refine mvL ?_; refine mvI ?_; refine idx (i := i) ?_; refine ldSA (vs := podC l[i] (.slice ap l[i].picks.length cp) (.slice ab l[i].bears.length cb)) hvl hvc ?_; refine alloc_ (fun b5 => ?_); refine st (.agg _) _ ?_; refine LS.done ?_
    (repeat (first | refine RS.seq ?_ | refine RS.region ?_ | refine RS.regionQ ?_ (by kernel_rfl) (by kernel_rfl) | refine RS.skip ?_ | refine RS.inBlock ?_ | refine RS.block ?_ | refine RS.exit ?_)); refine bldS [] [] (fun b16 => ?_); refine LS.zeroD w.heap.size ByteArray 9 (some ⟨b16, 0, none⟩) ?_; refine mvL ?_; refine mvI ?_; refine idx (i := i) ?_; refine fld ?_; refine ldS (hvc 4 (by omega)) ?_; refine appD (v := .slice (some ⟨b16, 0, none⟩) 0 0) (l' := l[i].picks) (vy := .slice ap l[i].picks.length cp) (fun w' hw => (srcD hw TSlice.eq hvp (PH.le_refl _)).imp fun news h => ⟨h.1, h.2.str⟩) (fun v22 => ?_) (hb := by simp; omega) (hm := by simp; omega); refine LS.formD v22 (fun a22 c22 e22 _ => ?_); subst e22; refine fld ?_; refine st (.slice _ _ _) _ ?_; refine LS.done ?_
    refine RS.freezeD (l := [] ++ l[i].picks) (.slice a22 ([] ++ l[i].picks).length c22) (fun σ2 hle2 hr22 => ?_) (hl := by simp; omega)
    (repeat (first | refine RS.seq ?_ | refine RS.region ?_ | refine RS.regionQ ?_ (by kernel_rfl) (by kernel_rfl) | refine RS.skip ?_ | refine RS.inBlock ?_ | refine RS.block ?_ | refine RS.exit ?_)); refine bldS [] [] (fun b24 => ?_); refine LS.zeroD w.heap.size ByteArray 9 (some ⟨b24, 0, none⟩) ?_; refine mvL ?_; refine mvI ?_; refine idx (i := i) ?_; refine fld ?_; refine ldS (PH.cell_mono hle2 (hvc 5 (by omega))) ?_; refine appD (v := .slice (some ⟨b24, 0, none⟩) 0 0) (l' := l[i].bears) (vy := .slice ab l[i].bears.length cb) (fun w' hw => (srcD hw TSlice.eq (hvb.mono hle2) (PH.le_refl _)).imp fun news h => ⟨h.1, h.2.str⟩) (fun v30 => ?_) (hb := by simp; omega) (hm := by simp; omega); refine LS.formD v30 (fun a30 c30 e30 _ => ?_); subst e30; refine fld ?_; refine st (.slice _ _ _) _ ?_; refine LS.done ?_
    refine RS.freezeD (l := [] ++ l[i].bears) (.slice a30 ([] ++ l[i].bears).length c30) (fun σ3 hle3 hr30 => ?_) (hl := by simp; omega)
    have hcell : Rep.rep (fromN w.heap.size σ3) (podC l[i] (.slice a22 l[i].picks.length c22) (.slice a30 l[i].bears.length c30)) l[i] := ⟨_, _, rfl, hnm, hs64, hc64, hm64, hr22.mono (fromN_up hle3), hr30⟩
    have htl : (l.take i).length = i := by rw [List.length_take]; omega
    (repeat (first | refine RS.seq ?_ | refine RS.region ?_ | refine RS.regionQ ?_ (by kernel_rfl) (by kernel_rfl) | refine RS.skip ?_ | refine RS.inBlock ?_ | refine RS.block ?_ | refine RS.exit ?_)); refine mv (v := v) ?_; refine ldA [_, _, _, _, _, _, _] ?_; refine bldS [.agg (List.toArray (podC l[i] (.slice a22 l[i].picks.length c22) (.slice a30 l[i].bears.length c30)))] (podC l[i] (.slice a22 l[i].picks.length c22) (.slice a30 l[i].bears.length c30)) (fun b34 => ?_); refine appD (v := v) (l' := [l[i]]) (vy := .slice (some ⟨b34, 0, none⟩) 1 1) (fun w' hw => ⟨(podC l[i] (.slice a22 l[i].picks.length c22) (.slice a30 l[i].bears.length c30)), srcB hw TSlice.eq, CellsL.one_ hcell⟩) (fun v35 => ?_) (hb := by simp; omega) (hm := by simp; omega); refine as_ (v := v35) ?_; refine LS.done ?_
    (repeat (first | refine RS.seq ?_ | refine RS.region ?_ | refine RS.regionQ ?_ (by kernel_rfl) (by kernel_rfl) | refine RS.skip ?_ | refine RS.inBlock ?_ | refine RS.block ?_ | refine RS.exit ?_)); refine mvI ?_; (first | refine addN ?_ | refine addI ?_); refine asI ?_; refine LS.done ?_; (repeat (first | refine RS.seq ?_ | refine RS.region ?_ | refine RS.regionQ ?_ (by kernel_rfl) (by kernel_rfl) | refine RS.skip ?_ | refine RS.inBlock ?_ | refine RS.block ?_ | refine RS.exit ?_))
    have e1 : l.take (i + 1) = l.take i ++ [l[i]] := by rw [List.take_add_one, List.getElem?_eq_getElem hlt]; rfl
    exact ih (i + 1, v35, σ3) ⟨hlt, PH.le_trans hle (PH.le_trans hle2 hle3)⟩ (by omega) ⟨rfl, rfl, trivial⟩ (by repeat (first | with_reducible exact Out.refl _ _ _ | exact Out.hv | refine Out.upd ?_ | refine Out.hvIn ?_)) ⟨fun h => by simp only [e1]; exact h.tail.tail.tail.tail⟩ rfl
  · refine RS.condF ?_ (h := by simp; omega)
    obtain rfl : i = l.length := by omega
    rw [List.take_length]
    (repeat (first | refine RS.seq ?_ | refine RS.region ?_ | refine RS.regionQ ?_ (by kernel_rfl) (by kernel_rfl) | refine RS.skip ?_ | refine RS.inBlock ?_ | refine RS.block ?_ | refine RS.exit ?_)); refine mv (v := v) ?_; refine as_ (v := v) ?_; refine LS.done ?_
    (repeat (first | refine RS.seq ?_ | refine RS.region ?_ | refine RS.regionQ ?_ (by kernel_rfl) (by kernel_rfl) | refine RS.skip ?_ | refine RS.inBlock ?_ | refine RS.block ?_ | refine RS.exit ?_))
    refine RS.formD v (fun av cv ev _ => ?_); subst ev
    refine RS.ret1 (v := .slice _ _ _) Try.func49 fun w hw => ?_
    exact ⟨_, rfl, hw.below, hw.rowNewD (Nat.le_refl _) (by omega)⟩
theorem rslice_c (cs : List Value) (g : GangD) (s : Int) (w : World) (hr : Rep.rep (hp w) cs g) (hb : g.pods.length ≤ 1000) (hbb : ∀ p ∈ g.pods, p.picks.length ≤ 1000 ∧ p.bears.length ≤ 1000) :
    Calls Try.prog 31 #[.agg cs.toArray, .int .i64 s] w fun e w' => ∃ v, e = .returned v ∧ Below w.heap.size w w' ∧ RepL (since w w') v (sliceOf g.pods s) := by
  obtain ⟨v, rfl, hid, hl⟩ := hr
  obtain ⟨a, cap, rfl⟩ := hl.form
  have hlen : g.pods.length ≤ 140737488355328 := hl.1
  refine RS.enter Try.func31 Try.ntmps31 rfl rfl ?_
  (repeat (first | refine RS.seq ?_ | refine RS.region ?_ | refine RS.regionQ ?_ (by kernel_rfl) (by kernel_rfl) | refine RS.skip ?_ | refine RS.inBlock ?_ | refine RS.block ?_ | refine RS.exit ?_)); refine box_ (v := .agg _) (cs := [_, _]) (fun b2 => ?_); refine asL ?_; refine LS.done ?_
  (repeat (first | refine RS.seq ?_ | refine RS.region ?_ | refine RS.regionQ ?_ (by kernel_rfl) (by kernel_rfl) | refine RS.skip ?_ | refine RS.inBlock ?_ | refine RS.block ?_ | refine RS.exit ?_)); refine asL ?_; refine LS.done ?_
  (repeat (first | refine RS.seq ?_ | refine RS.region ?_ | refine RS.regionQ ?_ (by kernel_rfl) (by kernel_rfl) | refine RS.skip ?_ | refine RS.inBlock ?_ | refine RS.block ?_ | refine RS.exit ?_)); refine asI ?_; refine LS.done ?_
  refine RS.nilD 0 PodD 26 ?_
  (repeat (first | refine RS.seq ?_ | refine RS.region ?_ | refine RS.regionQ ?_ (by kernel_rfl) (by kernel_rfl) | refine RS.skip ?_ | refine RS.inBlock ?_ | refine RS.block ?_ | refine RS.exit ?_))
  refine RS.loopF (X := Nat × Value) 5 30 (fun x => x.1 ≤ g.pods.length) (fun x => [(6, .int .i64 x.1), (5, x.2)]) (fun _ => hp w) (fun x => [rowD 0 26 x.2 (sliceOf (g.pods.take x.1) s), blk b2 (.cells (List.toArray [.int .i64 g.id, .slice a g.pods.length cap]) 48 (0, 0))]) (fun x => g.pods.length - x.1) (0, .slice none 0 0) (by simp) ⟨rfl, rfl, trivial⟩ rfl ⟨fun h => h⟩ ?_
  rintro ⟨i, v⟩ gg hi ih
  simp only at hi ih ⊢
  have hsl : (sliceOf (g.pods.take i) s).length ≤ 1000 := Nat.le_trans (List.length_filter_le _ _) (by rw [List.length_take]; omega)
  (repeat (first | refine RS.seq ?_ | refine RS.region ?_ | refine RS.regionQ ?_ (by kernel_rfl) (by kernel_rfl) | refine RS.skip ?_ | refine RS.inBlock ?_ | refine RS.block ?_ | refine RS.exit ?_)); refine mvI ?_; refine fld ?_; refine ld1 (v := .slice _ _ _) ?_; refine lenL ?_; refine ltI ?_; refine LS.done ?_
  (repeat (first | refine RS.seq ?_ | refine RS.region ?_ | refine RS.regionQ ?_ (by kernel_rfl) (by kernel_rfl) | refine RS.skip ?_ | refine RS.inBlock ?_ | refine RS.block ?_ | refine RS.exit ?_))
  by_cases hlt : i < g.pods.length
  · refine RS.condT ?_ (h := by simp; omega)
    obtain ⟨b, o, rfl, hrow⟩ := hl.addr (fun h => by simp [h] at hlt)
    obtain ⟨vs, hvr, hvl, hvc⟩ := RowAt.pod hrow i hlt
    obtain ⟨hcell, h64⟩ := RowAt.podShard hrow i hlt
    have hvr0 := hvr
    obtain ⟨vp, vb, rfl, hnm, hs64, hc64, hm64, hvp, hvb⟩ := hvr
    obtain ⟨ap, cp, rfl⟩ := hvp.form
    obtain ⟨ab, cb, rfl⟩ := hvb.form
    have htk : sliceOf (g.pods.take (i + 1)) s = sliceOf (g.pods.take i) s ++ (if g.pods[i].shard = s then [g.pods[i]] else []) := by
      rw [List.take_add_one, List.getElem?_eq_getElem hlt, sliceOf, List.filter_append]; simp [sliceOf, List.filter_cons]
    (repeat (first | refine RS.seq ?_ | refine RS.region ?_ | refine RS.regionQ ?_ (by kernel_rfl) (by kernel_rfl) | refine RS.skip ?_ | refine RS.inBlock ?_ | refine RS.block ?_ | refine RS.exit ?_)); refine fld ?_; refine ld1 (v := .slice _ _ _) ?_; refine mvI ?_; refine idx (i := i) ?_; refine fld ?_; refine ldS hcell ?_; refine mvI ?_; refine eqI ?_; refine LS.done ?_
    (repeat (first | refine RS.seq ?_ | refine RS.region ?_ | refine RS.regionQ ?_ (by kernel_rfl) (by kernel_rfl) | refine RS.skip ?_ | refine RS.inBlock ?_ | refine RS.block ?_ | refine RS.exit ?_))
    refine RS.cond (fun c => ?_) (fun c => ?_)
    · simp only [decide_eq_true_eq] at c
      (repeat (first | refine RS.seq ?_ | refine RS.region ?_ | refine RS.regionQ ?_ (by kernel_rfl) (by kernel_rfl) | refine RS.skip ?_ | refine RS.inBlock ?_ | refine RS.block ?_ | refine RS.exit ?_)); refine mv (v := v) ?_; refine fld ?_; refine ld1 (v := .slice _ _ _) ?_; refine mvI ?_; refine idx (i := i) ?_; refine ldSA (vs := (podC g.pods[i] (.slice ap g.pods[i].picks.length cp) (.slice ab g.pods[i].bears.length cb))) hvl hvc ?_; refine bldS [.agg (List.toArray (podC g.pods[i] (.slice ap g.pods[i].picks.length cp) (.slice ab g.pods[i].bears.length cb)))] (podC g.pods[i] (.slice ap g.pods[i].picks.length cp) (.slice ab g.pods[i].bears.length cb)) (fun b28 => ?_); refine appD (v := v) (l' := [g.pods[i]]) (vy := .slice (some ⟨b28, 0, none⟩) 1 1) (fun w' hw => ⟨(podC g.pods[i] (.slice ap g.pods[i].picks.length cp) (.slice ab g.pods[i].bears.length cb)), srcB hw TSlice.eq, CellsL.one_ (by rw [fromN_zero]; exact hvr0)⟩) (fun v29 => ?_) (hb := by simp; omega) (hm := by simp; omega); refine as_ (v := v29) ?_; refine LS.done ?_
      (repeat (first | refine RS.seq ?_ | refine RS.region ?_ | refine RS.regionQ ?_ (by kernel_rfl) (by kernel_rfl) | refine RS.skip ?_ | refine RS.inBlock ?_ | refine RS.block ?_ | refine RS.exit ?_)); refine mvI ?_; (first | refine addN ?_ | refine addI ?_); refine asI ?_; refine LS.done ?_; (repeat (first | refine RS.seq ?_ | refine RS.region ?_ | refine RS.regionQ ?_ (by kernel_rfl) (by kernel_rfl) | refine RS.skip ?_ | refine RS.inBlock ?_ | refine RS.block ?_ | refine RS.exit ?_))
      rw [if_pos c] at htk
      exact ih (i + 1, v29) hlt (by omega) ⟨rfl, rfl, trivial⟩ (by repeat (first | with_reducible exact Out.refl _ _ _ | exact Out.hv | refine Out.upd ?_ | refine Out.hvIn ?_)) ⟨fun h => by simp only [htk]; exact h.tail⟩ rfl
    · simp only [decide_eq_false_iff_not] at c
      (repeat (first | refine RS.seq ?_ | refine RS.region ?_ | refine RS.regionQ ?_ (by kernel_rfl) (by kernel_rfl) | refine RS.skip ?_ | refine RS.inBlock ?_ | refine RS.block ?_ | refine RS.exit ?_)); refine mvI ?_; (first | refine addN ?_ | refine addI ?_); refine asI ?_; refine LS.done ?_; (repeat (first | refine RS.seq ?_ | refine RS.region ?_ | refine RS.regionQ ?_ (by kernel_rfl) (by kernel_rfl) | refine RS.skip ?_ | refine RS.inBlock ?_ | refine RS.block ?_ | refine RS.exit ?_))
      rw [if_neg c, List.append_nil] at htk
      exact ih (i + 1, v) hlt (by omega) ⟨rfl, rfl, trivial⟩ (by repeat (first | with_reducible exact Out.refl _ _ _ | exact Out.hv | refine Out.upd ?_ | refine Out.hvIn ?_)) ⟨fun h => by simp only [htk]; exact h⟩ rfl
  · refine RS.condF ?_ (h := by simp; omega)
    obtain rfl : i = g.pods.length := by omega
    rw [List.take_length] at hsl ⊢
    (repeat (first | refine RS.seq ?_ | refine RS.region ?_ | refine RS.regionQ ?_ (by kernel_rfl) (by kernel_rfl) | refine RS.skip ?_ | refine RS.inBlock ?_ | refine RS.block ?_ | refine RS.exit ?_)); refine mv (v := v) ?_
    refine callT (fun v τ => RepL τ v (sliceOf g.pods s)) (fun v2 τ2 σ2 hq2 hN2 hle2 hτ2 => ?_) (fun w' hw => rcopy_c v _ w' (hw.rowRepD (by omega)) hsl fun p hp => hbb p (List.mem_filter.1 hp).1)
    obtain ⟨a2, c2, rfl⟩ := hq2.form
    refine asL ?_; refine LS.done ?_
    (repeat (first | refine RS.seq ?_ | refine RS.region ?_ | refine RS.regionQ ?_ (by kernel_rfl) (by kernel_rfl) | refine RS.skip ?_ | refine RS.inBlock ?_ | refine RS.block ?_ | refine RS.exit ?_)); refine RS.ret1 (v := .slice _ _ _) Try.func31 fun w hw => ?_
    exact ⟨_, rfl, hw.below, hq2.mono (hN2.le_since hτ2 hw)⟩
end Go.Proofs.Ytejdccgebljmgaa
