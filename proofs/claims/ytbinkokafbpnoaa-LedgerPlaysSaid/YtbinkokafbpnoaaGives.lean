/- Walk: LedgerGives. -/
import Derived.Test.YtbinkokafbpnoaaRef7
namespace Go.Proofs.Ytbinkokafbpnoaa
open Go.JW Go.RowKit
theorem rowNil {α : Type} [Rep α] (g : VH) (e : Nat) : (rowD 0 e (.slice none 0 0) ([] : List α)).h g (fun _ => False) := ⟨[], rfl, by simp, rfl, none, 0, rfl, by simp, by simp, .inl ⟨rfl, rfl⟩⟩
theorem newRef {g : VH} {br : Nat} {K : List HP} {F : Nat → Prop} (h : SepIn g (blk br (.cells (List.toArray [.slice none 0 0, .slice none 0 0]) 50 (0, 0)) :: K) F) : SepIn g (refHP br ⟨[], []⟩ :: K) F := by
  obtain ⟨F1, h1, h2, h3⟩ := h
  have e : nodesOf ⟨[], []⟩ = [] := rfl
  exact ⟨F1, ⟨.slice none 0 0, .slice none 0 0, F1, h1, fun _ h => h, fun _ => False, by rw [e]; exact rowNil _ _, fun _ h => h.elim, fun _ => False, rowNil _ _, fun _ h => h.elim, trivial⟩, h2, h3⟩
theorem adel_aset {l : List (Int × List PlaceD)} {g : Int} {ps : List PlaceD} (h : asg l g = none) : adel (aset l g ps) g = l := by
  induction l with
  | nil => simp [aset, adel, eqb_self]
  | cons p l ih =>
    simp only [asg] at h
    cases e : KeyT.eqb g p.1 with
    | true => rw [e] at h; cases h
    | false => rw [e] at h; simp only [cond_false] at h; simp [aset, adel, e, ih h]
theorem give_take {S : LedD} {kk : Nat} (hi : LedInv S kk) {g : Int} {ps : List PlaceD} (h : takeE S g ps = 0) : giveE (takeT S g ps) g = 0 ∧ giveT (takeT S g ps) g = S.taken := by
  obtain ⟨h1, h2, _⟩ := takeE_zero h
  have hn := posH_none ((tk_zero hi g).1 (by omega))
  have h3 : tk (aset S.taken g ps) g = ps := by unfold tk; rw [asg_aset_same]; rfl
  have h4 : ¬ ps.length = 0 := fun e => h2 (List.eq_nil_of_length_eq_zero e)
  rw [takeT, if_pos h]
  exact ⟨by rw [giveE, h3, if_neg h4], by rw [giveT, h3, if_neg h4, adel_aset hn]⟩
section
variable {q : Bool} {ops : Array Oper} {f : FuncId} {R : Ending → World → Prop} {k : List Item} {n : Nat} {fr : Nat → Value} {w0 : World} {M : Nat → Prop} {σ : PH} {K K' : List HP}
variable {rest : List Oper} {d : Nat} {ty : TypeId} {pos : String} {aft : Array Edge} {xs : Array Operand} {ts : Array TypeId} {bl br : Nat} {S : LedD}
theorem sameL {kk : Nat} (hi : LedInv S kk) (hk : kk ≤ 1000000) (hl : S.taken.length ≤ 1000)
    (h : ∀ σ', PH.le σ σ' → LS Try.prog false ops f R k rest n (upd fr d (.bool true)) w0 M σ' (ledHP bl S :: refHP br S :: K))
    (hx : xs.toList.map (ev n fr) = [.pointer (some ⟨bl, 0, none⟩), .pointer (some ⟨br, 0, none⟩)] := by rfl) :
    LS Try.prog false ops f R k (⟨some d, .call ⟨.value (.func 26), xs, ts⟩, ty, pos, aft, none⟩ :: rest) n fr w0 M σ (ledHP bl S :: refHP br S :: K) :=
  LS.enterW rfl rfl (fun w _ => exec_call Fun.eq hx w) fun _ hw => (same7_c hi hk hl hw).mono fun _ _ ⟨he, σ', hle, hs⟩ => ⟨_, σ', _, he, hs, h σ' hle⟩
end
theorem ledGives_c (ns ms ks : List Int) (vn vm vk : Value) (w : World) (hr : RepL (hp w) vn ns) (hrm : RepL (hp w) vm ms) (hrk : RepL (hp w) vk ks) : Calls Try.prog 4 #[vn, vm, vk] w fun e w' => e = .returned (.bool true) ∧ Below w.heap.size w w' := by
  obtain ⟨an, cn, rfl⟩ := hr.form
  obtain ⟨am, cm, rfl⟩ := hrm.form
  obtain ⟨ak, ck, rfl⟩ := hrk.form
  have hlen : ns.length ≤ 140737488355328 := hr.1
  have hlenm : ms.length ≤ 140737488355328 := hrm.1
  have hlenk : ks.length ≤ 140737488355328 := hrk.1
  refine RS.enter Try.func4 Try.ntmps4 rfl rfl ?_
  (repeat (first | refine RS.seq ?_ | refine RS.region ?_ | refine RS.regionQ ?_ (by kernel_rfl) (by kernel_rfl) | refine RS.skip ?_ | refine RS.inBlock ?_ | refine RS.block ?_ | refine RS.exit ?_)); refine asB ?_; refine LS.done ?_
  (repeat (first | refine RS.seq ?_ | refine RS.region ?_ | refine RS.regionQ ?_ (by kernel_rfl) (by kernel_rfl) | refine RS.skip ?_ | refine RS.inBlock ?_ | refine RS.block ?_ | refine RS.exit ?_)); skip
  refine callP ?_ (hc := fun w _ => known7_c w)
  refine not_ ?_; refine LS.done ?_
  (repeat (first | refine RS.seq ?_ | refine RS.region ?_ | refine RS.regionQ ?_ (by kernel_rfl) (by kernel_rfl) | refine RS.skip ?_ | refine RS.inBlock ?_ | refine RS.block ?_ | refine RS.exit ?_)); refine RS.condF ?_
  (repeat (first | refine RS.seq ?_ | refine RS.region ?_ | refine RS.regionQ ?_ (by kernel_rfl) (by kernel_rfl) | refine RS.skip ?_ | refine RS.inBlock ?_ | refine RS.block ?_ | refine RS.exit ?_)); skip
  refine newL (fun bl => ?_)
  refine bld (vals := []) [_, _] ?_; refine box_ (v := .agg _) (cs := [_, _]) (fun b16 => ?_); refine asP ?_; refine asP ?_; refine LS.done ?_
  (repeat (first | refine RS.seq ?_ | refine RS.region ?_ | refine RS.regionQ ?_ (by kernel_rfl) (by kernel_rfl) | refine RS.skip ?_ | refine RS.inBlock ?_ | refine RS.block ?_ | refine RS.exit ?_)); refine mvP ?_; refine bin_eql_P ?_; refine LS.done ?_
  (repeat (first | refine RS.seq ?_ | refine RS.region ?_ | refine RS.regionQ ?_ (by kernel_rfl) (by kernel_rfl) | refine RS.skip ?_ | refine RS.inBlock ?_ | refine RS.block ?_ | refine RS.exit ?_)); refine RS.condF ?_
  refine RS.skip ?_
  refine RS.to (K' := [ledHP bl ⟨[], []⟩, refHP b16 ⟨[], []⟩]) ?_ ⟨fun h => (newRef h).swap⟩
  (repeat (first | refine RS.seq ?_ | refine RS.region ?_ | refine RS.regionQ ?_ (by kernel_rfl) (by kernel_rfl) | refine RS.skip ?_ | refine RS.inBlock ?_ | refine RS.block ?_ | refine RS.exit ?_)); refine asI ?_; refine LS.done ?_
  (repeat (first | refine RS.seq ?_ | refine RS.region ?_ | refine RS.regionQ ?_ (by kernel_rfl) (by kernel_rfl) | refine RS.skip ?_ | refine RS.inBlock ?_ | refine RS.block ?_ | refine RS.exit ?_))
  refine RS.loopF (X := Nat × LedD × PH) 9 100 (fun x => x.1 ≤ 8 ∧ x.1 ≤ ns.length ∧ LedInv x.2.1 0 ∧ x.2.1.taken.length ≤ 0 ∧ PH.le (hp w) x.2.2) (fun x => [(9, .int .i64 x.1)]) (fun x => x.2.2) (fun x => [ledHP bl x.2.1, refHP b16 x.2.1]) (fun x => 8 - x.1) (0, ⟨[], []⟩, hp w) ⟨by omega, by omega, LedInv.empty 0, Nat.le_refl _, PH.le_refl _⟩ ⟨rfl, trivial⟩ rfl ⟨fun h => h⟩ ?_
  rintro ⟨i, S0, σ2⟩ gg ⟨hi8, hin, hi0, ht0, hle2⟩ ih
  simp only at hi8 hin hi0 ht0 hle2 ih ⊢
  (repeat (first | refine RS.seq ?_ | refine RS.region ?_ | refine RS.regionQ ?_ (by kernel_rfl) (by kernel_rfl) | refine RS.skip ?_ | refine RS.inBlock ?_ | refine RS.block ?_ | refine RS.exit ?_)); refine mvI ?_; refine mvL ?_; refine lenL ?_; refine ltI ?_; refine mvB ?_
  refine LS.cut 23 27 [(26, .bool (decide (i < 8 ∧ i < ns.length)))] (fun gg => ?_) (fun J => ?_)
  rotate_left
  · refine LS.part 23 (fun g1 => ?_) (fun g1 => ?_)
    · refine LS.on ?_; refine mvI ?_; refine LS.on ?_; refine ltI ?_; refine pk (v := .bool _) ?_; refine LS.done ?_
      simp only [decide_eq_true_eq] at g1
      exact J ⟨boolV (decide_eq_decide.2 (by omega)), trivial⟩ (by repeat (first | with_reducible exact Out.refl _ _ _ | exact Out.hv | refine Out.upd ?_ | refine Out.hvIn ?_))
    · refine LS.off ?_; refine LS.off ?_; refine pk (v := .bool _) ?_; refine LS.done ?_
      simp only [decide_eq_false_iff_not] at g1
      exact J ⟨boolV (by symm; exact decide_eq_false (by omega)), trivial⟩ (by repeat (first | with_reducible exact Out.refl _ _ _ | exact Out.hv | refine Out.upd ?_ | refine Out.hvIn ?_))
  (repeat (first | refine RS.seq ?_ | refine RS.region ?_ | refine RS.regionQ ?_ (by kernel_rfl) (by kernel_rfl) | refine RS.skip ?_ | refine RS.inBlock ?_ | refine RS.block ?_ | refine RS.exit ?_))
  refine RS.cond (fun z => ?_) (fun z => ?_)
  · simp only [decide_eq_true_eq] at z
    obtain ⟨b, o, rfl, hrow⟩ := hr.addr (fun h => by simp [h] at z)
    obtain ⟨hcell, h64⟩ := (hrow.mono hle2).int i z.2
    (repeat (first | refine RS.seq ?_ | refine RS.region ?_ | refine RS.regionQ ?_ (by kernel_rfl) (by kernel_rfl) | refine RS.skip ?_ | refine RS.inBlock ?_ | refine RS.block ?_ | refine RS.exit ?_)); refine mvP ?_; refine mvI ?_; refine mvL ?_; refine mvI ?_; refine idx (i := i) ?_; refine ldS hcell ?_
    refine callT (fun v τ => RepA τ v (nodeOf i ns[i])) (fun v τ1 σ3 hq1 hN1 hle3 hτ1 => ?_) (fun w' hw => lnode_c _ _ h64 w')
    obtain ⟨cs, rfl, hrp⟩ := hq1
    have hrp' := Rep.mono hrp hτ1
    obtain ⟨v1, v2, rfl, _, _, _, hv1, hv2⟩ := hrp
    obtain ⟨a1, c1, rfl⟩ := hv1.form
    obtain ⟨a2, c2, rfl⟩ := hv2.form
    skip
    refine putL (nodeOf i ns[i]) a1 a2 c1 c2 hi0 (by omega) (ArgAt.of hrp') (fun σ4 hle4 => ?_)
    refine LS.done ?_
    (repeat (first | refine RS.seq ?_ | refine RS.region ?_ | refine RS.regionQ ?_ (by kernel_rfl) (by kernel_rfl) | refine RS.skip ?_ | refine RS.inBlock ?_ | refine RS.block ?_ | refine RS.exit ?_)); refine mvP ?_; refine mvI ?_; refine mvL ?_; refine mvI ?_; refine idx (i := i) ?_; refine ldS (PH.cell_mono hle4 (PH.cell_mono hle3 hcell)) ?_
    refine callT (fun v τ => RepA τ v (nodeOf i ns[i])) (fun v τ1 σ3 hq1 hN1 hle3 hτ1 => ?_) (fun w' hw => lnode_c _ _ h64 w')
    obtain ⟨cs, rfl, hrp⟩ := hq1
    have hrp' := Rep.mono hrp hτ1
    obtain ⟨v1, v2, rfl, _, _, _, hv1, hv2⟩ := hrp
    obtain ⟨a1, c1, rfl⟩ := hv1.form
    obtain ⟨a2, c2, rfl⟩ := hv2.form
    skip
    refine rputL (nodeOf i ns[i]) a1 a2 c1 c2 hi0 (by omega) (by omega) (ArgAt.of hrp') (fun σ6 hle6 => ?_)
    refine LS.done ?_
    (repeat (first | refine RS.seq ?_ | refine RS.region ?_ | refine RS.regionQ ?_ (by kernel_rfl) (by kernel_rfl) | refine RS.skip ?_ | refine RS.inBlock ?_ | refine RS.block ?_ | refine RS.exit ?_)); refine mvI ?_; (first | refine addN ?_ | refine addI ?_); refine asI ?_; refine LS.done ?_; (repeat (first | refine RS.seq ?_ | refine RS.region ?_ | refine RS.regionQ ?_ (by kernel_rfl) (by kernel_rfl) | refine RS.skip ?_ | refine RS.inBlock ?_ | refine RS.block ?_ | refine RS.exit ?_))
    exact ih (i + 1, ⟨putN S0 (nodeOf i ns[i]), S0.taken⟩, σ6) ⟨by (try dsimp only); omega, by (try dsimp only); omega, hi0.put _, ht0, PH.le_trans hle2 (by (try dsimp only); exact PH.le_trans ‹PH.le σ2 _› (PH.le_trans hle4 (PH.le_trans hle3 hle6)))⟩ (by (try dsimp only); omega) ⟨rfl, trivial⟩ (by repeat (first | with_reducible exact Out.refl _ _ _ | exact Out.hv | refine Out.upd ?_ | refine Out.hvIn ?_)) ⟨fun h => h⟩ rfl
  clear z
  clear ih hin hi8
  (repeat (first | refine RS.seq ?_ | refine RS.region ?_ | refine RS.regionQ ?_ (by kernel_rfl) (by kernel_rfl) | refine RS.skip ?_ | refine RS.inBlock ?_ | refine RS.block ?_ | refine RS.exit ?_)); refine asI ?_; refine LS.done ?_
  (repeat (first | refine RS.seq ?_ | refine RS.region ?_ | refine RS.regionQ ?_ (by kernel_rfl) (by kernel_rfl) | refine RS.skip ?_ | refine RS.inBlock ?_ | refine RS.block ?_ | refine RS.exit ?_))
  refine RS.loopF (X := Nat × LedD × PH) 9 100 (fun x => x.1 ≤ 5 ∧ x.1 ≤ ms.length ∧ LedInv x.2.1 (3 * x.1) ∧ x.2.1.taken.length ≤ x.1 ∧ PH.le (hp w) x.2.2) (fun x => [(10, .int .i64 x.1)]) (fun x => x.2.2) (fun x => [ledHP bl x.2.1, refHP b16 x.2.1]) (fun x => 5 - x.1) (0, S0, σ2) ⟨by omega, by omega, hi0, ht0, hle2⟩ ⟨rfl, trivial⟩ rfl ⟨fun h => h⟩ ?_
  clear hi0 ht0 hle2
  rintro ⟨i, S0, σ2⟩ gg ⟨hi8, hin, hi0, ht0, hle2⟩ ih
  simp only at hi8 hin hi0 ht0 hle2 ih ⊢
  (repeat (first | refine RS.seq ?_ | refine RS.region ?_ | refine RS.regionQ ?_ (by kernel_rfl) (by kernel_rfl) | refine RS.skip ?_ | refine RS.inBlock ?_ | refine RS.block ?_ | refine RS.exit ?_)); refine mvI ?_; refine mvL ?_; refine lenL ?_; refine ltI ?_; refine mvB ?_
  refine LS.cut 49 53 [(52, .bool (decide (i < 5 ∧ i < ms.length)))] (fun gg => ?_) (fun J => ?_)
  rotate_left
  · refine LS.part 49 (fun g1 => ?_) (fun g1 => ?_)
    · refine LS.on ?_; refine mvI ?_; refine LS.on ?_; refine ltI ?_; refine pk (v := .bool _) ?_; refine LS.done ?_
      simp only [decide_eq_true_eq] at g1
      exact J ⟨boolV (decide_eq_decide.2 (by omega)), trivial⟩ (by repeat (first | with_reducible exact Out.refl _ _ _ | exact Out.hv | refine Out.upd ?_ | refine Out.hvIn ?_))
    · refine LS.off ?_; refine LS.off ?_; refine pk (v := .bool _) ?_; refine LS.done ?_
      simp only [decide_eq_false_iff_not] at g1
      exact J ⟨boolV (by symm; exact decide_eq_false (by omega)), trivial⟩ (by repeat (first | with_reducible exact Out.refl _ _ _ | exact Out.hv | refine Out.upd ?_ | refine Out.hvIn ?_))
  (repeat (first | refine RS.seq ?_ | refine RS.region ?_ | refine RS.regionQ ?_ (by kernel_rfl) (by kernel_rfl) | refine RS.skip ?_ | refine RS.inBlock ?_ | refine RS.block ?_ | refine RS.exit ?_))
  refine RS.cond (fun z => ?_) (fun z => ?_)
  · simp only [decide_eq_true_eq] at z
    obtain ⟨b, o, rfl, hrow⟩ := hrm.addr (fun h => by simp [h] at z)
    obtain ⟨hcell, h64⟩ := (hrow.mono hle2).int i z.2
    obtain ⟨kx, hkx⟩ : ∃ kx, kx = ms[i] := ⟨_, rfl⟩
    rw [← hkx] at hcell h64
    have hpl := placesOf_len ks kx
    (repeat (first | refine RS.seq ?_ | refine RS.region ?_ | refine RS.regionQ ?_ (by kernel_rfl) (by kernel_rfl) | refine RS.skip ?_ | refine RS.inBlock ?_ | refine RS.block ?_ | refine RS.exit ?_)); refine mvP ?_; refine mvI ?_; refine mvL ?_; refine mvL ?_; refine mvI ?_; refine idx (i := i) ?_; refine ldS hcell ?_
    refine callT (fun v τ => RepL τ v (placesOf ks kx)) (fun v τ1 σ3 hq1 hN1 hle3 hτ1 => ?_) (fun w' hw => lplaces_c ks kx _ w' (hrk.mono (PH.le_trans hle2 hw.imm)))
    obtain ⟨a1, c1, rfl⟩ := hq1.form
    skip
    refine takeL (i : Int) _ (placesOf ks kx) hi0 (by omega) (by omega) (ArgL.of (hq1.mono hτ1)) (fun σ4 hle4 => ?_)
    refine LS.done ?_
    have hle24 := PH.le_trans hle3 hle4
    (repeat (first | refine RS.seq ?_ | refine RS.region ?_ | refine RS.regionQ ?_ (by kernel_rfl) (by kernel_rfl) | refine RS.skip ?_ | refine RS.inBlock ?_ | refine RS.block ?_ | refine RS.exit ?_)); refine mvP ?_; refine mvI ?_; refine mvL ?_; refine mvL ?_; refine mvI ?_; refine idx (i := i) ?_; refine ldS (PH.cell_mono hle24 hcell) ?_
    refine callT (fun v τ => RepL τ v (placesOf ks kx)) (fun v τ2 σ5 hq2 hN2 hle5 hτ2 => ?_) (fun w' hw => lplaces_c ks kx _ w' (hrk.mono (PH.le_trans hle2 (PH.le_trans hle24 hw.imm))))
    obtain ⟨a2, c2, rfl⟩ := hq2.form
    skip
    refine rtakeL (i : Int) (by show I64 (i : Int); omega) _ (placesOf ks kx) hi0 (by omega) (by omega) (by omega) (hq2.mono hτ2) (fun σ6 hle6 => ?_)
    refine LS.done ?_
    (repeat (first | refine RS.seq ?_ | refine RS.region ?_ | refine RS.regionQ ?_ (by kernel_rfl) (by kernel_rfl) | refine RS.skip ?_ | refine RS.inBlock ?_ | refine RS.block ?_ | refine RS.exit ?_)); refine mvI ?_; (first | refine addN ?_ | refine addI ?_); refine asI ?_; refine LS.done ?_; (repeat (first | refine RS.seq ?_ | refine RS.region ?_ | refine RS.regionQ ?_ (by kernel_rfl) (by kernel_rfl) | refine RS.skip ?_ | refine RS.inBlock ?_ | refine RS.block ?_ | refine RS.exit ?_))
    have htl := takeT_len S0 (i : Int) (placesOf ks kx)
    exact ih (i + 1, ⟨S0.nodes, takeT S0 (i : Int) (placesOf ks kx)⟩, σ6) ⟨by (try dsimp only); omega, by (try dsimp only); omega, hi0.take (m := 3) hpl (by omega), by (try dsimp only); omega, PH.le_trans hle2 (PH.le_trans hle24 (PH.le_trans hle5 hle6))⟩ (by (try dsimp only); omega) ⟨rfl, trivial⟩ (by repeat (first | with_reducible exact Out.refl _ _ _ | exact Out.hv | refine Out.upd ?_ | refine Out.hvIn ?_)) ⟨fun h => h⟩ rfl
  clear z
  have hi1 : LedInv S0 15 := ⟨hi0.nodes, hi0.keys, hi0.some_, hi0.right, hi0.there, hi0.fits, fun nm => by have := hi0.count nm; omega, hi0.size⟩
  have ht1 : S0.taken.length ≤ 5 := by omega
  clear ih hin hi8 hi0 ht0
  (repeat (first | refine RS.seq ?_ | refine RS.region ?_ | refine RS.regionQ ?_ (by kernel_rfl) (by kernel_rfl) | refine RS.skip ?_ | refine RS.inBlock ?_ | refine RS.block ?_ | refine RS.exit ?_)); refine asI ?_; refine LS.done ?_
  (repeat (first | refine RS.seq ?_ | refine RS.region ?_ | refine RS.regionQ ?_ (by kernel_rfl) (by kernel_rfl) | refine RS.skip ?_ | refine RS.inBlock ?_ | refine RS.block ?_ | refine RS.exit ?_))
  refine RS.loopF (X := Nat × PH) 9 100 (fun x => x.1 ≤ 20 ∧ x.1 ≤ ks.length ∧ PH.le (hp w) x.2) (fun x => [(11, .int .i64 x.1)]) (fun x => x.2) (fun x => [ledHP bl S0, refHP b16 S0]) (fun x => 20 - x.1) (0, σ2) ⟨by omega, by omega, hle2⟩ ⟨rfl, trivial⟩ rfl ⟨fun h => h⟩ ?_
  clear hle2
  rintro ⟨i, σ2⟩ gg ⟨hi8, hin, hle2⟩ ih
  simp only at hi8 hin hle2 ih ⊢
  (repeat (first | refine RS.seq ?_ | refine RS.region ?_ | refine RS.regionQ ?_ (by kernel_rfl) (by kernel_rfl) | refine RS.skip ?_ | refine RS.inBlock ?_ | refine RS.block ?_ | refine RS.exit ?_)); refine mvI ?_; refine mvL ?_; refine lenL ?_; refine ltI ?_; refine mvB ?_
  refine LS.cut 77 81 [(80, .bool (decide (i < 20 ∧ i < ks.length)))] (fun gg => ?_) (fun J => ?_)
  rotate_left
  · refine LS.part 77 (fun g1 => ?_) (fun g1 => ?_)
    · refine LS.on ?_; refine mvI ?_; refine LS.on ?_; refine ltI ?_; refine pk (v := .bool _) ?_; refine LS.done ?_
      simp only [decide_eq_true_eq] at g1
      exact J ⟨boolV (decide_eq_decide.2 (by omega)), trivial⟩ (by repeat (first | with_reducible exact Out.refl _ _ _ | exact Out.hv | refine Out.upd ?_ | refine Out.hvIn ?_))
    · refine LS.off ?_; refine LS.off ?_; refine pk (v := .bool _) ?_; refine LS.done ?_
      simp only [decide_eq_false_iff_not] at g1
      exact J ⟨boolV (by symm; exact decide_eq_false (by omega)), trivial⟩ (by repeat (first | with_reducible exact Out.refl _ _ _ | exact Out.hv | refine Out.upd ?_ | refine Out.hvIn ?_))
  (repeat (first | refine RS.seq ?_ | refine RS.region ?_ | refine RS.regionQ ?_ (by kernel_rfl) (by kernel_rfl) | refine RS.skip ?_ | refine RS.inBlock ?_ | refine RS.block ?_ | refine RS.exit ?_))
  refine RS.cond (fun z => ?_) (fun z => ?_)
  · simp only [decide_eq_true_eq] at z
    obtain ⟨b, o, rfl, hrow⟩ := hrk.addr (fun h => by simp [h] at z)
    obtain ⟨hcell, h64⟩ := (hrow.mono hle2).int i z.2
    obtain ⟨kx, hkx⟩ : ∃ kx, kx = ks[i] := ⟨_, rfl⟩
    rw [← hkx] at hcell h64
    have hpl := placesOf_len ms kx
    (repeat (first | refine RS.seq ?_ | refine RS.region ?_ | refine RS.regionQ ?_ (by kernel_rfl) (by kernel_rfl) | refine RS.skip ?_ | refine RS.inBlock ?_ | refine RS.block ?_ | refine RS.exit ?_)); refine mvP ?_; refine mvL ?_; refine mvL ?_; refine mvI ?_; refine idx (i := i) ?_; refine ldS hcell ?_
    refine callT (fun v τ => RepL τ v (placesOf ms kx)) (fun v τ1 σ3 hq1 hN1 hle3 hτ1 => ?_) (fun w' hw => lplaces_c ms kx _ w' (hrm.mono (PH.le_trans hle2 hw.imm)))
    obtain ⟨a1, c1, rfl⟩ := hq1.form
    skip
    by_cases e : takeE S0 9 (placesOf ms kx) = 0
    · obtain ⟨hg1, hg2⟩ := give_take hi1 e
      refine takeL' 9 _ (placesOf ms kx) 0 ⟨S0.nodes, takeT S0 9 (placesOf ms kx)⟩ hi1 (by omega) e rfl (by omega) (ArgL.of (hq1.mono hτ1)) (fun σ4 hle4 => ?_)
      refine eqI ?_; rw [decide_eq_true (show (0 : Int) = 0 from rfl)]; refine mvB ?_; refine LS.on ?_; refine mvP ?_; refine LS.on ?_
      refine giveL' (S := ⟨S0.nodes, takeT S0 9 (placesOf ms kx)⟩) 9 0 S0 hg1 (by simp only [hg2]) ?_
      refine LS.on ?_; refine neI ?_; rw [decide_eq_true (show (0 : Int) = 0 from rfl)]; refine pk (v := .bool _) ?_; refine LS.done ?_
      (repeat (first | refine RS.seq ?_ | refine RS.region ?_ | refine RS.regionQ ?_ (by kernel_rfl) (by kernel_rfl) | refine RS.skip ?_ | refine RS.inBlock ?_ | refine RS.block ?_ | refine RS.exit ?_)); refine RS.condF ?_
      (repeat (first | refine RS.seq ?_ | refine RS.region ?_ | refine RS.regionQ ?_ (by kernel_rfl) (by kernel_rfl) | refine RS.skip ?_ | refine RS.inBlock ?_ | refine RS.block ?_ | refine RS.exit ?_)); refine mvI ?_; (first | refine addN ?_ | refine addI ?_); refine asI ?_; refine LS.done ?_; (repeat (first | refine RS.seq ?_ | refine RS.region ?_ | refine RS.regionQ ?_ (by kernel_rfl) (by kernel_rfl) | refine RS.skip ?_ | refine RS.inBlock ?_ | refine RS.block ?_ | refine RS.exit ?_))
      exact ih (i + 1, σ4) ⟨by (try dsimp only); omega, by (try dsimp only); omega, PH.le_trans hle2 (PH.le_trans hle3 hle4)⟩ (by (try dsimp only); omega) ⟨rfl, trivial⟩ (by repeat (first | with_reducible exact Out.refl _ _ _ | exact Out.hv | refine Out.upd ?_ | refine Out.hvIn ?_)) ⟨fun h => h⟩ rfl
    · refine takeL' 9 _ (placesOf ms kx) (takeE S0 9 (placesOf ms kx)) S0 hi1 (by omega) rfl (by rw [takeT, if_neg e]) (by omega) (ArgL.of (hq1.mono hτ1)) (fun σ4 hle4 => ?_)
      refine eqI ?_; rw [decide_eq_false e]; refine mvB ?_; refine LS.off ?_; refine LS.off ?_; refine LS.off ?_; refine pk (v := .bool _) ?_; refine LS.done ?_
      (repeat (first | refine RS.seq ?_ | refine RS.region ?_ | refine RS.regionQ ?_ (by kernel_rfl) (by kernel_rfl) | refine RS.skip ?_ | refine RS.inBlock ?_ | refine RS.block ?_ | refine RS.exit ?_)); refine RS.condF ?_
      (repeat (first | refine RS.seq ?_ | refine RS.region ?_ | refine RS.regionQ ?_ (by kernel_rfl) (by kernel_rfl) | refine RS.skip ?_ | refine RS.inBlock ?_ | refine RS.block ?_ | refine RS.exit ?_)); refine mvI ?_; (first | refine addN ?_ | refine addI ?_); refine asI ?_; refine LS.done ?_; (repeat (first | refine RS.seq ?_ | refine RS.region ?_ | refine RS.regionQ ?_ (by kernel_rfl) (by kernel_rfl) | refine RS.skip ?_ | refine RS.inBlock ?_ | refine RS.block ?_ | refine RS.exit ?_))
      exact ih (i + 1, σ4) ⟨by (try dsimp only); omega, by (try dsimp only); omega, PH.le_trans hle2 (PH.le_trans hle3 hle4)⟩ (by (try dsimp only); omega) ⟨rfl, trivial⟩ (by repeat (first | with_reducible exact Out.refl _ _ _ | exact Out.hv | refine Out.upd ?_ | refine Out.hvIn ?_)) ⟨fun h => h⟩ rfl
  · (repeat (first | refine RS.seq ?_ | refine RS.region ?_ | refine RS.regionQ ?_ (by kernel_rfl) (by kernel_rfl) | refine RS.skip ?_ | refine RS.inBlock ?_ | refine RS.block ?_ | refine RS.exit ?_)); refine mvP ?_; refine mvP ?_
    refine sameL hi1 (by omega) (by omega) (fun σ4 hle4 => ?_)
    refine asB ?_; refine LS.done ?_
    (repeat (first | refine RS.seq ?_ | refine RS.region ?_ | refine RS.regionQ ?_ (by kernel_rfl) (by kernel_rfl) | refine RS.skip ?_ | refine RS.inBlock ?_ | refine RS.block ?_ | refine RS.exit ?_)); refine RS.ret1 (v := .bool _) Try.func4 fun w hw => ?_
    exact ⟨rfl, hw.below⟩
end Go.Proofs.Ytbinkokafbpnoaa
