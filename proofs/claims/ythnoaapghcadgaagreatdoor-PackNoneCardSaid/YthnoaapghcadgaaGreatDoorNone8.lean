/- Walk: PackNone. -/
import Derived.Test.YthnoaapghcadgaaGreatDoorPack9
namespace Go.Proofs.YthnoaapghcadgaaGreatDoor
open Go.JW Go.RowKit
theorem rowWritePod {σ : PH} {c0 : List Value} {l : List PodD} (h : CellsL σ (c0.take (l.length * 7)) l) (hl : l.length * 7 ≤ c0.length) (i : Nat) (hi : i < l.length) (f : Nat) (vs : List Value) (hf : f + vs.length ≤ 7) (x' : PodD) (hx : ∀ c, Rep.rep σ c l[i] → Rep.rep σ (setAt c f vs) x') :
    CellsL σ ((setAt c0 (0 + i * 7 + f) vs).take (l.length * 7)) (l.set i x') := by
  have hmul : i * 7 + 7 ≤ l.length * 7 := by omega
  rw [take_setAt _ _ _ _ (by omega) hl, Nat.zero_add]
  exact h.write i hi f vs hf x' hx
def nmNone : ByteArray := ⟨#[110, 111, 110, 101]⟩
def podA : PodD := ⟨⟨#[112, 97]⟩, 1, 0, 0, [], [], false⟩
theorem podA_rep (σ : PH) : Rep.rep σ (podC podA (.slice none 0 0) (.slice none 0 0)) podA := ⟨_, _, rfl, by decide, by decide, by decide, by decide, RepL.nil _ _ _, RepL.nil _ _ _⟩
theorem setN_none {n : Int} {k : Nat} : nmNone ∉ setN n k := by
  induction k with
  | zero => simp [setN]
  | succ k ih =>
    simp only [setN, List.mem_append, not_or]
    refine ⟨ih, ?_⟩
    split
    · rw [List.mem_singleton]
      intro h
      have h3 : ∀ i : Fin 5, ¬ nmNone = marks4.getD i.val ⟨#[]⟩ := by decide
      rcases Nat.lt_or_ge k 4 with hk | hk
      · exact h3 ⟨k, by omega⟩ h
      · have e : marks4.getD k ⟨#[]⟩ = marks4.getD 4 ⟨#[]⟩ := by
          have h4 : marks4.length = 4 := rfl
          simp [List.getD_eq_getElem?_getD, List.getElem?_eq_none (show marks4.length ≤ k by omega), List.getElem?_eq_none (show marks4.length ≤ 4 by omega)]
        rw [e] at h; exact h3 ⟨4, by omega⟩ h
    · simp
/-- A pod that is too great, or picks what is not there, goes nowhere. -/
theorem none_plain (ns : List Int) {pods : List PodD} {k : Nat} (hk : k < pods.length) {p : PodD} (hp' : 1099511627776 ≤ p.cpu ∨ p.picks = [nmNone]) (g mode : Int) :
    packE (bothOf ns []) g (pods.set k p) mode = 6 ∧ packL (bothOf ns []) g (pods.set k p) mode = [] ∧ packS (bothOf ns []) g (pods.set k p) mode = bothOf ns [] := by
  have ht : ∀ g, tk (bothOf ns []).taken g = [] := fun g => by rw [bothOf_nil]; rfl
  have hi := bothOf_inv ns []
  have hcap : ∀ n ∈ nodesOf (bothOf ns []), n.cpu ≤ 11 ∧ nmNone ∉ n.marks := bothOf_all (P := fun n => n.cpu ≤ 11 ∧ nmNone ∉ n.marks) fun i x => by
    refine ⟨?_, setN_none⟩
    have := wmod x 12 (by omega)
    show x % 12 ≤ 11; omega
  have ha : allP (bothOf ns []) mode (pods.set k p) [] = none := by
    refine all_none (p := p) hi (by omega) (fun own ho => spot_none_of fun n hn => ?_) (OwnOk.nil hi) ?_
    · obtain ⟨h1, h2⟩ := hcap n hn
      obtain ⟨_, herr⟩ := node_asg hi hn
      refine decide_eq_false fun hz => ?_
      obtain ⟨_, w2, _, w4, _⟩ := whyP_zero hz
      rcases hp' with hp' | hp'
      · have hin := uC_in hi (by omega) ho n.name
        have := (fitP_iff hin.1 hin.2 (fine_cap herr)).1 w4
        omega
      · rw [hp'] at w2
        simp only [allIn, List.all_cons, List.all_nil, Bool.and_true, List.any_eq_true, decide_eq_true_eq] at w2
        obtain ⟨x, hx, rfl⟩ := w2
        exact h2 hx
    · exact List.mem_iff_getElem.2 ⟨k, by rw [List.length_set]; exact hk, by simp⟩
  have hl : ¬ (pods.set k p).length = 0 := by rw [List.length_set]; omega
  have hz : ¬ 0 < (tk (bothOf ns []).taken g).length := by rw [ht]; simp
  have e : packE (bothOf ns []) g (pods.set k p) mode = 6 := by rw [packE, if_neg hz, if_neg hl, ha]
  exact ⟨e, by rw [packL, if_neg hz, if_neg hl, ha]; rfl, by rw [packS, if_neg (by rw [e]; decide)]⟩
theorem none8_c (ns ps : List Int) (at_ : Int) (ha : I64 at_) (why : Int) (hy : I64 why) (vn vp : Value) (w : World) (hT : TopsAt (hp w)) (hr : RepL (hp w) vn ns) (hrp : RepL (hp w) vp ps) : Calls Tryz.prog 5 #[vn, vp, .int .i64 at_, .int .i64 why] w fun e w' => e = .returned (.bool true) ∧ Below w.heap.size w w' := by
  obtain ⟨an, cn, rfl⟩ := hr.form
  obtain ⟨ap, cp, rfl⟩ := hrp.form
  have hpl : (podsOf ps).length ≤ 8 := podsOf_len ps
  have hi := bothOf_inv ns []
  have hl3 := bothOf_len ns []
  have hq := tdivRange (b := 2) hy (by omega)
  refine RS.enter Tryz.func5 Tryz.ntmps5 rfl rfl ?_
  (repeat (first | refine RS.seq ?_ | refine RS.region ?_ | refine RS.regionQ ?_ (by kernel_rfl) (by kernel_rfl) | refine RS.skip ?_ | refine RS.inBlock ?_ | refine RS.block ?_ | refine RS.exit ?_)); refine asB ?_; refine LS.done ?_
  (repeat (first | refine RS.seq ?_ | refine RS.region ?_ | refine RS.regionQ ?_ (by kernel_rfl) (by kernel_rfl) | refine RS.skip ?_ | refine RS.inBlock ?_ | refine RS.block ?_ | refine RS.exit ?_)); skip
  refine callP ?_ (hc := fun w' hw => known8_c w' (hT.mono hw.imm))
  refine not_ ?_; refine LS.done ?_
  (repeat (first | refine RS.seq ?_ | refine RS.region ?_ | refine RS.regionQ ?_ (by kernel_rfl) (by kernel_rfl) | refine RS.skip ?_ | refine RS.inBlock ?_ | refine RS.block ?_ | refine RS.exit ?_)); refine RS.condF ?_
  (repeat (first | refine RS.seq ?_ | refine RS.region ?_ | refine RS.regionQ ?_ (by kernel_rfl) (by kernel_rfl) | refine RS.skip ?_ | refine RS.inBlock ?_ | refine RS.block ?_ | refine RS.exit ?_)); refine mvL ?_
  refine bothLL ns [] _ _ hr (RepL.nil _ _ _) (fun bl br σ1 hle1 => ?_)
  refine mvT ?_; refine extr (v := .pointer _) ?_; refine extr (v := .pointer _) ?_; refine asP ?_; refine asP ?_; refine LS.done ?_
  (repeat (first | refine RS.seq ?_ | refine RS.region ?_ | refine RS.regionQ ?_ (by kernel_rfl) (by kernel_rfl) | refine RS.skip ?_ | refine RS.inBlock ?_ | refine RS.block ?_ | refine RS.exit ?_)); refine mvP ?_; refine bin_eql_P ?_; refine LS.done ?_
  (repeat (first | refine RS.seq ?_ | refine RS.region ?_ | refine RS.regionQ ?_ (by kernel_rfl) (by kernel_rfl) | refine RS.skip ?_ | refine RS.inBlock ?_ | refine RS.block ?_ | refine RS.exit ?_)); refine RS.condF ?_
  obtain ⟨S, hS⟩ : ∃ S, S = bothOf ns [] := ⟨_, rfl⟩
  have hplain := @none_plain ns
  rw [← hS] at hi hl3 hplain
  rw [← hS]
  (repeat (first | refine RS.seq ?_ | refine RS.region ?_ | refine RS.regionQ ?_ (by kernel_rfl) (by kernel_rfl) | refine RS.skip ?_ | refine RS.inBlock ?_ | refine RS.block ?_ | refine RS.exit ?_)); refine mvL ?_
  refine callO (X := Value) (fun x => x) (fun x => [rowD 0 52 x (podsOf ps)]) (fun _ _ => True) (fun v τ1 σ3 _ hN1 hle3 hτ1 => ?_) (fun w' hw => (pods8O_c ps _ w' (hrp.mono (PH.le_trans hle1 hw.imm))).mono fun _ _ ⟨v, τ, he, hp'⟩ => ⟨v, τ, he, hp'.rowN (Nat.zero_le _), trivial⟩)
  refine LS.to (K' := [rowD 0 52 v (podsOf ps), ledHP bl S, refHP br S]) ?_ ⟨fun h => h⟩
  have hle03 := PH.le_trans hle1 hle3
  refine LS.formD (l := podsOf ps) v (fun a1 c1 e1 _ => ?_); subst e1
  refine asL ?_; refine LS.done ?_
  (repeat (first | refine RS.seq ?_ | refine RS.region ?_ | refine RS.regionQ ?_ (by kernel_rfl) (by kernel_rfl) | refine RS.skip ?_ | refine RS.inBlock ?_ | refine RS.block ?_ | refine RS.exit ?_)); refine mvL ?_; refine lenL ?_; refine eqI ?_; refine LS.done ?_
  (repeat (first | refine RS.seq ?_ | refine RS.region ?_ | refine RS.skip ?_ | refine RS.inBlock ?_ | refine RS.block ?_ | refine RS.exit ?_))
  refine RS.cut (X := Value × List PodD) 11 71 (fun x => 0 < x.2.length ∧ x.2.length ≤ 8) (fun x => [(11, x.1)]) (fun _ => σ3) (fun x => [rowD 0 52 x.1 x.2, ledHP bl S, refHP br S]) ?_ (fun J => ?_)
  rotate_left
  · refine RS.cond (fun y => ?_) (fun y => ?_)
    · have y := of_decide_eq_true y
      (repeat (first | refine RS.seq ?_ | refine RS.region ?_ | refine RS.regionQ ?_ (by kernel_rfl) (by kernel_rfl) | refine RS.skip ?_ | refine RS.inBlock ?_ | refine RS.block ?_ | refine RS.exit ?_)); refine mvL ?_; refine bld (vals := [(0, .string _), (1, .int _ _)]) [_, _, _, _, _, _, _] ?_; refine bldS [.agg (List.toArray (podC podA (.slice none 0 0) (.slice none 0 0)))] (podC podA (.slice none 0 0) (.slice none 0 0)) (fun b31 => ?_); refine appD (v := .slice a1 (podsOf ps).length c1) (l' := [podA]) (vy := .slice (some ⟨b31, 0, none⟩) 1 1) (fun w' hw => ⟨_, srcB hw TSlice.eq, CellsL.one_ (podA_rep _)⟩) (fun v32 => ?_) (hb := by simp; omega) (hm := by simp; omega); refine as_ (v := v32) ?_; refine LS.done ?_
      exact J (v32, podsOf ps ++ [podA]) ⟨by simp, by simp; omega⟩ ⟨rfl, trivial⟩ (by repeat (first | with_reducible exact Out.refl _ _ _ | exact Out.hv | refine Out.upd ?_ | refine Out.hvIn ?_)) ⟨fun h => h.tail⟩ rfl
    · have y := of_decide_eq_false y
      refine RS.skip ?_
      exact J (_, podsOf ps) ⟨by dsimp only; omega, hpl⟩ ⟨rfl, trivial⟩ (by repeat (first | with_reducible exact Out.refl _ _ _ | exact Out.hv | refine Out.upd ?_ | refine Out.hvIn ?_)) ⟨fun h => h⟩ rfl
  rintro ⟨v, pods⟩ g4 ⟨hp0, hp8⟩
  dsimp only at hp0 hp8 ⊢
  refine RS.formD (l := pods) v (fun a2 c2 e2 _ => ?_); subst e2
  obtain ⟨m1, m2⟩ := wmod at_ (pods.length : Int) (by omega)
  obtain ⟨m3, m4⟩ := wmod why 2 (by omega)
  obtain ⟨m5, m6⟩ := wmod (why.tdiv 2) 3 (by omega)
  (repeat (first | refine RS.seq ?_ | refine RS.region ?_ | refine RS.regionQ ?_ (by kernel_rfl) (by kernel_rfl) | refine RS.skip ?_ | refine RS.inBlock ?_ | refine RS.block ?_ | refine RS.exit ?_)); refine mvI ?_; refine mvL ?_; refine lenL ?_
  refine callP ?_ (hc := fun w _ => w8_c _ _ (by omega) (by omega) w)
  refine asI ?_; refine LS.done ?_
  obtain ⟨k, hk⟩ : ∃ k : Nat, (k : Int) = at_ % (pods.length : Int) := ⟨(at_ % (pods.length : Int)).toNat, by omega⟩
  rw [← hk]
  have hkl : k < pods.length := by omega
  (repeat (first | refine RS.seq ?_ | refine RS.region ?_ | refine RS.regionQ ?_ (by kernel_rfl) (by kernel_rfl) | refine RS.skip ?_ | refine RS.inBlock ?_ | refine RS.block ?_ | refine RS.exit ?_)); refine mvI ?_
  refine callP ?_ (hc := fun w _ => w8_c _ _ (by omega) (by omega) w)
  refine eqI ?_; refine LS.done ?_
  (repeat (first | refine RS.seq ?_ | refine RS.region ?_ | refine RS.skip ?_ | refine RS.inBlock ?_ | refine RS.block ?_ | refine RS.exit ?_))
  refine RS.cut (X := PodD × PH) 12 71 (fun x => (1099511627776 ≤ x.1.cpu ∨ x.1.picks = [nmNone]) ∧ PH.le σ3 x.2) (fun _ => []) (fun x => x.2) (fun x => [rowD 0 52 (.slice a2 pods.length c2) (pods.set k x.1), ledHP bl S, refHP br S]) ?_ (fun J => ?_)
  rotate_left
  · obtain ⟨p0, hp00⟩ : ∃ p0, p0 = pods[k] := ⟨_, rfl⟩
    refine RS.cond (fun y => ?_) (fun y => ?_)
    · refine RS.openRowD (l := pods) (.slice a2 pods.length c2) (fun bR c0 cap eR hcR hcM hlR htR => ?_) (hn := hp0)
      injection eR with eR1 _ eR2
      subst eR1; subst eR2
      have hlR : c2 * 7 ≤ c0.length := hlR
      have hle : pods.length * 7 ≤ c0.length := by omega
      (repeat (first | refine RS.seq ?_ | refine RS.region ?_ | refine RS.regionQ ?_ (by kernel_rfl) (by kernel_rfl) | refine RS.skip ?_ | refine RS.inBlock ?_ | refine RS.block ?_ | refine RS.exit ?_)); refine mvL ?_; refine mvI ?_; refine idx (i := k) ?_; refine fld ?_; refine fld ?_; refine st (.int .i64 1099511627776) (setAt c0 (0 + k * 7 + 2) [.int .i64 1099511627776]) ?_ (hr := Nat.ble_eq_true_of_le (by omega)); refine LS.done ?_
      refine RS.closeRowD 0 (pods.set k { p0 with cpu := 1099511627776 }) (b := bR) (c0 := setAt c0 (0 + k * 7 + 2) [.int .i64 1099511627776]) (m := pods.length) (s := 7) hcR hcM (by rw [setAt_len]; exact hlR) (rowWritePod htR hle k hkl 2 _ (by simp) _ (fun c hc => ?_)) ?_ (hml := by simp)
      · obtain ⟨u1, u2, rfl, g1, g2, g3, g4, g5, g6⟩ := hc
        rw [← hp00] at g1 g2 g3 g4 g5 g6
        rw [← hp00]
        exact ⟨u1, u2, rfl, g1, g2, by show I64 1099511627776; decide, g4, g5, g6⟩
      exact J ({ p0 with cpu := 1099511627776 }, σ3) ⟨.inl (Int.le_refl _), PH.le_refl _⟩ trivial (by repeat (first | with_reducible exact Out.refl _ _ _ | exact Out.hv | refine Out.upd ?_ | refine Out.hvIn ?_)) ⟨fun h => h⟩ rfl
    · refine RS.openRowD (l := pods) (.slice a2 pods.length c2) (fun bR c0 cap eR hcR hcM hlR htR => ?_) (hn := hp0)
      injection eR with eR1 _ eR2
      subst eR1; subst eR2
      have hlR : c2 * 7 ≤ c0.length := hlR
      have hle : pods.length * 7 ≤ c0.length := by omega
      (repeat (first | refine RS.seq ?_ | refine RS.region ?_ | refine RS.regionQ ?_ (by kernel_rfl) (by kernel_rfl) | refine RS.skip ?_ | refine RS.inBlock ?_ | refine RS.block ?_ | refine RS.exit ?_)); refine mvL ?_; refine mvI ?_; refine bldS [.string nmNone] [.string nmNone] (fun b47 => ?_); refine LS.to (K' := [rowD 0 9 (.slice (some ⟨b47, 0, none⟩) 1 1) [nmNone], blk bR (.cells (List.toArray c0) 52 (0, 0)), ledHP bl S, refHP br S]) ?_ ⟨fun h => blkRow (x := nmNone) (fun _ => ⟨rfl, by decide⟩) h⟩; refine LS.freeze0 (l := [nmNone]) (.slice (some ⟨b47, 0, none⟩) 1 1) (fun σ4 hle4 hr4 => ?_) (hl := by simp) (hf := FindD.head); refine idx (i := k) ?_; refine fld ?_; refine st (.slice (some ⟨b47, 0, none⟩) 1 1) (setAt c0 (0 + k * 7 + 4) [.slice (some ⟨b47, 0, none⟩) 1 1]) ?_ (hr := Nat.ble_eq_true_of_le (by omega)); refine LS.done ?_
      refine RS.closeRowD 0 (pods.set k { p0 with picks := [nmNone] }) (b := bR) (c0 := setAt c0 (0 + k * 7 + 4) [.slice (some ⟨b47, 0, none⟩) 1 1]) (m := pods.length) (s := 7) hcR hcM (by rw [setAt_len]; exact hlR) (rowWritePod (htR.mono (fromN_up hle4)) hle k hkl 4 _ (by simp) _ (fun c hc => ?_)) ?_ (hml := by simp)
      · obtain ⟨u1, u2, rfl, g1, g2, g3, g4, g5, g6⟩ := hc
        rw [← hp00] at g1 g2 g3 g4 g6
        rw [← hp00]
        exact ⟨_, u2, rfl, g1, g2, g3, g4, by rw [fromN_zero]; exact hr4, g6⟩
      exact J ({ p0 with picks := [nmNone] }, σ4) ⟨.inr rfl, hle4⟩ trivial (by repeat (first | with_reducible exact Out.refl _ _ _ | exact Out.hv | refine Out.upd ?_ | refine Out.hvIn ?_)) ⟨fun h => h⟩ rfl
  rintro ⟨p, σ5⟩ g7 ⟨hpp, hle5⟩
  dsimp only at hpp hle5 ⊢
  obtain ⟨k1, k2, k3⟩ := hplain hkl hpp 9 (why.tdiv 2 % 3)
  refine RS.freeze0 (l := pods.set k p) (.slice a2 pods.length c2) (fun σ6 hle6 hr6 => ?_) (hl := by rw [List.length_set]; omega) (hf := FindD.head)
  (repeat (first | refine RS.seq ?_ | refine RS.region ?_ | refine RS.regionQ ?_ (by kernel_rfl) (by kernel_rfl) | refine RS.skip ?_ | refine RS.inBlock ?_ | refine RS.block ?_ | refine RS.exit ?_)); refine mvP ?_; refine mvL ?_; refine mvI ?_; refine quoN ?_
  refine callP ?_ (hc := fun w _ => w8_c _ _ (by omega) (by omega) w)
  skip
  refine packLL' 9 (pods.set k p) _ (why.tdiv 2 % 3) 6 [] S hi (by omega) (by rw [List.length_set]; omega) (hT.mono (PH.le_trans hle03 (PH.le_trans hle5 hle6))) hr6 k1 k2 k3 (fun v56 σ7 hle7 hr56 => ?_)
  obtain ⟨a56, c56, rfl⟩ := hr56.form
  refine mvT ?_; refine extr (v := .slice _ _ _) ?_; refine extr (v := .int _ _) ?_; refine asL ?_; refine asI ?_; refine LS.done ?_
  (repeat (first | refine RS.seq ?_ | refine RS.region ?_ | refine RS.regionQ ?_ (by kernel_rfl) (by kernel_rfl) | refine RS.skip ?_ | refine RS.inBlock ?_ | refine RS.block ?_ | refine RS.exit ?_)); refine mvI ?_; refine eqI ?_; refine mvB ?_; refine LS.on ?_; refine mvL ?_; refine LS.on ?_; refine lenL ?_; refine LS.on ?_; refine eqI ?_; rw [decide_eq_true (show ((([] : List PlaceD).length : Nat) : Int) = 0 from rfl)]; refine pk (v := .bool _) ?_; refine mvB ?_; refine LS.on ?_; refine mvP ?_; refine LS.on ?_; refine mvP ?_; refine LS.on ?_
  refine sameLL hi (by omega) (by omega) (fun σ9 hle9 => ?_)
  refine pk (v := .bool _) ?_; refine asB ?_; refine LS.done ?_
  (repeat (first | refine RS.seq ?_ | refine RS.region ?_ | refine RS.regionQ ?_ (by kernel_rfl) (by kernel_rfl) | refine RS.skip ?_ | refine RS.inBlock ?_ | refine RS.block ?_ | refine RS.exit ?_)); refine RS.ret1 (v := .bool _) Tryz.func5 fun w hw => ?_
  exact ⟨rfl, hw.below⟩
end Go.Proofs.YthnoaapghcadgaaGreatDoor
