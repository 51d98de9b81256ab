/- The walk of TapeOwn. -/
import Derived.Test.YtealabaiamaojaaGreatDoorQ4
namespace Go.Proofs.YtealabaiamaojaaGreatDoor
open Go.JW Go.RowKit
abbrev tyI : Nat := 3
abbrev tyP : Nat := 37
abbrev tyS : Nat := 9
theorem own9_c (kind : Int) (_ : I64 kind) (gang : Int) (_ : I64 gang) (ns : List Int) (name : Int) (_ : I64 name) (vn : Value) (w : World) (lib : LibAt (hp w)) (hr : RepL (hp w) vn ns) :
    Calls Tryz.prog 3 #[.int .i64 kind, .int .i64 gang, vn, .int .i64 name] w fun e w' => e = .returned (.bool true) ∧ Below w.heap.size w w' := by
  obtain ⟨an, cn, rfl⟩ := hr.form
  obtain ⟨R, hR⟩ : ∃ R, R = makeP kind gang ns name := ⟨_, rfl⟩
  have hok : checkP R = 0 := by rw [hR]; exact make_ok _ _ _ _
  have hoR : Oks [R] := oks_app oks_nil hok
  refine RS.enter Tryz.func3 Tryz.ntmps3 rfl rfl ?_
  refine zN ?_; refine asB ?_; refine LS.done ?_
  refine zN ?_; skip
  refine callQ (fun v _ => v = .bool true) [] (fun v σ1 k1 hq => ?_) (hc := fun w' hw => known9_s lib w' hw)
  subst hq
  refine not_ ?_; refine LS.done ?_
  refine zN ?_
  refine RS.condF ?_
  refine zN ?_; skip
  refine callX (fun b : Nat => .pointer (some ⟨b, 0, none⟩)) (fun _ => σ1) (fun b => [tapHP b [] 0]) (fun _ => True) (fun bt _ => ?_) (fun w' hw => (tnew_s w' hw).mono fun _ _ ⟨b, h1, h2⟩ => ⟨b, h1, h2, trivial⟩)
  skip
  refine callX (fun b : Nat => .pointer (some ⟨b, 0, none⟩)) (fun _ => σ1) (fun b => [tapHP b [] 0, tapHP bt [] 0]) (fun _ => True) (fun bu _ => ?_) (fun w' hw => (tnew_s w' hw).mono fun _ _ ⟨b, h1, h2⟩ => ⟨b, h1, h2, trivial⟩)
  refine asP ?_; refine asP ?_; refine LS.done ?_
  refine zN ?_; refine mvP ?_; refine bin_eql_P ?_; refine mvB ?_; refine LS.on ?_; refine mvP ?_; refine LS.on ?_; refine bin_eql_P ?_; refine pk (v := .bool _) ?_; refine LS.done ?_
  refine zN ?_
  refine RS.condF ?_
  refine zN ?_; refine mvI ?_; refine mvI ?_; refine mvL ?_; refine mvI ?_
  refine callTN (fun v τ => ∃ cs, v = .agg (List.toArray cs) ∧ Rep.rep τ cs R ∧ OwnR τ cs R) (fun v τ1 σ2 hq hN1 hd1 k2 hτ1 => ?_) (fun w' hw => by rw [hR]; exact make_c kind gang name ns _ w' (hr.mono (PH.le_trans k1 hw.imm)))
  obtain ⟨cs, rfl, hrep1, hown1⟩ := hq
  obtain ⟨f1, rfl⟩ := rep_form hrep1
  refine mvI ?_; refine mvI ?_; refine mvL ?_; refine mvI ?_
  refine callTN (fun v τ => ∃ cs, v = .agg (List.toArray cs) ∧ Rep.rep τ cs R ∧ OwnR τ cs R) (fun v τ2 σ3 hq hN2 hd2 k3 hτ2 => ?_) (fun w' hw => by rw [hR]; exact make_c kind gang name ns _ w' (hr.mono (PH.le_trans k1 (PH.le_trans k2 hw.imm))))
  obtain ⟨cs, rfl, hrep2, _⟩ := hq
  obtain ⟨f2, rfl⟩ := rep_form hrep2
  refine alloc_ (fun b11 => ?_); refine alloc_ (fun b12 => ?_); refine st (.agg _) _ ?_; refine st (.agg _) _ ?_; refine LS.done ?_
  refine RS.to (K' := [rcW b12 R f2, rcW b11 R f1, tapHP bu [] 0, tapHP bt [] 0]) ?_ ⟨fun h => h⟩
  have l3 : PH.le (hp w) σ3 := PH.le_trans k1 (PH.le_trans k2 k3)
  have t13 : PH.le τ1 σ3 := PH.le_trans hτ1 k3
  have hd : ∀ x o, τ1 x = some o → τ2 x = none := fun x o h => hd2 x o (hτ1 x o h)
  refine zN ?_; refine mvP ?_; refine ldA (rcV R f1) ?_
  refine callQ (fun v _ => v = .tuple #[]) [rcW b12 R f2, rcW b11 R f1, tapHP bu [] 0, tapHP bt [R] 0] (fun v σ4 k4 hq => ?_) (hc := fun w' hw => (write_s R (rcV R f1) hok oks_nil (by simp) (lib.mono l3) (fun w hw => Rep.mono hrep1 (PH.le_trans t13 hw.imm)) w' (hw.front [_, _, _] [tapHP bt [] 0])).mono fun _ _ ⟨v, σ', h1, h2, h3, h4⟩ => ⟨v, σ', h1, h2, h3, h4.front [_] [_, _, _]⟩)
  subst hq
  refine LS.done ?_
  have l4 := PH.le_trans l3 k4
  have t14 := PH.le_trans t13 k4
  have t24 := PH.le_trans hτ2 k4
  obtain ⟨hOp, hOm⟩ := own_q hown1
  have hOq := (rep_q hrep1).2
  have hI1 : R.peers.length ≤ 140737488355328 := by obtain ⟨_, _, _, _, e, _, _, h, _⟩ := hrep1; exact h.1
  have hI2 : R.places.length ≤ 140737488355328 := (rep_q hrep1).1.1
  have hI3 : R.node.marks.length ≤ 140737488355328 := by obtain ⟨_, _, _, _, e, _, _, _, _, _, _, _, h, _⟩ := hrep1; exact h.1
  obtain ⟨ap, aq, am, at_, cp, cq, cm, ct⟩ := f1
  refine RS.thaw (.slice ap R.peers.length cp) (hOp.mono t14) (fun b cap hm hv => hOp.new hN1 hm hv) (fun σ5 keep5 own5 => ?_)
  have l5 := keep5 _ l4 (fun b cap hm hv => hp_none (hOp.new hN1 hm hv))
  have t25 := keep5 _ t24 (fun b cap hm hv => hOp.off hd hm hv)
  have q5 := own5 _ _ _ _ (by decide) (hOq.mono t14)
  have m5 := own5 _ _ _ _ (by decide) (hOm.mono t14)
  refine zN ?_; refine asI ?_; refine LS.done ?_
  refine zN ?_
  refine RS.loopF (X := Nat) 13 55 (fun x => x ≤ R.peers.length) (fun x => [(13, .int .i64 x)]) (fun _ => σ5) (fun _ => [rowO tyI 1 (.slice ap R.peers.length cp) R.peers.length, rcW b12 R f2, rcW b11 R ⟨ap, aq, am, at_, cp, cq, cm, ct⟩, tapHP bu [] 0, tapHP bt [R] 0]) (fun x => R.peers.length - x) 0 (Nat.zero_le _) ⟨rfl, trivial⟩ rfl ⟨fun h => h⟩ ?_
  rintro x g hx ih
  refine zN ?_; refine mvI ?_; refine fld ?_; refine ld1 (v := .slice _ _ _) ?_; refine lenL ?_; refine ltI ?_; refine LS.done ?_
  refine zN ?_
  refine RS.cond (fun z => ?_) (fun z => ?_)
  · have z := of_decide_eq_true z
    have hm0 : R.peers.length ≠ 0 := by omega
    refine RS.openO (.slice ap R.peers.length cp) hm0 (fun b c0 cap e hc hl => ?_)
    injection e with e _ e3
    subst e; subst e3
    have hst : Nat.ble (0 + x * 1 + 0 + 1) c0.length = true := Nat.ble_eq_true_of_le (by omega)
    refine zN ?_
    refine zN ?_; refine fld ?_; refine ld1 (v := .slice _ _ _) ?_; refine mvI ?_; refine idx (i := x) ?_ (hi := by omega); refine st (.int .i64 9) (setAt c0 (0 + x * 1 + 0) [.int .i64 9]) ?_ (hr := hst); refine LS.done ?_
    refine zN ?_; refine mvI ?_; (first | refine addN ?_ | refine addI ?_); refine asI ?_; refine LS.done ?_
    refine zN ?_
    exact ih (x + 1) (by omega) (by (try dsimp only); omega) ⟨intV (by omega), trivial⟩ (by repeat (first | with_reducible exact Out.refl _ _ _ | exact Out.hv | refine Out.upd ?_ | refine Out.hvIn ?_)) ⟨fun h => rowO_of hc (by rw [setAt_length]; exact hl) h⟩ rfl
  have z := of_decide_eq_false z
  refine RS.exit ?_
  refine RS.to (K' := [rcW b12 R f2, rcW b11 R ⟨ap, aq, am, at_, cp, cq, cm, ct⟩, tapHP bu [] 0, tapHP bt [R] 0]) ?_ ⟨fun h => h.tail⟩
  refine RS.thaw (.slice aq R.places.length cq) q5 (fun b cap hm hv => hOq.new hN1 hm hv) (fun σ6 keep6 own6 => ?_)
  have l6 := keep6 _ l5 (fun b cap hm hv => hp_none (hOq.new hN1 hm hv))
  have t26 := keep6 _ t25 (fun b cap hm hv => hOq.off hd hm hv)
  have m6 := own6 _ _ _ _ (by decide) m5
  refine zN ?_; refine asI ?_; refine LS.done ?_
  refine zN ?_
  refine RS.loopF (X := Nat) 14 67 (fun x => x ≤ R.places.length) (fun x => [(14, .int .i64 x)]) (fun _ => σ6) (fun _ => [rowO tyP 5 (.slice aq R.places.length cq) R.places.length, rcW b12 R f2, rcW b11 R ⟨ap, aq, am, at_, cp, cq, cm, ct⟩, tapHP bu [] 0, tapHP bt [R] 0]) (fun x => R.places.length - x) 0 (Nat.zero_le _) ⟨rfl, trivial⟩ rfl ⟨fun h => h⟩ ?_
  rintro x g hx ih
  refine zN ?_; refine mvI ?_; refine fld ?_; refine ld1 (v := .slice _ _ _) ?_; refine lenL ?_; refine ltI ?_; refine LS.done ?_
  refine zN ?_
  refine RS.cond (fun z => ?_) (fun z => ?_)
  · have z := of_decide_eq_true z
    have hm0 : R.places.length ≠ 0 := by omega
    refine RS.openO (.slice aq R.places.length cq) hm0 (fun b c0 cap e hc hl => ?_)
    injection e with e _ e3
    subst e; subst e3
    have hst : Nat.ble (0 + x * 5 + 0 + 1) c0.length = true := Nat.ble_eq_true_of_le (by omega)
    refine zN ?_
    refine zN ?_; refine fld ?_; refine ld1 (v := .slice _ _ _) ?_; refine mvI ?_; refine idx (i := x) ?_ (hi := by omega); refine fld ?_; refine st (.string ⟨#[122]⟩) (setAt c0 (0 + x * 5 + 0) [.string ⟨#[122]⟩]) ?_ (hr := hst); refine LS.done ?_
    refine zN ?_; refine mvI ?_; (first | refine addN ?_ | refine addI ?_); refine asI ?_; refine LS.done ?_
    refine zN ?_
    exact ih (x + 1) (by omega) (by (try dsimp only); omega) ⟨intV (by omega), trivial⟩ (by repeat (first | with_reducible exact Out.refl _ _ _ | exact Out.hv | refine Out.upd ?_ | refine Out.hvIn ?_)) ⟨fun h => rowO_of hc (by rw [setAt_length]; exact hl) h⟩ rfl
  have z := of_decide_eq_false z
  refine RS.exit ?_
  refine RS.to (K' := [rcW b12 R f2, rcW b11 R ⟨ap, aq, am, at_, cp, cq, cm, ct⟩, tapHP bu [] 0, tapHP bt [R] 0]) ?_ ⟨fun h => h.tail⟩
  refine RS.thaw (.slice am R.node.marks.length cm) m6 (fun b cap hm hv => hOm.new hN1 hm hv) (fun σ7 keep7 own7 => ?_)
  have l7 := keep7 _ l6 (fun b cap hm hv => hp_none (hOm.new hN1 hm hv))
  have t27 := keep7 _ t26 (fun b cap hm hv => hOm.off hd hm hv)
  refine zN ?_; refine asI ?_; refine LS.done ?_
  refine zN ?_
  refine RS.loopF (X := Nat) 15 80 (fun x => x ≤ R.node.marks.length) (fun x => [(15, .int .i64 x)]) (fun _ => σ7) (fun _ => [rowO tyS 1 (.slice am R.node.marks.length cm) R.node.marks.length, rcW b12 R f2, rcW b11 R ⟨ap, aq, am, at_, cp, cq, cm, ct⟩, tapHP bu [] 0, tapHP bt [R] 0]) (fun x => R.node.marks.length - x) 0 (Nat.zero_le _) ⟨rfl, trivial⟩ rfl ⟨fun h => h⟩ ?_
  rintro x g hx ih
  refine zN ?_; refine mvI ?_; refine fld ?_; refine fld ?_; refine ld1 (v := .slice _ _ _) ?_; refine lenL ?_; refine ltI ?_; refine LS.done ?_
  refine zN ?_
  refine RS.cond (fun z => ?_) (fun z => ?_)
  · have z := of_decide_eq_true z
    have hm0 : R.node.marks.length ≠ 0 := by omega
    refine RS.openO (.slice am R.node.marks.length cm) hm0 (fun b c0 cap e hc hl => ?_)
    injection e with e _ e3
    subst e; subst e3
    have hst : Nat.ble (0 + x * 1 + 0 + 1) c0.length = true := Nat.ble_eq_true_of_le (by omega)
    refine zN ?_
    refine zN ?_; refine fld ?_; refine fld ?_; refine ld1 (v := .slice _ _ _) ?_; refine mvI ?_; refine idx (i := x) ?_ (hi := by omega); refine st (.string ⟨#[122]⟩) (setAt c0 (0 + x * 1 + 0) [.string ⟨#[122]⟩]) ?_ (hr := hst); refine LS.done ?_
    refine zN ?_; refine mvI ?_; (first | refine addN ?_ | refine addI ?_); refine asI ?_; refine LS.done ?_
    refine zN ?_
    exact ih (x + 1) (by omega) (by (try dsimp only); omega) ⟨intV (by omega), trivial⟩ (by repeat (first | with_reducible exact Out.refl _ _ _ | exact Out.hv | refine Out.upd ?_ | refine Out.hvIn ?_)) ⟨fun h => rowO_of hc (by rw [setAt_length]; exact hl) h⟩ rfl
  have z := of_decide_eq_false z
  refine RS.exit ?_
  refine RS.to (K' := [rcW b12 R f2, tapHP bu [] 0, tapHP bt [R] 0]) ?_ ⟨fun h => SepIn.cons_sub (fun _ h => h.tail) h.tail⟩
  have hL7 := lib.mono l7
  refine zN ?_; refine mvP ?_
  refine callQ (fun v σ' => ∃ τ, PH.le (libP σ7) τ ∧ PH.le τ σ' ∧ RepQ 33 τ v [R] ∧ ∀ b o, τ b = some o → libP σ7 b = some o ∨ σ7 b = none) [rcW b12 R f2, tapHP bu [] 0, tapHP bt [R] 0] (fun v σ8 k8 hq => ?_)
    (hc := fun w' hw => (local_c (hc := fun M' Ko hs => all_s hoR (by simp) (lib_libP hL7) w' hs) (fun F h => tap_calm.at_ h) (libP_le σ7) (hw.front [_, _] [tapHP bt [R] 0])).mono fun _ _ ⟨v, σ', h1, h2, h3, h4⟩ => ⟨v, σ', h1, h2, h3, h4.front [_] [_, _]⟩)
  obtain ⟨τ3, m3, t38, hq3, hd3⟩ := hq
  obtain ⟨a16, c16, rfl⟩ := hq3.form
  obtain ⟨b16, o16, e16, hrow3⟩ := hq3.1.addr (by simp)
  obtain ⟨cs3, hcell3, hrep3⟩ := hrow3 0 (by simp)
  obtain ⟨f3, rfl⟩ := rep_form hrep3
  have hrep3 : Rep.rep τ3 (rcV R f3) R := hrep3
  have hq33 := rep_q hrep3
  obtain ⟨b16', c0, cap16, e2, _, hb16, _⟩ : ∃ b c0 cap, Value.slice a16 1 c16 = .slice (some ⟨b, 0, none⟩) 1 cap ∧ 1 ≤ cap ∧ τ3 b = some (.cells (List.toArray c0) 33 (0, 0)) ∧ 1 * 10 ≤ c0.length := by
    rcases hq3.2 with h | h
    · cases h
    · exact h
  injection e2 with e2 _ e3
  subst e3
  rw [e16] at e2
  injection e2 with e2
  injection e2 with e2 e4 _
  subst e2; subst e4; subst e16
  refine asL ?_; refine LS.done ?_
  have l8 := PH.le_trans l7 k8
  have t28 := PH.le_trans t27 k8
  have hcell8 := PH.cells_mono (n := 10) t38 rfl hcell3
  refine zD ?_; refine RS.drawG [(85, some false), (93, some false)] [.free, .free, .free, .free, .free, .free, .free, .ex, .ex, .free, .free, .free, .free, .eff, .ex, .free, .free] [rcW b12 R f2, tapHP bu [] 0, tapHP bt [R] 0] ?_ (by kernel_rfl) (by kernel_rfl) (by kernel_rfl) ⟨fun h => h⟩; simp only [ers, ersO, onOff, glook, nthO, List.map_cons, List.map_nil, Option.bind_some, Option.map_some, Nat.beq, cond_true, cond_false, BEq.beq]; refine D.mvL ?_; refine D.lenL ?_; refine D.neI ?_; refine D.mvB ?_; refine D.mvL ?_; refine D.idx (i := 0) ?_ (hi := by simp); refine D.ldSAf (vs := rcV R f3) rfl hcell8 ?_; refine D.ldA (rcV R f2) ?_
  refine D.callP ?_ (hc := fun _ σ' w hle _ hw => same_x _ _ R R w (Rep.mono hrep3 (PH.le_trans t38 (PH.le_trans hle hw.imm))) (Rep.mono hrep2 (PH.le_trans t28 (PH.le_trans hle hw.imm))))
  rw [decide_eq_true (show R = R from rfl)]
  refine D.not_ ?_; refine D.pk (v := .bool _) ?_; refine D.mvB ?_; refine D.mvP ?_
  refine D.callW [.pointer (some ⟨bu, 0, none⟩)] (fun v σ' => RepL σ' v ([] : List RecD)) (fun _ _ _ h hs => h.mono hs) [rcW b12 R f2, tapHP bu [] 0, tapHP bt [R] 0] ?_
    (hc := fun σ' w' X hle hw => (all_s oks_nil (by simp) (lib.mono (PH.le_trans l8 hle)) w' (hw.front [X, _] [tapHP bu [] 0])).mono fun _ _ ⟨v, σ'', h1, h2, h3, h4⟩ => ⟨v, σ'', h1, h2.1, h3, h4.front [_] [X, _]⟩)
  refine D.lenU 95 0 ?_ (fun us σ' _ hf => RepL.form (show RepL σ' (us 95) ([] : List RecD) from hf.1)); refine D.neI ?_; refine D.pk (v := .bool _) ?_; refine D.doneG [(85, some false), (93, some false)] ⟨⟨rfl, rfl⟩, ⟨rfl, rfl⟩, trivial⟩ (fun us σ1 hle1 hfs => ?_)
  have k9 := hle1
  refine RS.ow ?_
  refine zN ?_
  refine RS.condF ?_
  have hn2 : R.places.length ≠ 0 → ∀ b cap, Value.slice f3.a2 R.places.length f3.c2 = .slice (some ⟨b, 0, none⟩) R.places.length cap → σ7 b = none ∧ ∃ c0, τ3 b = some (.cells (List.toArray c0) 37 (0, 0)) := fun hm b cap hv => places_new hL7 hd3 hq33 hm hv
  obtain ⟨aP, aQ, aM, aT, cP, cQ, cM, cT⟩ := f3
  have k79 := PH.le_trans k8 k9
  refine RS.thaw (.slice aQ R.places.length cQ) (hq33.2.mono (PH.le_trans t38 k9)) (fun b cap hm hv => new_of l7 (hn2 hm b cap hv).1) (fun σ10 keep10 own10 => ?_)
  have k710 := keep10 _ k79 (fun b cap hm hv => (hn2 hm b cap hv).1)
  have l10 := PH.le_trans l7 k710
  have t210 := PH.le_trans t27 k710
  have hcb : PH.le (fun x => if x = b16 then τ3 x else none) σ10 := keep10 _ (PH.le_trans (fun x o h => by
    have h : (if x = b16 then τ3 x else none) = some o := h
    split at h
    · exact h
    · cases h) (PH.le_trans t38 k9)) (fun b cap hm hv => by
    obtain ⟨_, c1, h1⟩ := hn2 hm b cap hv
    have : b ≠ b16 := fun e => by subst e; rw [hb16] at h1; injection h1 with h1; injection h1 with _ h1 _; exact absurd h1 (by decide)
    show (if b = b16 then τ3 b else none) = none
    rw [if_neg this])
  have hcell10 := PH.cells_mono (n := 10) (vs := rcV R ⟨aP, aQ, aM, aT, cP, cQ, cM, cT⟩) hcb rfl (fun j hj => by
    have := hcell3 j hj
    simp only [PH.cell] at this ⊢
    rw [if_pos rfl]; exact this)
  have hc3 : σ10.cell b16 (0 + 0 * 10 + 3) = some (.slice aQ R.places.length cQ) := hcell10 3 (by omega)
  refine zN ?_; refine asI ?_; refine LS.done ?_
  refine zN ?_
  refine RS.loopF (X := Nat) 17 115 (fun x => x ≤ R.places.length) (fun x => [(17, .int .i64 x)]) (fun _ => σ10) (fun _ => [rowO tyP 5 (.slice aQ R.places.length cQ) R.places.length, rcW b12 R f2, tapHP bu [] 0, tapHP bt [R] 0]) (fun x => R.places.length - x) 0 (Nat.zero_le _) ⟨rfl, trivial⟩ rfl ⟨fun h => h⟩ ?_
  rintro x g hx ih
  refine zN ?_; refine mvI ?_; refine mvL ?_; refine idx (i := 0) ?_ (hi := by simp); refine fld ?_; refine ldS hc3 ?_; refine lenL ?_; refine ltI ?_; refine LS.done ?_
  refine zN ?_
  refine RS.cond (fun z => ?_) (fun z => ?_)
  · have z := of_decide_eq_true z
    have hm0 : R.places.length ≠ 0 := by omega
    refine RS.openO (.slice aQ R.places.length cQ) hm0 (fun b c0 cap e hc hl => ?_)
    injection e with e _ e3
    subst e; subst e3
    have hst : Nat.ble (0 + x * 5 + 1 + 1) c0.length = true := Nat.ble_eq_true_of_le (by omega)
    refine zN ?_
    refine zN ?_; refine mvL ?_; refine idx (i := 0) ?_ (hi := by simp); refine fld ?_; refine ldS hc3 ?_; refine mvI ?_; refine idx (i := x) ?_ (hi := by omega); refine fld ?_; refine st (.string ⟨#[121]⟩) (setAt c0 (0 + x * 5 + 1) [.string ⟨#[121]⟩]) ?_ (hr := hst); refine LS.done ?_
    refine zN ?_; refine mvI ?_; (first | refine addN ?_ | refine addI ?_); refine asI ?_; refine LS.done ?_
    refine zN ?_
    exact ih (x + 1) (by omega) (by (try dsimp only); omega) ⟨intV (by omega), trivial⟩ (by repeat (first | with_reducible exact Out.refl _ _ _ | exact Out.hv | refine Out.upd ?_ | refine Out.hvIn ?_)) ⟨fun h => rowO_of hc (by rw [setAt_length]; exact hl) h⟩ rfl
  have z := of_decide_eq_false z
  refine RS.exit ?_
  refine RS.to (K' := [rcW b12 R f2, tapHP bu [] 0, tapHP bt [R] 0]) ?_ ⟨fun h => h.tail⟩
  refine zN ?_; refine mvP ?_
  refine callTN (fun v τ => RepQ tyS τ v ((linesP [R]).map B)) (fun v τ4 σ11 hq4 hN4 hd4 k11 hτ4 => ?_) (fun w' hw => by
    obtain ⟨v, g1, g2⟩ := readTp hoR (by simp) (hw.front [_, _] [tapHP bt [R] 0])
    exact lines_q (linesP [R]) (lines_uni hoR) (by simp [linesP]) (fun l hl => by obtain ⟨r, hr, rfl⟩ := List.mem_map.1 hl; exact textP_size (hoR r hr)) v [.int .i64 0] bt w' g1 g2)
  obtain ⟨a18, c18, rfl⟩ := hq4.form
  have h18 : ((linesP [R]).map B).length = 1 := rfl
  refine asL ?_; refine LS.done ?_
  refine zN ?_; refine mvL ?_; refine lenL ?_; refine neI ?_; refine LS.done ?_
  refine zN ?_
  refine RS.condF ?_ (h := by simp [linesP])
  refine RS.thaw (.slice a18 ((linesP [R]).map B).length c18) (hq4.2.mono hτ4) (fun b cap hm hv => hq4.2.new hN4 hm hv) (fun σ12 keep12 own12 => ?_)
  have l12 := keep12 _ (PH.le_trans l10 k11) (fun b cap hm hv => hp_none (hq4.2.new hN4 hm hv))
  have t212 := keep12 _ (PH.le_trans t210 k11) (fun b cap hm hv => hq4.2.off (fun x o h => by
    cases e : τ2 x with
    | none => rfl
    | some o' => have := hd4 x o' (t210 x o' e); rw [this] at h; cases h) hm hv)
  refine RS.openO (.slice a18 ((linesP [R]).map B).length c18) (show ((linesP [R]).map B).length ≠ 0 from Nat.one_ne_zero) (fun b c0 cap e hc hl => ?_)
  injection e with e _ e3
  subst e; subst e3
  have hst : Nat.ble (0 + 0 * 1 + 1) c0.length = true := Nat.ble_eq_true_of_le (by rw [h18] at hl; omega)
  refine zN ?_; refine mvL ?_; refine idx (i := 0) ?_ (hi := Nat.one_pos); refine st (.string ⟨#[]⟩) (setAt c0 (0 + 0 * 1) [.string ⟨#[]⟩]) ?_ (hr := hst); refine LS.done ?_
  refine RS.to (K' := [rcW b12 R f2, tapHP bu [] 0, tapHP bt [R] 0]) ?_ ⟨fun h => h.tail⟩
  refine zN ?_; refine mvP ?_
  refine callQ (fun v σ' => RepL σ' v [R]) [rcW b12 R f2, tapHP bu [] 0, tapHP bt [R] 0] (fun v σ13 k13 hq5 => ?_) (hc := fun w' hw => (all_s hoR (by simp) (lib.mono l12) w' (hw.front [_, _] [tapHP bt [R] 0])).mono fun _ _ ⟨v, σ', h1, h2, h3, h4⟩ => ⟨v, σ', h1, h2.1, h3, h4.front [_] [_, _]⟩)
  obtain ⟨a19, c19, rfl⟩ := hq5.form
  obtain ⟨b19, o19, rfl, hrow5⟩ := hq5.addr (by simp)
  obtain ⟨cs5, hcell5, hrep5⟩ := hrow5 0 (by simp)
  obtain ⟨f5, rfl⟩ := rep_form hrep5
  have hrep5 : Rep.rep σ13 (rcV R f5) R := hrep5
  refine mvP ?_
  refine callQ (fun v σ' => RepL σ' v (refL [R])) [rcW b12 R f2, tapHP bu [] 0, tapHP bt [R] 0] (fun v σ14 k14 hq6 => ?_) (hc := fun w' hw => (lines_s hoR (by simp) w' (hw.front [_, _] [tapHP bt [R] 0])).mono fun _ _ ⟨v, σ', h1, h2, h3, h4⟩ => ⟨v, σ', h1, h2, h3, h4.front [_] [_, _]⟩)
  obtain ⟨a20, c20, rfl⟩ := hq6.form
  obtain ⟨b20, o20, rfl, hrow6⟩ := hq6.addr (by simp [refL, linesP])
  obtain ⟨hcell6, _⟩ := hrow6.str 0 (by simp [refL, linesP])
  rw [show (refL [R])[0]'(by simp [refL, linesP]) = B (textP R) by simp [refL, linesP]] at hcell6
  have h20 : (refL [R]).length = 1 := rfl
  refine asL ?_; refine asL ?_; refine LS.done ?_
  have hcell5' := PH.cells_mono (n := 10) k14 rfl hcell5
  have hrep5' := Rep.mono hrep5 k14
  have hrep2' := Rep.mono hrep2 (PH.le_trans t212 (PH.le_trans k13 k14))
  refine zD ?_; refine RS.drawG [(129, some true), (136, some true), (141, some true)] [.free, .free, .free, .free, .free, .free, .ex, .ex, .ex, .free, .free, .free, .free, .free, .free, .free, .free, .free, .ex, .ex, .ex, .free, .free, .free] _ ?_ (by kernel_rfl) (by kernel_rfl) (by kernel_rfl) ⟨fun h => h⟩; simp only [ers, ersO, onOff, glook, nthO, List.map_cons, List.map_nil, Option.bind_some, Option.map_some, Nat.beq, cond_true, cond_false, BEq.beq]; refine D.mvL ?_; refine D.lenL ?_; refine D.eqI ?_; refine D.mvB ?_; refine D.mvL ?_; refine D.idx (i := 0) ?_ (hi := by simp); refine D.ldSA (vs := rcV R f5) rfl hcell5' ?_; refine D.ldA (rcV R f2) ?_
  refine D.callP ?_ (hc := fun _ σ' w hle _ hw => same_x _ _ R R w (Rep.mono hrep5' (PH.le_trans hle hw.imm)) (Rep.mono hrep2' (PH.le_trans hle hw.imm)))
  rw [decide_eq_true (show R = R from rfl)]
  refine D.pk (v := .bool _) ?_; refine D.mvB ?_; refine D.mvL ?_; refine D.lenL ?_; refine D.eqI ?_; refine D.pk (v := .bool _) ?_; refine D.mvB ?_; refine D.mvL ?_; refine D.idx (i := 0) ?_ (hi := by simp [refL, linesP]); refine D.ldS hcell6 ?_; refine D.ldA (rcV R f2) ?_
  refine D.callP ?_ (hc := fun _ σ' w hle _ hw => textD_x _ R w (Rep.mono hrep2' (PH.le_trans hle hw.imm)) hok)
  refine D.eqS ?_; rw [decide_eq_true (show B (textP R) = B (textP R) from rfl)]; refine D.pk (v := .bool _) ?_; refine D.asB ?_; refine D.doneG [(129, some true), (136, some true), (141, some true)] ⟨⟨rfl, rfl⟩, ⟨rfl, rfl⟩, ⟨rfl, rfl⟩, trivial⟩ (fun us σ1 hle1 hfs => ?_)
  refine RS.ow ?_
  refine zN ?_; refine RS.ret1 (v := .bool _) Tryz.func3 fun w hw => ?_
  exact ⟨rfl, hw.below⟩
end Go.Proofs.YtealabaiamaojaaGreatDoor
