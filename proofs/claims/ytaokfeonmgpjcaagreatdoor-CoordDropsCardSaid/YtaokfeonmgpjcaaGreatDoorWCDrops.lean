/- The walk of CoordDrops. -/
import Derived.Test.YtaokfeonmgpjcaaGreatDoorP4
namespace Go.Proofs.YtaokfeonmgpjcaaGreatDoor
open Go.JW Go.RowKit
namespace Drops
def sP (phase : Bool) (n : Nat) : CoD := if phase then gets (c1 n) 2 true n else c1 n
def kP (phase : Bool) : Int := if phase then 4 else 2
theorem invP {n : Nat} (h1 : 1 ≤ n) (hn : n ≤ 3) : ∀ phase, Inv (sP phase n) 4
  | true => ((inv1 h1 hn).gets 2 true n).up (by omega)
  | false => (inv1 h1 hn).up (by omega)
structure Ok (c : CoD) (l : List MsgD) (n : Nat) : Prop where
  inv : Inv c 20
  l : l.map sgM = (List.range n).map fun (i : Nat) => (5, 0, (i : Int) + 1, false)
  st : stateP c.gs 5 = 4
  rs : c.rs.length = 1
def ok (c : CoD) (l : List MsgD) (n : Nat) : Prop := l.map sgM = (List.range n).map (fun (i : Nat) => (5, 0, (i : Int) + 1, false)) ∧ stateP c.gs 5 = 4 ∧ c.rs.length = 1
instance (c l n) : Decidable (ok c l n) := inferInstanceAs (Decidable (_ ∧ _ ∧ _))
def ticks (c : CoD) : Nat → CoD
  | 0 => c
  | i + 1 => (tickP (ticks c i)).1
theorem inv_ticks {c : CoD} {k : Nat} (h : Inv c k) : ∀ i, Inv (ticks c i) k
  | 0 => h
  | i + 1 => (inv_ticks h i).tick
theorem f0 {n : Nat} : 1 ≤ n → n ≤ 3 → ∀ phase, ∀ f ∈ List.range n, ok (getP (sP phase n) (mK (kP phase) (1 + (f : Int)) false)).1 (getP (sP phase n) (mK (kP phase) (1 + (f : Int)) false)).2 n :=
  W3 (P := fun n => ∀ phase, ∀ f ∈ List.range n, ok (getP (sP phase n) (mK (kP phase) (1 + (f : Int)) false)).1 (getP (sP phase n) (mK (kP phase) (1 + (f : Int)) false)).2 n) (by decide +kernel)
theorem f1 {n : Nat} : 1 ≤ n → n ≤ 3 → ∀ phase, ok (cancelP (sP phase n) 5).1 (cancelP (sP phase n) 5).2.1 n ∧ (cancelP (sP phase n) 5).2.2 = 0 :=
  W3 (P := fun n => ∀ phase, ok (cancelP (sP phase n) 5).1 (cancelP (sP phase n) 5).2.1 n ∧ (cancelP (sP phase n) 5).2.2 = 0) (by decide +kernel)
theorem f2 {n : Nat} : 1 ≤ n → n ≤ 3 → ∀ phase, ok (tickP (ticks (sP phase n) 7)).1 (tickP (ticks (sP phase n) 7)).2 n :=
  W3 (P := fun n => ∀ phase, ok (tickP (ticks (sP phase n) 7)).1 (tickP (ticks (sP phase n) 7)).2 n) (by decide +kernel)
theorem f3 {n : Nat} : 1 ≤ n → n ≤ 3 → ∀ phase, ∀ i ∈ List.range 8, stateP (ticks (sP phase n) i).gs 5 = if phase then 2 else 1 :=
  W3 (P := fun n => ∀ phase, ∀ i ∈ List.range 8, stateP (ticks (sP phase n) i).gs 5 = if phase then 2 else 1) (by decide +kernel)
theorem Ok.of {c : CoD} {l : List MsgD} {n : Nat} (hi : Inv c 20) (h : ok c l n) : Ok c l n := ⟨hi, h.1, h.2.1, h.2.2⟩
end Drops
open Drops
theorem drops_c (shards : Int) (_ : I64 shards) (how : Int) (_ : I64 how) (who : Int) (_ : I64 who) (phase : Bool) (w : World) (lib : LibAt (hp w)) :
    Calls Tryz.prog 9 #[.int .i64 shards, .int .i64 how, .int .i64 who, .bool phase] w fun e w' => e = .returned (.bool true) ∧ Below w.heap.size w w' := by
  refine RS.enter Tryz.func9 Tryz.ntmps9 rfl rfl ?_
  refine zN ?_; refine asB ?_; refine LS.done ?_
  refine zN ?_; skip
  refine callQ (fun v _ => v = .bool true) [] (fun v σ1 k1 hq => ?_) (hc := fun w' hw => known11_s lib w' hw)
  subst hq
  refine not_ ?_; refine LS.done ?_
  refine zN ?_
  refine RS.condF ?_
  refine zN ?_; refine mvI ?_
  refine callP ?_ (hc := fun w _ => w11_c _ _ (by omega) (by omega) w)
  obtain ⟨n, hn⟩ : ∃ n : Nat, (n : Int) = 1 + shards % 3 := ⟨(1 + shards % 3).toNat, by omega⟩
  have h1 : 1 ≤ n := by omega
  have h3 : n ≤ 3 := by omega
  (first | refine addN ?_ | refine addI ?_); refine asI ?_; refine LS.done ?_
  rw [← hn]
  refine zN ?_; skip
  refine callX (X := W11 × PH) (fun x => ptV x.1.w) (fun x => x.2) (fun x => CS x.1 c0 []) (fun x => PH.le σ1 x.2) (fun x hx => ?_) (fun w' hw => (open_w w' hw).mono fun _ _ ⟨x, h1, h2, h3⟩ => ⟨x, h1, h2, h3⟩)
  obtain ⟨z, σ2⟩ := x
  dsimp only at hx ⊢
  have lib2 : LibAt σ2 := lib.mono (PH.le_trans k1 hx)
  refine asP ?_; refine LS.done ?_
  refine zN ?_; refine mvP ?_; refine bin_eql_P ?_; refine LS.done ?_
  refine zN ?_
  refine RS.condF ?_
  refine zD ?_; refine RS.draw [.free, .free, .free, .ex, .free, .ex, .eff, .ex, .ex, .ex, .ex, .free] [woH z] ?_ (by kernel_rfl) (by kernel_rfl) (by infer_instance); refine D.mvP ?_; refine D.nilck ?_; refine D.fld ?_; refine D.ld1 (v := .pointer _) ?_; refine D.mvI ?_
  refine D.callN (fun v τ => RepA τ v (gangK 5 n)) ?_ (hc := fun _ _ w' _ _ _ => gangA_c 5 n (by omega) ⟨by decide, by decide⟩ w')
  skip
  have hsub := submitK h1 (by omega) 5 3 ⟨by omega, by omega⟩ (by omega)
  refine D.callWU (fun us => [ptV z.c, us 37]) (fun v τ => AnsM (allP (ggK 5 n)) 0 v τ) (ansM_mono _ _) (CS z (c1 n) []) ?_ (hc := fun us σ' w' X hle hfs hw => by
    obtain ⟨τ, hg, ht, _⟩ : ∃ τ, RepA τ (us 37) (gangK 5 n) ∧ PH.le τ σ' ∧ New _ τ := by first | exact hfs.1 | exact hfs.2.1
    have h := submitA (c := c0) inv0 (by omega) (lib2.mono hle) (hg.mono ht) hw
    rw [show c0 = (⟨[], []⟩ : CoD) from rfl, hsub] at h
    exact h)
  refine D.mvFT (fun v τ => AnsM (allP (ggK 5 n)) 0 v τ) (ansM_mono _ _) ?_ (fun us σ' hle hf => hf.1)
  refine D.exFT (fun v τ => RepL τ v (allP (ggK 5 n))) mono_L ?_ (fun us σ' hle hf => by obtain ⟨a, c, h1, h2⟩ := hf.1; exact ⟨_, _, h1, rfl, h2⟩)
  refine D.exV (.int .i64 0) ?_ (fun us σ' hle hf => by obtain ⟨a, c, h1, h2⟩ := hf.2.1; exact ⟨_, h1, rfl⟩)
  refine D.asFT (fun v τ => RepL τ v (allP (ggK 5 n))) mono_L ?_ (fun us σ' hle hf => hf.1)
  refine D.asI ?_; refine D.done (fun us σ1 hle1 hfs => ?_)
  refine RS.ow ?_
  have lib4 := lib2.mono hle1
  refine zN ?_; refine mvI ?_; refine neI ?_; refine LS.done ?_
  refine zN ?_
  refine RS.condF ?_
  refine zN ?_; refine asI ?_; refine LS.done ?_
  refine zN ?_; refine mvB ?_; refine LS.done ?_
  repeat refine RS.seq ?_
  refine RS.cut (X := PH) 13 56 (fun x => LibAt x) (fun _ => [(13, .int .i64 (kP phase))]) (fun x => x) (fun _ => CS z (sP phase n) []) ?_ (fun J => ?_)
  rotate_left
  · cases phase with
    | true =>
      refine zN ?_
      refine RS.condT ?_
      refine zN ?_; refine asI ?_; refine LS.done ?_
      refine zN ?_
      refine RS.loopF (X := Nat × PH) 14 56 (fun x => x.1 ≤ n ∧ LibAt x.2) (fun x => [(14, .int .i64 ((x.1 : Int) + 1))]) (fun x => x.2) (fun x => CS z (gets (c1 n) 2 true x.1) []) (fun x => n - x.1) (0, _) ⟨Nat.zero_le _, lib4⟩ ⟨rfl, trivial⟩ rfl ⟨fun h => h⟩ ?_
      rintro ⟨i, σi⟩ g ⟨hi, libi⟩ ih
      dsimp only at hi libi
      refine zN ?_; refine mvI ?_; refine mvI ?_; refine JW.leI ?_; refine LS.done ?_
      refine zN ?_
      refine RS.cond (fun c => ?_) (fun c => ?_)
      · have c := of_decide_eq_true c
        refine RS.skip ?_
        refine zN ?_; refine mvP ?_; refine nilck ?_; refine fld ?_; refine ld1 (v := .pointer _) ?_; refine mvI ?_; refine bld (vals := [(0, .int _ _), (1, .int _ _), (3, .int _ _), (6, .bool _)]) [_, _, _, _, _, _, _] ?_
        refine getL ((inv1 h1 h3).gets 2 true i) (mK 2 ((i : Int) + 1) true) (mK_ok (by (try dsimp only); omega)) rfl rfl libi (fun a_ p_ σ_ k_ lib_ _ => ?_)
        refine LS.done ?_
        refine zN ?_; refine mvI ?_; (first | refine addN ?_ | refine addI ?_); refine asI ?_; refine LS.done ?_
        refine zN ?_
        exact ih (i + 1, σ_) ⟨by (try dsimp only); omega, lib_⟩ (by (try dsimp only); omega) ⟨by first | rfl | exact intV (by (try dsimp only); omega), trivial⟩ (by repeat (first | with_reducible exact Out.refl _ _ _ | exact Out.hv | refine Out.upd ?_ | refine Out.hvIn ?_)) ⟨fun h => h⟩ rfl
      have c := of_decide_eq_false c
      obtain rfl : n = i := by (try dsimp only at c); omega
      refine RS.exit ?_
      refine zN ?_; refine asI ?_; refine LS.done ?_
      exact J σi libi ⟨rfl, trivial⟩ (by repeat (first | with_reducible exact Out.refl _ _ _ | exact Out.hv | refine Out.upd ?_ | refine Out.hvIn ?_)) ⟨fun h => h⟩ rfl
    | false =>
      refine zN ?_
      refine RS.condF ?_
      refine RS.skip ?_
      exact J _ lib4 ⟨rfl, trivial⟩ (by repeat (first | with_reducible exact Out.refl _ _ _ | exact Out.hv | refine Out.upd ?_ | refine Out.hvIn ?_)) ⟨fun h => h⟩ rfl
  rintro σ5 g5 lib5
  have hP := invP h1 h3 phase
  have hkP : kP phase = 2 ∨ kP phase = 4 := by cases phase <;> simp [kP]
  refine zN ?_; refine asL ?_; refine LS.done ?_
  refine zN ?_; refine mvI ?_
  refine callP ?_ (hc := fun w _ => w11_c _ _ (by omega) (by omega) w)
  refine LS.done ?_
  repeat refine RS.seq ?_
  refine RS.cut (X := Value × CoD × List MsgD × PH) 15 104 (fun x => LibAt x.2.2.2 ∧ Ok x.2.1 x.2.2.1 n ∧ RepL x.2.2.2 x.1 x.2.2.1) (fun x => [(15, x.1)]) (fun x => x.2.2.2) (fun x => CS z x.2.1 []) ?_ (fun J => ?_)
  rotate_left
  · refine zN ?_; refine eqI ?_; refine asB ?_; refine LS.done ?_
    refine zN ?_
    refine RS.cond (fun y => ?_) (fun y => ?_)
    · obtain ⟨fw, hfw⟩ : ∃ fw : Nat, who % (n : Int) = fw := ⟨(who % (n : Int)).toNat, by have := Int.emod_nonneg who (b := (n : Int)) (by omega); omega⟩
      have hfn : fw < n := by have := Int.emod_lt_of_pos who (b := (n : Int)) (by omega); omega
      have hO := f0 h1 h3 phase fw (List.mem_range.2 hfn)
      refine zD ?_; refine RS.draw [.free, .free, .free, .ex, .free, .free, .free, .ex, .free, .free, .eff, .ex] [woH z] ?_ (by kernel_rfl) (by kernel_rfl) (by infer_instance); refine D.mvP ?_; refine D.nilck ?_; refine D.fld ?_; refine D.ld1 (v := .pointer _) ?_; refine D.mvI ?_; refine D.mvI ?_; refine D.mvI ?_
      refine D.callP (v := .int .i64 (fw : Int)) ?_ (hc := fun _ _ w' _ _ _ => by have h := w11_c who (n : Int) (by omega) (by omega) w'; rw [hfw] at h; exact h)
      (first | refine D.addN ?_ | refine D.addI ?_); refine D.bld (vals := [(0, .int _ _), (1, .int _ _), (3, .int _ _)]) [_, _, _, _, _, _, _] ?_
      refine D.callWU (fun _ => [ptV z.c, .agg (List.toArray (msgC (mK (kP phase) (1 + (fw : Int)) false) nilV nilV))]) (fun v τ => RepL τ v (getP (sP phase n) (mK (kP phase) (1 + (fw : Int)) false)).2) mono_L (CS z (getP (sP phase n) (mK (kP phase) (1 + (fw : Int)) false)).1 []) ?_ (hc := fun us σ' w' X hle hfs hw =>
        getA hP (by omega) (mK (kP phase) (1 + (fw : Int)) false) (mK_ok (by omega)) rfl rfl (lib5.mono hle) hw)
      refine D.asFT (fun v τ => RepL τ v (getP (sP phase n) (mK (kP phase) (1 + (fw : Int)) false)).2) mono_L ?_ (fun us σ' hle hf => hf.1)
      refine D.done (fun us σ6 k6 hfs => ?_)
      have hr6 : RepL σ6 (us 15) (getP (sP phase n) (mK (kP phase) (1 + (fw : Int)) false)).2 := hfs.1
      refine RS.ow ?_
      refine RS.inBlock ?_
      refine J (us 15, (getP (sP phase n) (mK (kP phase) (1 + (fw : Int)) false)).1, _, σ6) ⟨lib5.mono k6, Ok.of ((hP.get _).up (by omega)) hO, hr6⟩ ?_ ?_ ⟨fun h => h⟩ rfl
      · exact ⟨rfl, trivial⟩
      · exact Out.fill (by repeat (first | with_reducible exact Out.refl _ _ _ | exact Out.hv | refine Out.upd ?_ | refine Out.hvIn ?_)) rfl
    · refine zN ?_; refine eqI ?_; refine asB ?_; refine LS.done ?_
      refine zN ?_
      refine RS.cond (fun y2 => ?_) (fun y2 => ?_)
      · obtain ⟨hO, he⟩ := f1 h1 h3 phase
        have e1 : cancelP (sP phase n) 5 = ((cancelP (sP phase n) 5).1, (cancelP (sP phase n) 5).2.1, 0) := by rw [← he]
        refine zN ?_; refine mvP ?_; refine nilck ?_; refine fld ?_; refine ld1 (v := .pointer _) ?_
        refine cancelE hP 5 lib5 e1 (fun a98 p98 σ6 k6 lib6 r98 => ?_)
        refine mvT ?_; refine extr (v := .slice _ _ _) ?_; refine extr (v := .int _ _) ?_; refine asL ?_; refine asI ?_; refine LS.done ?_
        refine zN ?_; refine mvI ?_; refine neI ?_; refine LS.done ?_
        refine zN ?_
        refine RS.condF ?_
        refine zN ?_; refine mvL ?_; refine asL ?_; refine LS.done ?_
        refine RS.inBlock ?_
        exact J (_, (cancelP (sP phase n) 5).1, _, σ6) ⟨lib6, Ok.of ((hP.cancel 5).up (by omega)) hO, r98⟩ ⟨rfl, trivial⟩ (by repeat (first | with_reducible exact Out.refl _ _ _ | exact Out.hv | refine Out.upd ?_ | refine Out.hvIn ?_)) ⟨fun h => h⟩ rfl
      · refine zN ?_; refine asI ?_; refine LS.done ?_
        refine zN ?_
        refine RS.loopF (X := Nat × PH) 18 73 (fun x => x.1 ≤ 7 ∧ LibAt x.2) (fun x => [(18, .int .i64 x.1)]) (fun x => x.2) (fun x => CS z (ticks (sP phase n) x.1) []) (fun x => 7 - x.1) (0, σ5) ⟨Nat.zero_le _, lib5⟩ ⟨rfl, trivial⟩ rfl ⟨fun h => h⟩ ?_
        rintro ⟨i, σi⟩ g ⟨hi, libi⟩ ih
        dsimp only at hi libi
        refine zN ?_; refine mvI ?_; refine ltI ?_; refine LS.done ?_
        refine zN ?_
        refine RS.cond (fun c => ?_) (fun c => ?_)
        · have c := of_decide_eq_true c
          have hlt : i < 7 := by (try dsimp only at c); omega
          refine RS.skip ?_
          refine zN ?_; refine mvP ?_; refine nilck ?_; refine fld ?_; refine ld1 (v := .pointer _) ?_
          refine tickL (inv_ticks hP i) libi (fun a_ p_ σ_ k_ lib_ _ => ?_)
          refine LS.done ?_
          refine zN ?_; refine mvP ?_; refine nilck ?_; refine fld ?_; refine ld1 (v := .pointer _) ?_
          refine stateE (z := z) (c := ticks (sP phase n) (i + 1)) (inv_ticks hP (i + 1)) 5 (f3 h1 h3 phase (i + 1) (List.mem_range.2 (by omega))) ?_
          refine eqI ?_; refine LS.done ?_
          refine zN ?_
          refine RS.condF ?_ (h := by cases phase <;> rfl)
          refine zN ?_; refine mvI ?_; (first | refine addN ?_ | refine addI ?_); refine asI ?_; refine LS.done ?_
          refine zN ?_
          exact ih (i + 1, σ_) ⟨by (try dsimp only); omega, lib_⟩ (by (try dsimp only); omega) ⟨by first | rfl | exact intV (by (try dsimp only); omega), trivial⟩ (by repeat (first | with_reducible exact Out.refl _ _ _ | exact Out.hv | refine Out.upd ?_ | refine Out.hvIn ?_)) ⟨fun h => h⟩ rfl
        have c := of_decide_eq_false c
        obtain rfl : i = 7 := by (try dsimp only at c); omega
        refine RS.exit ?_
        refine zN ?_; refine mvP ?_; refine nilck ?_; refine fld ?_; refine ld1 (v := .pointer _) ?_
        refine tickL (inv_ticks hP 7) libi (fun a77 p77 σ6 k6 lib6 r77 => ?_)
        refine asL ?_; refine LS.done ?_
        refine RS.inBlock ?_
        exact J (_, _, _, σ6) ⟨lib6, Ok.of (((inv_ticks hP 7).tick).up (by omega)) (f2 h1 h3 phase), r77⟩ ⟨rfl, trivial⟩ (by repeat (first | with_reducible exact Out.refl _ _ _ | exact Out.hv | refine Out.upd ?_ | refine Out.hvIn ?_)) ⟨fun h => h⟩ rfl
  rintro ⟨v15, cq, lq, σ6⟩ g6 ⟨lib6, hO, r15⟩
  dsimp only at lib6 hO r15
  obtain ⟨a15, p15, rfl⟩ := r15.form
  refine zN ?_; refine mvP ?_; refine nilck ?_; refine fld ?_; refine ld1 (v := .pointer _) ?_
  refine cancelE hO.inv 5 lib6 (cancel_shut2 (by rw [hO.st]; decide)) (fun a109 p109 σ7 k7 lib7 _ => ?_)
  refine mvT ?_; refine extr (v := .slice _ _ _) ?_; refine extr (v := .int _ _) ?_; refine asL ?_; refine asI ?_; refine LS.done ?_
  refine zN ?_; refine mvP ?_; refine nilck ?_; refine fld ?_; refine ld1 (v := .pointer _) ?_
  refine releaseE hO.inv 5 lib7 (release_shut (by rw [hO.st]; decide) (by rw [hO.st]; decide)) (fun a117 p117 σ8 k8 lib8 _ => ?_)
  refine mvT ?_; refine extr (v := .slice _ _ _) ?_; refine extr (v := .int _ _) ?_; refine asL ?_; refine asI ?_; refine LS.done ?_
  refine zN ?_; refine mvL ?_; refine mvI ?_
  refine allE ((r15.mono k7).mono k8) (AllP.of hO.l) ?_
  refine mvB ?_; refine LS.on ?_; refine mvP ?_; refine LS.on ?_; refine nilck ?_; refine LS.on ?_; refine fld ?_; refine LS.on ?_; refine ld1 (v := .pointer _) ?_; refine LS.on ?_
  refine stateE hO.inv 5 hO.st ?_
  refine LS.on ?_; refine eqI ?_; refine pk (v := .bool _) ?_; refine mvB ?_; refine LS.on ?_; refine mvP ?_; refine LS.on ?_; refine nilck ?_; refine LS.on ?_; refine fld ?_; refine LS.on ?_; refine ld1 (v := .pointer _) ?_; refine LS.on ?_
  refine linesL hO.inv lib8 (fun a136 p136 σ9 k9 lib9 _ => ?_)
  rw [refL_len, hO.rs]
  refine LS.on ?_; refine lenL ?_; refine LS.on ?_; refine eqI ?_; refine pk (v := .bool _) ?_; refine mvB ?_; refine LS.on ?_; refine mvI ?_; refine LS.on ?_; refine eqI ?_; refine pk (v := .bool _) ?_; refine mvB ?_; refine LS.on ?_; refine mvI ?_; refine LS.on ?_; refine eqI ?_; refine pk (v := .bool _) ?_; refine asB ?_; refine LS.done ?_
  refine zN ?_; refine RS.ret1 (v := .bool _) Tryz.func9 fun w hw => ?_
  exact ⟨rfl, hw.below⟩
end Go.Proofs.YtaokfeonmgpjcaaGreatDoor
