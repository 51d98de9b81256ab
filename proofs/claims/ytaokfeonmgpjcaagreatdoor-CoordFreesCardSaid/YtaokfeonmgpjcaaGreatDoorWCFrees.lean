/- The walk of CoordFrees. -/
import Derived.Test.YtaokfeonmgpjcaaGreatDoorP4
namespace Go.Proofs.YtaokfeonmgpjcaaGreatDoor
open Go.JW Go.RowKit
namespace Frees
def s1 (n : Nat) : CoD := gets (c1 n) 2 true n
def s2 (n : Nat) : CoD := gets (s1 n) 4 true n
def s3 (n : Nat) : CoD := (releaseP (s2 n) 5).1
def s4 (n : Nat) : Nat → CoD
  | 0 => s3 n
  | i + 1 => (getP (tickP (s4 n i)).1 (mK 10 ((i : Int) + 1) false)).1
theorem inv3 {n : Nat} (h1 : 1 ≤ n) (hn : n ≤ 3) : Inv (s3 n) (1 + n + n + 1) := (((inv1 h1 hn).gets 2 true n).gets 4 true n).release 5
theorem inv4 {n : Nat} (h1 : 1 ≤ n) (hn : n ≤ 3) : ∀ i, Inv (s4 n i) (1 + n + n + 1 + i)
  | 0 => inv3 h1 hn
  | i + 1 => ((inv4 h1 hn i).tick).get _
theorem f1 {n : Nat} : 1 ≤ n → n ≤ 3 → stateP (c1 n).gs 5 = 1 := W3 (P := fun n => stateP (c1 n).gs 5 = 1) (by decide +kernel)
theorem f2 {n : Nat} : 1 ≤ n → n ≤ 3 → (releaseP (s2 n) 5).2.2 = 0 ∧ (releaseP (s2 n) 5).2.1.map sgM = (List.range n).map (fun (i : Nat) => (9, 0, (i : Int) + 1, false)) ∧ stateP (s3 n).gs 5 = 5 ∧ (s3 n).rs.length = 3 :=
  W3 (P := fun n => (releaseP (s2 n) 5).2.2 = 0 ∧ (releaseP (s2 n) 5).2.1.map sgM = (List.range n).map (fun (i : Nat) => (9, 0, (i : Int) + 1, false)) ∧ stateP (s3 n).gs 5 = 5 ∧ (s3 n).rs.length = 3) (by decide +kernel)
theorem f3 {n : Nat} : 1 ≤ n → n ≤ 3 → (tickP (s3 n)).2.map sgM = (List.range n).map (fun (i : Nat) => (9, 0, (i : Int) + 1, false)) :=
  W3 (P := fun n => (tickP (s3 n)).2.map sgM = (List.range n).map (fun (i : Nat) => (9, 0, (i : Int) + 1, false))) (by decide +kernel)
theorem f4 {n : Nat} : 1 ≤ n → n ≤ 3 → ∀ i ∈ List.range n, (waitsP (tickP (s4 n i)).1.gs 5).length = n - i ∧ (tickP (s4 n i)).2.length ≤ 3 :=
  W3 (P := fun n => ∀ i ∈ List.range n, (waitsP (tickP (s4 n i)).1.gs 5).length = n - i ∧ (tickP (s4 n i)).2.length ≤ 3) (by decide +kernel)
theorem f5 {n : Nat} : 1 ≤ n → n ≤ 3 → (tickP (s4 n n)).2.length = 0 ∧ (waitsP (tickP (s4 n n)).1.gs 5).length = 0 ∧ stateP (tickP (s4 n n)).1.gs 5 = 5 :=
  W3 (P := fun n => (tickP (s4 n n)).2.length = 0 ∧ (waitsP (tickP (s4 n n)).1.gs 5).length = 0 ∧ stateP (tickP (s4 n n)).1.gs 5 = 5) (by decide +kernel)
end Frees
open Frees
theorem frees_c (shards : Int) (_ : I64 shards) (w : World) (lib : LibAt (hp w)) :
    Calls Tryz.prog 8 #[.int .i64 shards] w fun e w' => e = .returned (.bool true) ∧ Below w.heap.size w w' := by
  refine RS.enter Tryz.func8 Tryz.ntmps8 rfl rfl ?_
  refine zN ?_; refine asB ?_; refine LS.done ?_
  refine zN ?_; skip
  refine callQ (fun v _ => v = .bool true) [] (fun v σ1 k1 hq => ?_) (hc := fun w' hw => known11_s lib w' hw)
  subst hq
  refine not_ ?_; refine LS.done ?_
  refine zN ?_
  refine RS.condF ?_
  refine zN ?_; refine mvI ?_
  refine callP ?_ (hc := fun w _ => w11_c _ _ (by omega) (by omega) w)
  obtain ⟨n, hn⟩ : ∃ n : Nat, (n : Int) = 1 + shards % 3 := ⟨(1 + shards % 3).toNat, by omega⟩
  have h1 : 1 ≤ n := by omega
  have h3 : n ≤ 3 := by omega
  (first | refine addN ?_ | refine addI ?_); refine asI ?_; refine LS.done ?_
  rw [← hn]
  refine zN ?_; skip
  refine callX (X := W11 × PH) (fun x => ptV x.1.w) (fun x => x.2) (fun x => CS x.1 c0 []) (fun x => PH.le σ1 x.2) (fun x hx => ?_) (fun w' hw => (open_w w' hw).mono fun _ _ ⟨x, h1, h2, h3⟩ => ⟨x, h1, h2, h3⟩)
  obtain ⟨z, σ2⟩ := x
  dsimp only at hx ⊢
  have lib2 : LibAt σ2 := lib.mono (PH.le_trans k1 hx)
  refine asP ?_; refine LS.done ?_
  refine zN ?_; refine mvP ?_; refine bin_eql_P ?_; refine LS.done ?_
  refine zN ?_
  refine RS.condF ?_
  refine zN ?_; refine mvP ?_; refine nilck ?_; refine fld ?_; refine ld1 (v := .pointer _) ?_
  refine releaseE inv0 5 lib2 (c' := c0) (l := []) (e := 5) rfl (fun a29 p29 σ3 k3 lib3 _ => ?_)
  refine mvT ?_; refine extr (v := .slice _ _ _) ?_; refine extr (v := .int _ _) ?_; refine asL ?_; refine asI ?_; refine LS.done ?_
  refine zD ?_; refine RS.draw [.free, .free, .free, .ex, .free, .ex, .eff] [woH z] ?_ (by kernel_rfl) (by kernel_rfl) (by infer_instance); refine D.mvP ?_; refine D.nilck ?_; refine D.fld ?_; refine D.ld1 (v := .pointer _) ?_; refine D.mvI ?_
  refine D.callN (fun v τ => RepA τ v (gangK 5 n)) ?_ (hc := fun _ _ w' _ _ _ => gangA_c 5 n (by omega) ⟨by decide, by decide⟩ w')
  skip
  have hsub := submitK h1 (by omega) 5 3 ⟨by omega, by omega⟩ (by omega)
  refine D.callWU (fun us => [ptV z.c, us 37]) (fun v τ => AnsM (allP (ggK 5 n)) 0 v τ) (ansM_mono _ _) (CS z (c1 n) []) ?_ (hc := fun us σ' w' X hle hfs hw => by
    obtain ⟨τ, hg, ht, _⟩ : ∃ τ, RepA τ (us 37) (gangK 5 n) ∧ PH.le τ σ' ∧ New _ τ := by first | exact hfs.1 | exact hfs.2.1
    have h := submitA (c := c0) inv0 (by omega) (lib3.mono hle) (hg.mono ht) hw
    rw [show c0 = (⟨[], []⟩ : CoD) from rfl, hsub] at h
    exact h)
  refine D.done (fun us σ1 hle1 hfs => ?_)
  refine RS.ow ?_
  have lib4 := lib3.mono hle1
  refine zN ?_; refine mvP ?_; refine nilck ?_; refine fld ?_; refine ld1 (v := .pointer _) ?_
  refine releaseE (inv1 h1 h3) 5 lib4 (c' := c1 n) (l := []) (e := 7) (release_shut (by rw [f1 h1 h3]; decide) (by rw [f1 h1 h3]; decide)) (fun a44 p44 σ5 k5 lib5 _ => ?_)
  refine mvT ?_; refine extr (v := .slice _ _ _) ?_; refine extr (v := .int _ _) ?_; refine asL ?_; refine asI ?_; refine LS.done ?_
  refine zN ?_; refine asI ?_; refine LS.done ?_
  refine zN ?_
  refine RS.loopF (X := Nat × PH) 9 59 (fun x => x.1 ≤ n ∧ LibAt x.2) (fun x => [(9, .int .i64 ((x.1 : Int) + 1))]) (fun x => x.2) (fun x => CS z (gets (c1 n) 2 true x.1) []) (fun x => n - x.1) (0, σ5) ⟨Nat.zero_le _, lib5⟩ ⟨rfl, trivial⟩ rfl ⟨fun h => h⟩ ?_
  rintro ⟨i, σi⟩ g ⟨hi, libi⟩ ih
  dsimp only at hi libi
  refine zN ?_; refine mvI ?_; refine mvI ?_; refine JW.leI ?_; refine LS.done ?_
  refine zN ?_
  refine RS.cond (fun c => ?_) (fun c => ?_)
  · have c := of_decide_eq_true c
    refine RS.skip ?_
    refine zN ?_; refine mvP ?_; refine nilck ?_; refine fld ?_; refine ld1 (v := .pointer _) ?_; refine mvI ?_; refine bld (vals := [(0, .int _ _), (1, .int _ _), (3, .int _ _), (6, .bool _)]) [_, _, _, _, _, _, _] ?_
    refine getL ((inv1 h1 h3).gets 2 true i) (mK 2 ((i : Int) + 1) true) (mK_ok (by (try dsimp only); omega)) rfl rfl libi (fun a_ p_ σ_ k_ lib_ _ => ?_)
    refine LS.done ?_
    refine zN ?_; refine mvI ?_; (first | refine addN ?_ | refine addI ?_); refine asI ?_; refine LS.done ?_
    refine zN ?_
    exact ih (i + 1, σ_) ⟨by (try dsimp only); omega, lib_⟩ (by (try dsimp only); omega) ⟨by first | rfl | exact intV (by (try dsimp only); omega), trivial⟩ (by repeat (first | with_reducible exact Out.refl _ _ _ | exact Out.hv | refine Out.upd ?_ | refine Out.hvIn ?_)) ⟨fun h => h⟩ rfl
  have c := of_decide_eq_false c
  obtain rfl : n = i := by (try dsimp only at c); omega
  refine RS.exit ?_
  refine zN ?_; refine asI ?_; refine LS.done ?_
  refine zN ?_
  refine RS.loopF (X := Nat × PH) 10 71 (fun x => x.1 ≤ n ∧ LibAt x.2) (fun x => [(10, .int .i64 ((x.1 : Int) + 1))]) (fun x => x.2) (fun x => CS z (gets (s1 n) 4 true x.1) []) (fun x => n - x.1) (0, σi) ⟨Nat.zero_le _, libi⟩ ⟨rfl, trivial⟩ rfl ⟨fun h => h⟩ ?_
  rintro ⟨i, σi⟩ g ⟨hi, libi⟩ ih
  dsimp only at hi libi
  refine zN ?_; refine mvI ?_; refine mvI ?_; refine JW.leI ?_; refine LS.done ?_
  refine zN ?_
  refine RS.cond (fun c => ?_) (fun c => ?_)
  · have c := of_decide_eq_true c
    refine RS.skip ?_
    refine zN ?_; refine mvP ?_; refine nilck ?_; refine fld ?_; refine ld1 (v := .pointer _) ?_; refine mvI ?_; refine bld (vals := [(0, .int _ _), (1, .int _ _), (3, .int _ _), (6, .bool _)]) [_, _, _, _, _, _, _] ?_
    refine getL (((inv1 h1 h3).gets 2 true _).gets 4 true i) (mK 4 ((i : Int) + 1) true) (mK_ok (by (try dsimp only); omega)) rfl rfl libi (fun a_ p_ σ_ k_ lib_ _ => ?_)
    refine LS.done ?_
    refine zN ?_; refine mvI ?_; (first | refine addN ?_ | refine addI ?_); refine asI ?_; refine LS.done ?_
    refine zN ?_
    exact ih (i + 1, σ_) ⟨by (try dsimp only); omega, lib_⟩ (by (try dsimp only); omega) ⟨by first | rfl | exact intV (by (try dsimp only); omega), trivial⟩ (by repeat (first | with_reducible exact Out.refl _ _ _ | exact Out.hv | refine Out.upd ?_ | refine Out.hvIn ?_)) ⟨fun h => h⟩ rfl
  have c := of_decide_eq_false c
  obtain rfl : n = i := by (try dsimp only at c); omega
  refine RS.exit ?_
  have h2 := f2 h1 h3
  have e20 : releaseP (s2 n) 5 = (s3 n, (releaseP (s2 n) 5).2.1, 0) := by rw [← h2.1]; rfl
  obtain ⟨l20, hl20⟩ : ∃ l, l = (releaseP (s2 n) 5).2.1 := ⟨_, rfl⟩
  rw [← hl20] at h2 e20
  have hi3 := inv3 h1 h3
  refine zN ?_; refine mvP ?_; refine nilck ?_; refine fld ?_; refine ld1 (v := .pointer _) ?_
  refine releaseE (((inv1 h1 h3).gets 2 true n).gets 4 true n) 5 libi e20 (fun a76 p76 σ7 k7 lib7 r76 => ?_)
  refine mvT ?_; refine extr (v := .slice _ _ _) ?_; refine extr (v := .int _ _) ?_; refine asL ?_; refine asI ?_; refine LS.done ?_
  refine zN ?_; refine mvP ?_; refine nilck ?_; refine fld ?_; refine ld1 (v := .pointer _) ?_
  refine releaseE hi3 5 lib7 (c' := s3 n) (l := []) (e := 7) (release_shut (by rw [h2.2.2.1]; decide) (by rw [h2.2.2.1]; decide)) (fun a84 p84 σ8 k8 lib8 _ => ?_)
  refine mvT ?_; refine extr (v := .slice _ _ _) ?_; refine extr (v := .int _ _) ?_; refine asL ?_; refine asI ?_; refine LS.done ?_
  refine zN ?_; refine mvI ?_; refine neI ?_; refine mvB ?_; refine LS.on ?_; refine mvI ?_; refine LS.on ?_; refine neI ?_; refine pk (v := .bool _) ?_; refine mvB ?_; refine LS.on ?_; refine mvI ?_; refine LS.on ?_; refine neI ?_; refine pk (v := .bool _) ?_; refine mvB ?_; refine LS.on ?_; refine mvI ?_; refine LS.on ?_; refine neI ?_; refine pk (v := .bool _) ?_; refine mvB ?_; refine LS.on ?_; refine mvL ?_; refine LS.on ?_; refine mvI ?_; refine LS.on ?_
  refine allE (r76.mono k8) (AllP.of h2.2.1) ?_
  refine LS.on ?_; refine not_ ?_; refine pk (v := .bool _) ?_; refine mvB ?_; refine LS.on ?_; refine mvP ?_; refine LS.on ?_; refine nilck ?_; refine LS.on ?_; refine fld ?_; refine LS.on ?_; refine ld1 (v := .pointer _) ?_; refine LS.on ?_
  refine stateE hi3 5 h2.2.2.1 ?_
  refine LS.on ?_; refine neI ?_; refine pk (v := .bool _) ?_; refine mvB ?_; refine LS.on ?_; refine mvP ?_; refine LS.on ?_; refine nilck ?_; refine LS.on ?_; refine fld ?_; refine LS.on ?_; refine ld1 (v := .pointer _) ?_; refine LS.on ?_
  refine lastE h2.2.2.2 ?_
  refine LS.on ?_; refine neI ?_; refine pk (v := .bool _) ?_; refine LS.done ?_
  refine zN ?_
  refine RS.condF ?_
  refine zN ?_; refine asI ?_; refine LS.done ?_
  refine zN ?_
  refine RS.loopF (X := Nat × PH) 15 160 (fun x => x.1 ≤ n ∧ LibAt x.2) (fun x => [(15, .int .i64 ((x.1 : Int) + 1))]) (fun x => x.2) (fun x => CS z (s4 n x.1) []) (fun x => n - x.1) (0, σ8) ⟨Nat.zero_le _, lib8⟩ ⟨rfl, trivial⟩ rfl ⟨fun h => h⟩ ?_
  rintro ⟨i, σi⟩ g ⟨hi, libi⟩ ih
  dsimp only at hi libi
  refine zN ?_; refine mvI ?_; refine mvI ?_; refine JW.leI ?_; refine LS.done ?_
  refine zN ?_
  refine RS.cond (fun c => ?_) (fun c => ?_)
  · have c := of_decide_eq_true c
    have hlt : i < n := by (try dsimp only at c); omega
    obtain ⟨hw4, ht4⟩ := f4 h1 h3 i (List.mem_range.2 hlt)
    have hi4 := inv4 h1 h3 i
    refine RS.skip ?_
    refine zN ?_; refine mvP ?_; refine nilck ?_; refine fld ?_; refine ld1 (v := .pointer _) ?_
    obtain ⟨ct, lt, het⟩ : ∃ ct lt, tickP (s4 n i) = (ct, lt) := ⟨_, _, rfl⟩
    have hit : Inv ct (1 + n + n + 1 + i) := by have := hi4.tick; rw [het] at this; exact this
    rw [het] at hw4 ht4; dsimp only at hw4 ht4
    have hs5 : s4 n (i + 1) = (getP ct (mK 10 ((i : Int) + 1) false)).1 := by rw [show s4 n (i + 1) = (getP (tickP (s4 n i)).1 (mK 10 ((i : Int) + 1) false)).1 from rfl, het]
    refine tickE hi4 libi het (fun a132 p132 σ9 k9 lib9 r132 => ?_)
    refine mvI ?_
    refine allL _ _ 9 n false r132 (by omega) (by omega) (fun r hr => ?_)
    have hrr : i = 0 → r = true := fun h0 => by
      subst h0
      have := f3 h1 h3
      rw [show s3 n = s4 n 0 from rfl, het] at this
      exact hr (AllP.of this)
    refine not_ ?_; refine mvB ?_
    cases r with
    | true =>
      refine LS.off ?_; refine LS.off ?_; refine pk (v := .bool _) ?_; refine mvB ?_; refine LS.on ?_; refine mvP ?_; refine LS.on ?_; refine nilck ?_; refine LS.on ?_; refine fld ?_; refine LS.on ?_; refine ld1 (v := .pointer _) ?_; refine LS.on ?_
      refine waitsE hit 5 lib9 hw4 (fun a145 p145 σ10 k10 lib10 => ?_)
      refine LS.on ?_; refine lenL ?_; refine LS.on ?_; refine mvI ?_; refine LS.on ?_; (first | refine addN ?_ | refine addI ?_); refine LS.on ?_; refine mvI ?_; refine LS.on ?_; (first | refine subN ?_ | refine subI ?_); refine LS.on ?_; refine neI ?_; refine pk (v := .bool _) ?_; refine LS.done ?_
      refine zN ?_
      refine RS.condF ?_ (h := by show (!decide _) = false; rw [decide_eq_true (by (try dsimp only); omega)]; rfl)
      refine zN ?_; refine mvP ?_; refine nilck ?_; refine fld ?_; refine ld1 (v := .pointer _) ?_; refine mvI ?_; refine bld (vals := [(0, .int _ _), (1, .int _ _), (3, .int _ _)]) [_, _, _, _, _, _, _] ?_
      refine getL hit (mK 10 ((i : Int) + 1) false) (mK_ok (by (try dsimp only); omega)) rfl rfl lib10 (fun a_ p_ σ_ k_ lib_ _ => ?_)
      refine LS.done ?_
      refine zN ?_; refine mvI ?_; (first | refine addN ?_ | refine addI ?_); refine asI ?_; refine LS.done ?_
      refine zN ?_
      exact ih (i + 1, σ_) ⟨by (try dsimp only); omega, lib_⟩ (by (try dsimp only); omega) ⟨by first | rfl | exact intV (by (try dsimp only); omega), trivial⟩ (by repeat (first | with_reducible exact Out.refl _ _ _ | exact Out.hv | refine Out.upd ?_ | refine Out.hvIn ?_)) ⟨fun h => by rw [hs5]; exact h⟩ rfl
    | false =>
      have h0 : i ≠ 0 := fun h => by have := hrr h; cases this
      refine LS.on ?_; refine mvI ?_; refine LS.on ?_; refine eqI ?_; rw [show decide ((i : Int) + 1 = 1) = false from decide_eq_false (by omega)]; refine pk (v := .bool _) ?_; refine mvB ?_; refine LS.on ?_; refine mvP ?_; refine LS.on ?_; refine nilck ?_; refine LS.on ?_; refine fld ?_; refine LS.on ?_; refine ld1 (v := .pointer _) ?_; refine LS.on ?_
      refine waitsE hit 5 lib9 hw4 (fun a145 p145 σ10 k10 lib10 => ?_)
      refine LS.on ?_; refine lenL ?_; refine LS.on ?_; refine mvI ?_; refine LS.on ?_; (first | refine addN ?_ | refine addI ?_); refine LS.on ?_; refine mvI ?_; refine LS.on ?_; (first | refine subN ?_ | refine subI ?_); refine LS.on ?_; refine neI ?_; refine pk (v := .bool _) ?_; refine LS.done ?_
      refine zN ?_
      refine RS.condF ?_ (h := by show (!decide _) = false; rw [decide_eq_true (by (try dsimp only); omega)]; rfl)
      refine zN ?_; refine mvP ?_; refine nilck ?_; refine fld ?_; refine ld1 (v := .pointer _) ?_; refine mvI ?_; refine bld (vals := [(0, .int _ _), (1, .int _ _), (3, .int _ _)]) [_, _, _, _, _, _, _] ?_
      refine getL hit (mK 10 ((i : Int) + 1) false) (mK_ok (by (try dsimp only); omega)) rfl rfl lib10 (fun a_ p_ σ_ k_ lib_ _ => ?_)
      refine LS.done ?_
      refine zN ?_; refine mvI ?_; (first | refine addN ?_ | refine addI ?_); refine asI ?_; refine LS.done ?_
      refine zN ?_
      exact ih (i + 1, σ_) ⟨by (try dsimp only); omega, lib_⟩ (by (try dsimp only); omega) ⟨by first | rfl | exact intV (by (try dsimp only); omega), trivial⟩ (by repeat (first | with_reducible exact Out.refl _ _ _ | exact Out.hv | refine Out.upd ?_ | refine Out.hvIn ?_)) ⟨fun h => by rw [hs5]; exact h⟩ rfl
  have c := of_decide_eq_false c
  obtain rfl : n = i := by (try dsimp only at c); omega
  refine RS.exit ?_
  obtain ⟨g1, g2, g3⟩ := f5 h1 h3
  obtain ⟨ct, lt, het⟩ : ∃ ct lt, tickP (s4 n n) = (ct, lt) := ⟨_, _, rfl⟩
  have hi4 := inv4 h1 h3 n
  have hit : Inv ct (1 + n + n + 1 + n) := by have := hi4.tick; rw [het] at this; exact this
  rw [het] at g1 g2 g3
  dsimp only at g1 g2 g3
  obtain rfl : lt = [] := List.length_eq_zero_iff.1 g1
  refine zN ?_; refine mvP ?_; refine nilck ?_; refine fld ?_; refine ld1 (v := .pointer _) ?_
  refine tickE hi4 libi het (fun a132 p132 σ9 k9 lib9 r132 => ?_)
  refine lenL ?_; refine eqI ?_; refine mvB ?_; refine LS.on ?_; refine mvP ?_; refine LS.on ?_; refine nilck ?_; refine LS.on ?_; refine fld ?_; refine LS.on ?_; refine ld1 (v := .pointer _) ?_; refine LS.on ?_
  refine waitsE hit 5 lib9 g2 (fun a145 p145 σ10 k10 lib10 => ?_)
  refine LS.on ?_; refine lenL ?_; refine LS.on ?_; refine eqI ?_; refine pk (v := .bool _) ?_; refine mvB ?_; refine LS.on ?_; refine mvP ?_; refine LS.on ?_; refine nilck ?_; refine LS.on ?_; refine fld ?_; refine LS.on ?_; refine ld1 (v := .pointer _) ?_; refine LS.on ?_
  refine stateE hit 5 g3 ?_
  refine LS.on ?_; refine eqI ?_; refine pk (v := .bool _) ?_; refine asB ?_; refine LS.done ?_
  refine zN ?_; refine RS.ret1 (v := .bool _) Tryz.func8 fun w hw => ?_
  exact ⟨rfl, hw.below⟩
end Go.Proofs.YtaokfeonmgpjcaaGreatDoor
