/- The walk of CoordLate. -/
import Derived.Test.YtaokfeonmgpjcaaGreatDoorP4
namespace Go.Proofs.YtaokfeonmgpjcaaGreatDoor
open Go.JW Go.RowKit
namespace Late
def s1 (n : Nat) : CoD := gets (c1 n) 2 true n
def sF (commit : Bool) (n : Nat) : CoD := if commit then gets (s1 n) 4 true n else (cancelP (s1 n) 5).1
theorem invF {n : Nat} (h1 : 1 ≤ n) (hn : n ≤ 3) : ∀ commit, Inv (sF commit n) (1 + n + n)
  | true => ((inv1 h1 hn).gets 2 true n).gets 4 true n
  | false => by
    have h := ((inv1 h1 hn).gets 2 true n).cancel 5
    exact ⟨h.ok, h.recs, by have := h.len; show ((cancelP (s1 n) 5).1).rs.length ≤ _; unfold s1; omega⟩
def atF (commit : Bool) : Int := if commit then 3 else 4
theorem f1 {n : Nat} : 1 ≤ n → n ≤ 3 → ∀ commit, stateP (sF commit n).gs 5 = atF commit := W3 (P := fun n => ∀ commit, stateP (sF commit n).gs 5 = atF commit) (by decide +kernel)
def ok (commit : Bool) (n : Nat) (f : Nat) (k : Int) (yes : Bool) : Prop :=
  stateP (getP (sF commit n) (mK k (1 + (f : Int)) yes)).1.gs 5 = atF commit ∧ (waitsP (getP (sF commit n) (mK k (1 + (f : Int)) yes)).1.gs 5).length = n ∧
    (getP (sF commit n) (mK k (1 + (f : Int)) yes)).2.map sgM = if k = 4 then [(5, 0, 1 + (f : Int), commit)] else []
instance (commit n f k yes) : Decidable (ok commit n f k yes) := inferInstanceAs (Decidable (_ ∧ _ ∧ _))
theorem f2 {n : Nat} : 1 ≤ n → n ≤ 3 → ∀ commit yes, ∀ f ∈ List.range n, ∀ k ∈ ([2, 4, 10] : List Int), ok commit n f k yes :=
  W3 (P := fun n => ∀ commit yes, ∀ f ∈ List.range n, ∀ k ∈ ([2, 4, 10] : List Int), ok commit n f k yes) (by decide +kernel)
end Late
open Late
theorem late_c (shards : Int) (_ : I64 shards) (commit : Bool) (who : Int) (_ : I64 who) (kind : Int) (_ : I64 kind) (yes : Bool) (w : World) (lib : LibAt (hp w)) :
    Calls Tryz.prog 6 #[.int .i64 shards, .bool commit, .int .i64 who, .int .i64 kind, .bool yes] w fun e w' => e = .returned (.bool true) ∧ Below w.heap.size w w' := by
  refine RS.enter Tryz.func6 Tryz.ntmps6 rfl rfl ?_
  refine zN ?_; refine asB ?_; refine LS.done ?_
  refine zN ?_; skip
  refine callQ (fun v _ => v = .bool true) [] (fun v σ1 k1 hq => ?_) (hc := fun w' hw => known11_s lib w' hw)
  subst hq
  refine not_ ?_; refine LS.done ?_
  refine zN ?_
  refine RS.condF ?_
  refine zN ?_; refine mvI ?_
  refine callP ?_ (hc := fun w _ => w11_c _ _ (by omega) (by omega) w)
  obtain ⟨n, hn⟩ : ∃ n : Nat, (n : Int) = 1 + shards % 3 := ⟨(1 + shards % 3).toNat, by omega⟩
  have h1 : 1 ≤ n := by omega
  have h3 : n ≤ 3 := by omega
  (first | refine addN ?_ | refine addI ?_); refine asI ?_; refine LS.done ?_
  rw [← hn]
  refine zN ?_; skip
  refine callX (X := W11 × PH) (fun x => ptV x.1.w) (fun x => x.2) (fun x => CS x.1 c0 []) (fun x => PH.le σ1 x.2) (fun x hx => ?_) (fun w' hw => (open_w w' hw).mono fun _ _ ⟨x, h1, h2, h3⟩ => ⟨x, h1, h2, h3⟩)
  obtain ⟨z, σ2⟩ := x
  dsimp only at hx ⊢
  have lib2 : LibAt σ2 := lib.mono (PH.le_trans k1 hx)
  refine asP ?_; refine LS.done ?_
  refine zN ?_; refine mvP ?_; refine bin_eql_P ?_; refine LS.done ?_
  refine zN ?_
  refine RS.condF ?_
  refine zD ?_; refine RS.draw [.free, .free, .free, .ex, .free, .ex, .eff] [woH z] ?_ (by kernel_rfl) (by kernel_rfl) (by infer_instance); refine D.mvP ?_; refine D.nilck ?_; refine D.fld ?_; refine D.ld1 (v := .pointer _) ?_; refine D.mvI ?_
  refine D.callN (fun v τ => RepA τ v (gangK 5 n)) ?_ (hc := fun _ _ w' _ _ _ => gangA_c 5 n (by omega) ⟨by decide, by decide⟩ w')
  skip
  have hsub := submitK h1 (by omega) 5 3 ⟨by omega, by omega⟩ (by omega)
  refine D.callWU (fun us => [ptV z.c, us 32]) (fun v τ => AnsM (allP (ggK 5 n)) 0 v τ) (ansM_mono _ _) (CS z (c1 n) []) ?_ (hc := fun us σ' w' X hle hfs hw => by
    obtain ⟨τ, hg, ht, _⟩ : ∃ τ, RepA τ (us 32) (gangK 5 n) ∧ PH.le τ σ' ∧ New _ τ := by first | exact hfs.1 | exact hfs.2.1
    have h := submitA (c := c0) inv0 (by omega) (lib2.mono hle) (hg.mono ht) hw
    rw [show c0 = (⟨[], []⟩ : CoD) from rfl, hsub] at h
    exact h)
  refine D.done (fun us σ1 hle1 hfs => ?_)
  refine RS.ow ?_
  have lib4 := lib2.mono hle1
  refine zN ?_; refine asI ?_; refine LS.done ?_
  refine zN ?_
  refine RS.loopF (X := Nat × PH) 13 46 (fun x => x.1 ≤ n ∧ LibAt x.2) (fun x => [(13, .int .i64 ((x.1 : Int) + 1))]) (fun x => x.2) (fun x => CS z (gets (c1 n) 2 true x.1) []) (fun x => n - x.1) (0, _) ⟨Nat.zero_le _, lib4⟩ ⟨rfl, trivial⟩ rfl ⟨fun h => h⟩ ?_
  rintro ⟨i, σi⟩ g ⟨hi, libi⟩ ih
  dsimp only at hi libi
  refine zN ?_; refine mvI ?_; refine mvI ?_; refine JW.leI ?_; refine LS.done ?_
  refine zN ?_
  refine RS.cond (fun c => ?_) (fun c => ?_)
  · have c := of_decide_eq_true c
    refine RS.skip ?_
    refine zN ?_; refine mvP ?_; refine nilck ?_; refine fld ?_; refine ld1 (v := .pointer _) ?_; refine mvI ?_; refine bld (vals := [(0, .int _ _), (1, .int _ _), (3, .int _ _), (6, .bool _)]) [_, _, _, _, _, _, _] ?_
    refine getL ((inv1 h1 h3).gets 2 true i) (mK 2 ((i : Int) + 1) true) (mK_ok (by (try dsimp only); omega)) rfl rfl libi (fun a_ p_ σ_ k_ lib_ _ => ?_)
    refine LS.done ?_
    refine zN ?_; refine mvI ?_; (first | refine addN ?_ | refine addI ?_); refine asI ?_; refine LS.done ?_
    refine zN ?_
    exact ih (i + 1, σ_) ⟨by (try dsimp only); omega, lib_⟩ (by (try dsimp only); omega) ⟨by first | rfl | exact intV (by (try dsimp only); omega), trivial⟩ (by repeat (first | with_reducible exact Out.refl _ _ _ | exact Out.hv | refine Out.upd ?_ | refine Out.hvIn ?_)) ⟨fun h => h⟩ rfl
  have c := of_decide_eq_false c
  obtain rfl : n = i := by (try dsimp only at c); omega
  refine RS.exit ?_
  refine zN ?_; refine asI ?_; refine LS.done ?_
  refine zN ?_
  refine RS.loopF (X := Nat × PH) 14 61 (fun x => x.1 ≤ n ∧ (commit = false → x.1 = 0) ∧ LibAt x.2) (fun x => [(14, .int .i64 ((x.1 : Int) + 1))]) (fun x => x.2) (fun x => CS z (gets (s1 n) 4 true x.1) []) (fun x => n - x.1) (0, σi) ⟨Nat.zero_le _, fun _ => rfl, libi⟩ ⟨rfl, trivial⟩ rfl ⟨fun h => h⟩ ?_
  rintro ⟨i, σj⟩ g ⟨hi, hci, libj⟩ ih
  dsimp only at hi hci libj
  refine zN ?_; refine mvI ?_; refine mvI ?_; refine JW.leI ?_; refine mvB ?_
  refine LS.cut 49 52 [(51, .bool (decide (i + 1 ≤ n ∧ commit = true)))] (fun gg => ?_) (fun J => ?_)
  rotate_left
  · refine LS.part 49 (fun g1 => ?_) (fun g1 => ?_)
    · refine LS.on ?_; refine mvB ?_; refine pk (v := .bool _) ?_; refine LS.done ?_
      have g1 := of_decide_eq_true g1
      exact J ⟨boolV (by cases commit <;> simp; (try dsimp only at g1); omega), trivial⟩ (by repeat (first | with_reducible exact Out.refl _ _ _ | exact Out.hv | refine Out.upd ?_ | refine Out.hvIn ?_))
    · refine LS.off ?_; refine pk (v := .bool _) ?_; refine LS.done ?_
      have g1 := of_decide_eq_false g1
      exact J ⟨boolV (by symm; apply decide_eq_false; rintro ⟨h, _⟩; (try dsimp only at g1); omega), trivial⟩ (by repeat (first | with_reducible exact Out.refl _ _ _ | exact Out.hv | refine Out.upd ?_ | refine Out.hvIn ?_))
  refine zN ?_
  refine RS.cond (fun c => ?_) (fun c => ?_)
  · have c := of_decide_eq_true c
    refine RS.skip ?_
    refine zN ?_; refine mvP ?_; refine nilck ?_; refine fld ?_; refine ld1 (v := .pointer _) ?_; refine mvI ?_; refine bld (vals := [(0, .int _ _), (1, .int _ _), (3, .int _ _), (6, .bool _)]) [_, _, _, _, _, _, _] ?_
    refine getL (((inv1 h1 h3).gets 2 true n).gets 4 true i) (mK 4 ((i : Int) + 1) true) (mK_ok (by (try dsimp only); omega)) rfl rfl libj (fun a_ p_ σ_ k_ lib_ _ => ?_)
    refine LS.done ?_
    refine zN ?_; refine mvI ?_; (first | refine addN ?_ | refine addI ?_); refine asI ?_; refine LS.done ?_
    refine zN ?_
    exact ih (i + 1, σ_) ⟨by (try dsimp only); omega, fun h => absurd (h.symm.trans c.2) (by decide), lib_⟩ (by (try dsimp only); omega) ⟨by first | rfl | exact intV (by (try dsimp only); omega), trivial⟩ (by repeat (first | with_reducible exact Out.refl _ _ _ | exact Out.hv | refine Out.upd ?_ | refine Out.hvIn ?_)) ⟨fun h => h⟩ rfl
  have c := of_decide_eq_false c
  refine RS.exit ?_
  refine zN ?_; refine mvB ?_; refine not_ ?_; refine LS.done ?_
  repeat refine RS.seq ?_
  refine RS.cut (X := PH) 62 68 (fun x => LibAt x) (fun _ => []) (fun x => x) (fun _ => CS z (sF commit n) []) ?_ (fun J => ?_)
  rotate_left
  · cases commit with
    | true =>
      obtain rfl : n = i := by have : ¬ (i + 1 ≤ n) := fun h => c ⟨h, rfl⟩; omega
      refine zN ?_
      refine RS.condF ?_
      refine RS.skip ?_
      exact J σj libj trivial (by repeat (first | with_reducible exact Out.refl _ _ _ | exact Out.hv | refine Out.upd ?_ | refine Out.hvIn ?_)) ⟨fun h => h⟩ rfl
    | false =>
      obtain rfl := hci rfl
      refine zN ?_
      refine RS.condT ?_
      refine zN ?_; refine mvP ?_; refine nilck ?_; refine fld ?_; refine ld1 (v := .pointer _) ?_
      refine cancelL ((inv1 h1 h3).gets 2 true n) 5 libj (fun a_ p_ σ_ k_ lib_ _ => ?_)
      refine LS.done ?_
      exact J σ_ lib_ trivial (by repeat (first | with_reducible exact Out.refl _ _ _ | exact Out.hv | refine Out.upd ?_ | refine Out.hvIn ?_)) ⟨fun h => h⟩ rfl
  rintro σ5 g5 lib5
  have hF := invF h1 h3 commit
  have hat := f1 h1 h3 commit
  refine zN ?_; refine mvP ?_; refine nilck ?_; refine fld ?_; refine ld1 (v := .pointer _) ?_
  refine stateE hF 5 hat ?_
  refine asI ?_; refine LS.done ?_
  refine zN ?_; refine mvI ?_; refine mvI ?_
  refine callP ?_ (hc := fun w _ => w11_c who (n : Int) (by omega) (by omega) w)
  obtain ⟨fw, hfw⟩ : ∃ fw : Nat, who % (n : Int) = fw := ⟨(who % (n : Int)).toNat, by have := Int.emod_nonneg who (b := (n : Int)) (by omega); omega⟩
  have hfn : fw < n := by have := Int.emod_lt_of_pos who (b := (n : Int)) (by omega); omega
  rw [hfw]
  (first | refine addN ?_ | refine addI ?_); refine asI ?_; refine LS.done ?_
  obtain ⟨kk, hkk⟩ : ∃ kk : Nat, kind % 3 = kk := ⟨(kind % 3).toNat, by omega⟩
  have hk3 : kk < 3 := by omega
  refine zN ?_; refine bldS [.int .i64 2, .int .i64 4, .int .i64 10] [.int .i64 2, .int .i64 4, .int .i64 10] (fun b77 => ?_); refine LS.frozenL (α := Int) [2, 4, 10] b77 (CellsL.ofInts _ (fun z hz => by simp at hz; rcases hz with rfl | rfl | rfl <;> exact ⟨by decide, by decide⟩)) (fun σ6 k6 h77 => ?_); refine mvI ?_
  refine callP ?_ (hc := fun w _ => w11_c _ _ (by omega) (by omega) w)
  rw [hkk]
  obtain ⟨b1, o1, e77, hrow⟩ := h77.addr (by simp)
  obtain ⟨hcell, _⟩ := hrow.int kk hk3
  obtain ⟨k, hk⟩ : ∃ k, ([2, 4, 10] : List Int)[kk]'hk3 = k := ⟨_, rfl⟩
  have hkm : k ∈ ([2, 4, 10] : List Int) := hk ▸ List.getElem_mem _
  rw [hk] at hcell
  obtain ⟨rfl, rfl⟩ : b77 = b1 ∧ 0 = o1 := by simp at e77; exact ⟨e77.1, e77.2⟩
  refine idx (i := kk) ?_; refine ldS hcell ?_; refine asI ?_; refine LS.done ?_
  have hkI : -9223372036854775808 ≤ k ∧ k ≤ 9223372036854775807 := by simp at hkm; rcases hkm with rfl | rfl | rfl <;> omega
  obtain ⟨g1, g2, g3⟩ := f2 h1 h3 commit yes fw (List.mem_range.2 hfn) k hkm
  refine zN ?_; refine mvP ?_; refine nilck ?_; refine fld ?_; refine ld1 (v := .pointer _) ?_; refine mvI ?_; refine mvI ?_; refine mvB ?_; refine bld (vals := [(0, .int _ _), (1, .int _ _), (3, .int _ _), (6, .bool _)]) [_, _, _, _, _, _, _] ?_
  obtain ⟨cq, lq, heq⟩ : ∃ cq lq, getP (sF commit n) (mK k (1 + (fw : Int)) yes) = (cq, lq) := ⟨_, _, rfl⟩
  have hiq : Inv cq (1 + n + n + 1) := by have := hF.get (mK k (1 + (fw : Int)) yes); rw [heq] at this; exact this
  rw [heq] at g1 g2 g3; dsimp only at g1 g2 g3
  refine getE hF (mK k (1 + (fw : Int)) yes) (mK_ok (by omega)) rfl rfl (lib5.mono k6) heq (fun a90 p90 σ7 k7 lib7 r90 => ?_)
  refine asL ?_; refine LS.done ?_
  by_cases hk4 : k = 4
  · subst hk4
    have hl1 := congrArg List.length g3
    rw [if_pos rfl, List.length_map] at hl1
    obtain ⟨m, rfl⟩ := List.length_eq_one_iff.1 hl1
    rw [if_pos rfl] at g3
    simp only [List.map_cons, List.map_nil, List.cons.injEq, Prod.mk.injEq, and_true] at g3
    obtain ⟨m0, m1, m2, m6⟩ := g3
    obtain ⟨b9, o9, e90, hro⟩ := r90.addr (by simp)
    obtain ⟨vs, hcs, hrep⟩ := hro 0 (by simp)
    obtain ⟨vp, vq, rfl, _⟩ := id hrep
    subst e90
    have sz7 : Rep.sz MsgD = 7 := rfl
    have d0 : σ7.cell b9 (o9 + 0 * 7 + 0) = some (.int .i64 5) := by rw [← m0]; exact hcs 0 (by omega)
    have d2 : σ7.cell b9 (o9 + 0 * 7 + 2) = some (.int .i64 (1 + (fw : Int))) := by rw [← m2]; exact hcs 2 (by omega)
    have d6 : σ7.cell b9 (o9 + 0 * 7 + 6) = some (.bool commit) := by rw [← m6]; exact hcs 6 (by omega)
    refine zN ?_; refine mvI ?_; refine eqI ?_; refine mvB ?_; refine LS.on ?_; refine mvL ?_; refine LS.on ?_; refine lenL ?_; refine LS.on ?_; refine neI ?_; refine LS.on ?_; refine mvB ?_; refine LS.on ?_; refine mvL ?_; refine LS.on ?_; refine idx (i := 0) ?_ (hi := by simp); refine LS.on ?_; refine fld ?_; refine LS.on ?_; refine ldS d0 ?_; refine LS.on ?_; refine neI ?_; refine LS.on ?_; refine pk (v := .bool _) ?_; refine LS.on ?_; refine mvB ?_; refine LS.on ?_; refine mvL ?_; refine LS.on ?_; refine idx (i := 0) ?_ (hi := by simp); refine LS.on ?_; refine fld ?_; refine LS.on ?_; refine ldS d6 ?_; refine LS.on ?_; refine mvB ?_; refine LS.on ?_; refine bin_neq_B ?_; rw [show (!(commit == commit)) = false by simp]; refine LS.on ?_; refine pk (v := .bool _) ?_; refine LS.on ?_; refine mvB ?_; refine LS.on ?_; refine mvL ?_; refine LS.on ?_; refine idx (i := 0) ?_ (hi := by simp); refine LS.on ?_; refine fld ?_; refine LS.on ?_; refine ldS d2 ?_; refine LS.on ?_; refine mvI ?_; refine LS.on ?_; refine neI ?_; rw [show (!decide (1 + (fw : Int) = 1 + (fw : Int))) = false by simp]; refine LS.on ?_; refine pk (v := .bool _) ?_; refine pk (v := .bool _) ?_; refine mvB ?_; refine LS.on ?_; refine mvI ?_; refine LS.on ?_; refine neI ?_; refine LS.on ?_; refine mvB ?_; refine LS.off ?_; refine LS.off ?_; refine LS.off ?_; refine LS.on ?_; refine pk (v := .bool _) ?_; refine pk (v := .bool _) ?_; refine LS.done ?_
    refine zN ?_
    refine RS.condF ?_
    refine zN ?_; refine mvP ?_; refine nilck ?_; refine fld ?_; refine ld1 (v := .pointer _) ?_
    refine stateE hiq 5 g1 ?_
    refine mvI ?_; refine eqI ?_; rw [decide_eq_true (rfl : atF commit = atF commit)]; refine mvB ?_; refine LS.on ?_; refine mvP ?_; refine LS.on ?_; refine nilck ?_; refine LS.on ?_; refine fld ?_; refine LS.on ?_; refine ld1 (v := .pointer _) ?_; refine LS.on ?_
    refine waitsE hiq 5 lib7 g2 (fun a142 p142 σ8 k8 lib8 => ?_)
    refine LS.on ?_; refine lenL ?_; refine LS.on ?_; refine mvI ?_; refine LS.on ?_; refine eqI ?_; rw [decide_eq_true (rfl : (n : Int) = n)]; refine pk (v := .bool _) ?_; refine asB ?_; refine LS.done ?_
    refine zN ?_; refine RS.ret1 (v := .bool _) Tryz.func6 fun w hw => ?_
    exact ⟨rfl, hw.below⟩
  · rw [if_neg hk4] at g3
    obtain rfl : lq = [] := List.map_eq_nil_iff.1 g3
    refine zN ?_; refine mvI ?_; refine eqI ?_; rw [decide_eq_false hk4]; refine mvB ?_; refine LS.off ?_; refine LS.off ?_; refine LS.off ?_; refine LS.off ?_; refine LS.offU ?_; refine LS.offU ?_; refine LS.offU ?_; refine LS.offU ?_; refine LS.offU ?_; refine LS.off ?_; refine LS.off ?_; refine LS.offU ?_; refine LS.offU ?_; refine LS.offU ?_; refine LS.offU ?_; refine LS.offU ?_; refine LS.offU ?_; refine LS.off ?_; refine LS.off ?_; refine LS.offU ?_; refine LS.offU ?_; refine LS.offU ?_; refine LS.offU ?_; refine LS.offU ?_; refine LS.offU ?_; refine LS.off ?_; refine pk (v := .bool _) ?_; refine mvB ?_; refine LS.on ?_; refine mvI ?_; refine LS.on ?_; refine neI ?_; rw [decide_eq_false hk4]; refine LS.on ?_; refine mvB ?_; refine LS.on ?_; refine mvL ?_; refine LS.on ?_; refine lenL ?_; refine LS.on ?_; refine neI ?_; refine LS.on ?_; refine pk (v := .bool _) ?_; refine pk (v := .bool _) ?_; refine LS.done ?_
    refine zN ?_
    refine RS.condF ?_
    refine zN ?_; refine mvP ?_; refine nilck ?_; refine fld ?_; refine ld1 (v := .pointer _) ?_
    refine stateE hiq 5 g1 ?_
    refine mvI ?_; refine eqI ?_; rw [decide_eq_true (rfl : atF commit = atF commit)]; refine mvB ?_; refine LS.on ?_; refine mvP ?_; refine LS.on ?_; refine nilck ?_; refine LS.on ?_; refine fld ?_; refine LS.on ?_; refine ld1 (v := .pointer _) ?_; refine LS.on ?_
    refine waitsE hiq 5 lib7 g2 (fun a142 p142 σ8 k8 lib8 => ?_)
    refine LS.on ?_; refine lenL ?_; refine LS.on ?_; refine mvI ?_; refine LS.on ?_; refine eqI ?_; rw [decide_eq_true (rfl : (n : Int) = n)]; refine pk (v := .bool _) ?_; refine asB ?_; refine LS.done ?_
    refine zN ?_; refine RS.ret1 (v := .bool _) Tryz.func6 fun w hw => ?_
    exact ⟨rfl, hw.below⟩
end Go.Proofs.YtaokfeonmgpjcaaGreatDoor
