/- The walk of CoordRepeats. -/
import Derived.Test.YtaokfeonmgpjcaaGreatDoorQ4
namespace Go.Proofs.YtaokfeonmgpjcaaGreatDoor
open Go.JW Go.RowKit
namespace Repeats
def pk (b1 b2 b3 : Bool) (x : Int) : Bool := if x = 1 then b1 else if x = 2 then b2 else b3
def wsB (n : Nat) (b1 b2 b3 : Bool) : List Int := (upTo n).filter (pk b1 b2 b3)
def gW (cn : Bool) (n : Nat) (b1 b2 b3 : Bool) : GgD := ⟨5, if cn then 4 else 3, 1, podsK n, upTo n, wsB n b1 b2 b3⟩
def rsW (cn : Bool) (n : Nat) : List RecD := if cn then [recP 7 5 (upTo n)] else [recP 7 5 (upTo n), recP 4 5 []]
def cW (cn : Bool) (n : Nat) (b1 b2 b3 : Bool) : CoD := ⟨[gW cn n b1 b2 b3], rsW cn n⟩
def t1 (n : Nat) : CoD := (tickP (c1 n)).1
theorem wsB_del (n : Nat) (b1 b2 b3 : Bool) (k : Int) (hk : 1 ≤ k ∧ k ≤ 3) (hn : n ≤ 3) : (wsB n b1 b2 b3).filter (fun x => !decide (x = k)) = wsB n (b1 && decide (k ≠ 1)) (b2 && decide (k ≠ 2)) (b3 && decide (k ≠ 3)) := by
  unfold wsB
  rw [List.filter_filter]
  refine List.filter_congr fun x hx => ?_
  have hx : 1 ≤ x ∧ x ≤ 3 := by
    simp only [upTo, List.mem_map, List.mem_range] at hx
    obtain ⟨i, h1, rfl⟩ := hx
    omega
  have hk3 : k = 1 ∨ k = 2 ∨ k = 3 := by omega
  have hx3 : x = 1 ∨ x = 2 ∨ x = 3 := by omega
  rcases hk3 with rfl | rfl | rfl <;> rcases hx3 with rfl | rfl | rfl <;> simp [pk]
theorem getW {cn : Bool} {n : Nat} {b1 b2 b3 : Bool} {k : Nat} (hk : k < n) (hn : n ≤ 3) :
    getP (cW cn n b1 b2 b3) (mK 6 (1 + (k : Int)) false) = (cW cn n (b1 && decide (1 + (k : Int) ≠ 1)) (b2 && decide (1 + (k : Int) ≠ 2)) (b3 && decide (1 + (k : Int) ≠ 3)), []) := by
  have hm : (1 + (k : Int)) ∈ upTo n := by simp only [upTo, List.mem_map, List.mem_range]; exact ⟨k, hk, by omega⟩
  have hf : findP (cW cn n b1 b2 b3).gs 5 = some (gW cn n b1 b2 b3) := rfl
  have hg : getG (gW cn n b1 b2 b3) (mK 6 (1 + (k : Int)) false) = (doneP (1 + (k : Int)) (gW cn n b1 b2 b3), [], []) := by cases cn <;> rfl
  have hd : doneP (1 + (k : Int)) (gW cn n b1 b2 b3) = gW cn n (b1 && decide (1 + (k : Int) ≠ 1)) (b2 && decide (1 + (k : Int) ≠ 2)) (b3 && decide (1 + (k : Int) ≠ 3)) := by
    rw [show doneP (1 + (k : Int)) (gW cn n b1 b2 b3) = { gW cn n b1 b2 b3 with waits := (wsB n b1 b2 b3).filter (fun x => !decide (x = 1 + (k : Int))) } from rfl, wsB_del n b1 b2 b3 _ ⟨by omega, by omega⟩ hn]
    rfl
  unfold getP
  rw [if_neg (by show ¬ (6 : Int) = 7; decide), show (mK 6 (1 + (k : Int)) false).gang = 5 from rfl, hf]
  dsimp only
  refine (if_pos (show (1 + (k : Int)) ∈ (gW cn n b1 b2 b3).peers from hm)).trans ?_
  rw [hg, List.append_nil]
  rw [show modP (cW cn n b1 b2 b3).gs 5 (fun g => (getG g (mK 6 (1 + (k : Int)) false)).1) = [(getG (gW cn n b1 b2 b3) (mK 6 (1 + (k : Int)) false)).1] from rfl, hg, hd]
  rfl
theorem tickW {cn : Bool} {n : Nat} {b1 b2 b3 : Bool} : tickP (cW cn n b1 b2 b3) = (cW cn n b1 b2 b3, allP (gW cn n b1 b2 b3)) := by
  have h : tickG (gW cn n b1 b2 b3) = gW cn n b1 b2 b3 := by cases cn <;> rfl
  unfold tickP
  rw [show (cW cn n b1 b2 b3).gs.map tickG = [tickG (gW cn n b1 b2 b3)] from rfl, h]
  show (_, [gW cn n b1 b2 b3].flatMap allP) = _
  simp
  rfl
theorem f1 {n : Nat} : 1 ≤ n → n ≤ 3 → (tickP (c1 n)).2.map sgM = (List.range n).map (fun (i : Nat) => (1, 0, (i : Int) + 1, false)) := W3 (P := fun n => (tickP (c1 n)).2.map sgM = (List.range n).map (fun (i : Nat) => (1, 0, (i : Int) + 1, false))) (by decide +kernel)
theorem f2 {n : Nat} : 1 ≤ n → n ≤ 3 → (cancelP (t1 n) 5).1 = cW true n true true true := W3 (P := fun n => (cancelP (t1 n) 5).1 = cW true n true true true) ⟨by kernel_rfl, by kernel_rfl, by kernel_rfl⟩
theorem f3 {n : Nat} : 1 ≤ n → n ≤ 3 → gets (gets (t1 n) 2 true n) 4 true n = cW false n true true true := W3 (P := fun n => gets (gets (t1 n) 2 true n) 4 true n = cW false n true true true) ⟨by kernel_rfl, by kernel_rfl, by kernel_rfl⟩
def cnt (n : Nat) (b1 b2 b3 : Bool) (j : Nat) : Nat := ((wsB n b1 b2 b3).filter fun x => decide (x < (j : Int))).length
def okj (cn : Bool) (n : Nat) (b1 b2 b3 : Bool) (j : Nat) : Prop :=
  (pk b1 b2 b3 ((j : Int) + 1) = true → ((allP (gW cn n b1 b2 b3)).map sgM)[cnt n b1 b2 b3 (j + 1)]? = some (5, 0, (j : Int) + 1, !cn)) ∧
    cnt n b1 b2 b3 (j + 2) = cnt n b1 b2 b3 (j + 1) + (if pk b1 b2 b3 ((j : Int) + 1) then 1 else 0)
instance (cn n b1 b2 b3 j) : Decidable (okj cn n b1 b2 b3 j) := inferInstanceAs (Decidable (_ ∧ _))
theorem f4 {n : Nat} : 1 ≤ n → n ≤ 3 → ∀ cn b1 b2 b3, ∀ j ∈ List.range n, okj cn n b1 b2 b3 j := W3 (P := fun n => ∀ cn b1 b2 b3, ∀ j ∈ List.range n, okj cn n b1 b2 b3 j) (by decide +kernel)
theorem f5 {n : Nat} : 1 ≤ n → n ≤ 3 → ∀ cn b1 b2 b3, cnt n b1 b2 b3 1 = 0 ∧ cnt n b1 b2 b3 (n + 1) = (allP (gW cn n b1 b2 b3)).length ∧ (allP (gW cn n b1 b2 b3)).length ≤ 3 := W3 (P := fun n => ∀ cn b1 b2 b3, cnt n b1 b2 b3 1 = 0 ∧ cnt n b1 b2 b3 (n + 1) = (allP (gW cn n b1 b2 b3)).length ∧ (allP (gW cn n b1 b2 b3)).length ≤ 3) (by decide +kernel)
def bl (n : Nat) (p : Nat → Bool) : List Value := (List.range (n + 1)).map fun j => .bool (p j)
theorem bl_len (n : Nat) (p : Nat → Bool) : (bl n p).length = n + 1 := by simp [bl]
theorem bl_nth {n : Nat} {p : Nat → Bool} {j : Nat} (hj : j ≤ n) : nth (bl n p) j = some (.bool (p j)) := by
  rw [nth_eq]
  simp only [bl, List.getElem?_map, List.getElem?_range (show j < n + 1 by omega), Option.map_some]
theorem bl_set {n : Nat} {p : Nat → Bool} {j : Nat} {b : Bool} : setAt (bl n p) j [.bool b] = bl n fun i => if i = j then b else p i := by
  rw [setAt_cons, setAt_nil]
  apply List.ext_getElem?
  intro i
  rw [List.getElem?_set]
  by_cases hi : i < n + 1
  · simp only [bl, List.getElem?_map, List.getElem?_range hi, Option.map_some, List.length_map, List.length_range]
    by_cases hij : j = i
    · subst hij; simp [hi]
    · rw [if_neg hij, if_neg (fun h => hij h.symm)]
  · simp only [bl, List.length_map, List.length_range]
    rw [List.getElem?_eq_none (l := List.map _ (List.range (n + 1))) (by simp; omega), List.getElem?_eq_none (by simp; omega)]
    split
    · rw [if_neg (by omega)]
    · rfl
theorem bl_ext {n : Nat} {p q : Nat → Bool} (h : ∀ j, j ≤ n → p j = q j) : bl n p = bl n q := by
  unfold bl
  refine List.map_congr_left fun j hj => ?_
  rw [h j (by have := List.mem_range.1 hj; omega)]
theorem bl_st {n j : Nat} {p q : Nat → Bool} {b : Bool} (h : ∀ i, i ≤ n → (if i = j then b else p i) = q i) : setAt (bl n p) (0 + j * 1) (cellsL (.bool b)) = bl n q := by
  show setAt _ _ [.bool b] = _
  rw [show 0 + j * 1 = j by omega, bl_set]
  exact bl_ext h
theorem bl_room {n j : Nat} {p : Nat → Bool} (h : j ≤ n) : Nat.ble (0 + j * 1 + 1) (bl n p).length = true := by rw [bl_len]; exact Nat.ble_eq_true_of_le (by omega)
theorem upto_st {n i : Nat} : ∀ j, j ≤ n → (if j = i + 1 then true else decide (1 ≤ j ∧ j ≤ i)) = decide (1 ≤ j ∧ j ≤ i + 1) := fun j _ => by
  by_cases hj : j = i + 1
  · rw [if_pos hj, decide_eq_true (by omega)]
  · rw [if_neg hj]; exact decide_eq_decide.2 (by omega)
theorem bl_rep (n : Nat) : List.replicate (n + 1) (Value.bool false) = bl n fun _ => false := by
  apply List.ext_getElem?
  intro i
  by_cases hi : i < n + 1
  · simp [bl, hi]
  · simp [bl, hi]
/-- Who has not answered. -/
def lf (b1 b2 b3 : Bool) (j : Nat) : Bool := decide (1 ≤ j) && pk b1 b2 b3 (j : Int)
theorem lf_all {n j : Nat} (hj : j ≤ n) : decide (1 ≤ j ∧ j ≤ n) = lf true true true j := by
  have : pk true true true (j : Int) = true := by unfold pk; split <;> (try split) <;> rfl
  unfold lf
  rw [this, Bool.and_true]
  exact decide_eq_decide.2 (by omega)
theorem lf_del {n j k : Nat} {b1 b2 b3 : Bool} (hn : n ≤ 3) (hj : j ≤ n) (hk : k < n) : (if j = 1 + k then false else lf b1 b2 b3 j) = lf (b1 && decide (1 + (k : Int) ≠ 1)) (b2 && decide (1 + (k : Int) ≠ 2)) (b3 && decide (1 + (k : Int) ≠ 3)) j := by
  have hk3 : k = 0 ∨ k = 1 ∨ k = 2 := by omega
  have hj3 : j = 0 ∨ j = 1 ∨ j = 2 ∨ j = 3 := by omega
  rcases hk3 with rfl | rfl | rfl <;> rcases hj3 with rfl | rfl | rfl | rfl <;> simp [lf, pk]
end Repeats
open Repeats
theorem repeats_c (shards : Int) (_ : I64 shards) (o : List Int) (cancel : Bool) (vo : Value) (w : World) (lib : LibAt (hp w)) (hr : RepL (hp w) vo o) :
    Calls Tryz.prog 7 #[.int .i64 shards, vo, .bool cancel] w fun e w' => e = .returned (.bool true) ∧ Below w.heap.size w w' := by
  obtain ⟨ao, co, rfl⟩ := hr.form
  have hlen : o.length ≤ 140737488355328 := hr.1
  refine RS.enter Tryz.func7 Tryz.ntmps7 rfl rfl ?_
  refine zN ?_; refine asB ?_; refine LS.done ?_
  refine zN ?_; skip
  refine callQ (fun v _ => v = .bool true) [] (fun v σ1 k1 hq => ?_) (hc := fun w' hw => known11_s lib w' hw)
  subst hq
  refine not_ ?_; refine LS.done ?_
  refine zN ?_
  refine RS.condF ?_
  refine zN ?_; refine mvI ?_
  refine callP ?_ (hc := fun w _ => w11_c _ _ (by omega) (by omega) w)
  obtain ⟨n, hn⟩ : ∃ n : Nat, (n : Int) = 1 + shards % 3 := ⟨(1 + shards % 3).toNat, by omega⟩
  have h1 : 1 ≤ n := by omega
  have h3 : n ≤ 3 := by omega
  (first | refine addN ?_ | refine addI ?_); refine asI ?_; refine LS.done ?_
  rw [← hn]
  refine zN ?_; skip
  refine callX (X := W11 × PH) (fun x => ptV x.1.w) (fun x => x.2) (fun x => CS x.1 c0 []) (fun x => PH.le σ1 x.2) (fun x hx => ?_) (fun w' hw => (open_w w' hw).mono fun _ _ ⟨x, h1, h2, h3⟩ => ⟨x, h1, h2, h3⟩)
  obtain ⟨z, σ2⟩ := x
  dsimp only at hx ⊢
  have lib2 : LibAt σ2 := lib.mono (PH.le_trans k1 hx)
  refine asP ?_; refine LS.done ?_
  refine zN ?_; refine mvP ?_; refine bin_eql_P ?_; refine LS.done ?_
  refine zN ?_
  refine RS.condF ?_
  refine zD ?_; refine RS.draw [.free, .free, .free, .ex, .free, .ex, .eff, .ex, .ex, .ex, .ex, .free] [woH z] ?_ (by kernel_rfl) (by kernel_rfl) (by infer_instance); refine D.mvP ?_; refine D.nilck ?_; refine D.fld ?_; refine D.ld1 (v := .pointer _) ?_; refine D.mvI ?_
  refine D.callN (fun v τ => RepA τ v (gangK 5 n)) ?_ (hc := fun _ _ w' _ _ _ => gangA_c 5 n (by omega) ⟨by decide, by decide⟩ w')
  skip
  have hsub := submitK h1 (by omega) 5 3 ⟨by omega, by omega⟩ (by omega)
  refine D.callWU (fun us => [ptV z.c, us 35]) (fun v τ => AnsM (allP (ggK 5 n)) 0 v τ) (ansM_mono _ _) (CS z (c1 n) []) ?_ (hc := fun us σ' w' X hle hfs hw => by
    obtain ⟨τ, hg, ht, _⟩ : ∃ τ, RepA τ (us 35) (gangK 5 n) ∧ PH.le τ σ' ∧ New _ τ := by first | exact hfs.1 | exact hfs.2.1
    have h := submitA (c := c0) inv0 (by omega) (lib2.mono hle) (hg.mono ht) hw
    rw [show c0 = (⟨[], []⟩ : CoD) from rfl, hsub] at h
    exact h)
  refine D.mvFT (fun v τ => AnsM (allP (ggK 5 n)) 0 v τ) (ansM_mono _ _) ?_ (fun us σ' hle hf => hf.1)
  refine D.exFT (fun v τ => RepL τ v (allP (ggK 5 n))) mono_L ?_ (fun us σ' hle hf => by obtain ⟨a, c, h1, h2⟩ := hf.1; exact ⟨_, _, h1, rfl, h2⟩)
  refine D.exV (.int .i64 0) ?_ (fun us σ' hle hf => by obtain ⟨a, c, h1, h2⟩ := hf.2.1; exact ⟨_, h1, rfl⟩)
  refine D.asFT (fun v τ => RepL τ v (allP (ggK 5 n))) mono_L ?_ (fun us σ' hle hf => hf.1)
  refine D.asI ?_; refine D.done (fun us σ1 hle1 hfs => ?_)
  refine RS.ow ?_
  have kle : PH.le (hp w) σ1 := PH.le_trans k1 (PH.le_trans hx hle1)
  have lib4 := lib2.mono hle1
  have i1 := inv1 h1 h3
  have it : Inv (t1 n) 1 := i1.tick
  refine zN ?_; refine mvI ?_; refine neI ?_; refine LS.done ?_
  refine zN ?_
  refine RS.condF ?_
  refine zN ?_; refine mvP ?_; refine nilck ?_; refine fld ?_; refine ld1 (v := .pointer _) ?_
  refine tickL i1 lib4 (fun a45 p45 σ5 k5 lib5 r45 => ?_)
  refine mvI ?_
  refine allE r45 (AllP.of (f1 h1 h3)) ?_
  refine not_ ?_; refine LS.done ?_
  refine zN ?_
  refine RS.condF ?_
  refine zN ?_; refine mvB ?_; refine not_ ?_; refine asB ?_; refine LS.done ?_
  refine zN ?_; refine mvB ?_; refine LS.done ?_
  repeat refine RS.seq ?_
  refine RS.cut (X := PH) 12 81 (fun x => PH.le σ5 x) (fun _ => []) (fun x => x) (fun _ => CS z (cW cancel n true true true) []) ?_ (fun J => ?_)
  rotate_left
  · cases cancel with
    | true =>
      refine zN ?_
      refine RS.condT ?_
      refine zN ?_; refine mvP ?_; refine nilck ?_; refine fld ?_; refine ld1 (v := .pointer _) ?_
      refine cancelL (z := z) (c := t1 n) it 5 lib5 (fun a_ p_ σ_ k_ lib_ _ => ?_)
      refine LS.done ?_
      exact J σ_ k_ trivial (by repeat (first | with_reducible exact Out.refl _ _ _ | exact Out.hv | refine Out.upd ?_ | refine Out.hvIn ?_)) ⟨fun h => by rw [← f2 h1 h3]; exact h⟩ rfl
    | false =>
      refine zN ?_
      refine RS.condF ?_
      refine zN ?_; refine asI ?_; refine LS.done ?_
      refine zN ?_
      refine RS.loopF (X := Nat × PH) 12 69 (fun x => x.1 ≤ n ∧ LibAt x.2 ∧ PH.le (σ5) x.2) (fun x => [(12, .int .i64 ((x.1 : Int) + 1))]) (fun x => x.2) (fun x => CS z (gets (t1 n) 2 true x.1) []) (fun x => n - x.1) (0, σ5) ⟨Nat.zero_le _, lib5, PH.le_refl _⟩ ⟨rfl, trivial⟩ rfl ⟨fun h => h⟩ ?_
      rintro ⟨i, σi⟩ g ⟨hi, libi, lei⟩ ih
      dsimp only at hi libi lei
      refine zN ?_; refine mvI ?_; refine mvI ?_; refine JW.leI ?_; refine LS.done ?_
      refine zN ?_
      refine RS.cond (fun c => ?_) (fun c => ?_)
      · have c := of_decide_eq_true c
        refine RS.skip ?_
        refine zN ?_; refine mvP ?_; refine nilck ?_; refine fld ?_; refine ld1 (v := .pointer _) ?_; refine mvI ?_; refine bld (vals := [(0, .int _ _), (1, .int _ _), (3, .int _ _), (6, .bool _)]) [_, _, _, _, _, _, _] ?_
        refine getL ((it).gets 2 true i) (mK 2 ((i : Int) + 1) true) (mK_ok (by (try dsimp only); omega)) rfl rfl libi (fun a_ p_ σ_ k_ lib_ _ => ?_)
        refine LS.done ?_
        refine zN ?_; refine mvI ?_; (first | refine addN ?_ | refine addI ?_); refine asI ?_; refine LS.done ?_
        refine zN ?_
        exact ih (i + 1, σ_) ⟨by (try dsimp only); omega, lib_, PH.le_trans lei k_⟩ (by (try dsimp only); omega) ⟨by first | rfl | exact intV (by (try dsimp only); omega), trivial⟩ (by repeat (first | with_reducible exact Out.refl _ _ _ | exact Out.hv | refine Out.upd ?_ | refine Out.hvIn ?_)) ⟨fun h => h⟩ rfl
      have c := of_decide_eq_false c
      obtain rfl : n = i := by (try dsimp only at c); omega
      refine RS.exit ?_
      have lei_1 := lei
      refine zN ?_; refine asI ?_; refine LS.done ?_
      refine zN ?_
      refine RS.loopF (X := Nat × PH) 13 81 (fun x => x.1 ≤ n ∧ LibAt x.2 ∧ PH.le (σi) x.2) (fun x => [(13, .int .i64 ((x.1 : Int) + 1))]) (fun x => x.2) (fun x => CS z (gets (gets (t1 n) 2 true n) 4 true x.1) []) (fun x => n - x.1) (0, σi) ⟨Nat.zero_le _, libi, PH.le_refl _⟩ ⟨rfl, trivial⟩ rfl ⟨fun h => h⟩ ?_
      rintro ⟨i, σi⟩ g ⟨hi, libi, lei⟩ ih
      dsimp only at hi libi lei
      refine zN ?_; refine mvI ?_; refine mvI ?_; refine JW.leI ?_; refine LS.done ?_
      refine zN ?_
      refine RS.cond (fun c => ?_) (fun c => ?_)
      · have c := of_decide_eq_true c
        refine RS.skip ?_
        refine zN ?_; refine mvP ?_; refine nilck ?_; refine fld ?_; refine ld1 (v := .pointer _) ?_; refine mvI ?_; refine bld (vals := [(0, .int _ _), (1, .int _ _), (3, .int _ _), (6, .bool _)]) [_, _, _, _, _, _, _] ?_
        refine getL ((it.gets 2 true n).gets 4 true i) (mK 4 ((i : Int) + 1) true) (mK_ok (by (try dsimp only); omega)) rfl rfl libi (fun a_ p_ σ_ k_ lib_ _ => ?_)
        refine LS.done ?_
        refine zN ?_; refine mvI ?_; (first | refine addN ?_ | refine addI ?_); refine asI ?_; refine LS.done ?_
        refine zN ?_
        exact ih (i + 1, σ_) ⟨by (try dsimp only); omega, lib_, PH.le_trans lei k_⟩ (by (try dsimp only); omega) ⟨by first | rfl | exact intV (by (try dsimp only); omega), trivial⟩ (by repeat (first | with_reducible exact Out.refl _ _ _ | exact Out.hv | refine Out.upd ?_ | refine Out.hvIn ?_)) ⟨fun h => h⟩ rfl
      have c := of_decide_eq_false c
      obtain rfl : n = i := by (try dsimp only at c); omega
      refine RS.exit ?_
      exact J σi (PH.le_trans lei_1 lei) trivial (by repeat (first | with_reducible exact Out.refl _ _ _ | exact Out.hv | refine Out.upd ?_ | refine Out.hvIn ?_)) ⟨fun h => by rw [← f3 h1 h3]; exact h⟩ rfl
  rintro σ6 g6 k6
  have iW : Inv (cW cancel n true true true) 9 := by
    cases cancel
    · rw [← f3 h1 h3]; exact ((it.gets 2 true n).gets 4 true n).up (by omega)
    · rw [← f2 h1 h3]; exact (it.cancel 5).up (by omega)
  have kle6 : PH.le (hp w) σ6 := PH.le_trans kle (PH.le_trans k5 k6)
  refine zN ?_; refine mvI ?_; (first | refine addN ?_ | refine addI ?_); refine mkSl (m := n + 1) (fun b83 => ?_); refine asL ?_; refine LS.done ?_
  refine zN ?_; refine asI ?_; refine LS.done ?_
  refine zN ?_
  refine RS.loopF (X := Nat) 15 92 (fun x => x ≤ n) (fun x => [(15, .int .i64 ((x : Int) + 1))]) (fun _ => σ6) (fun x => blk b83 (.cells (bl n (fun j => decide (1 ≤ j ∧ j ≤ x))).toArray 4 (0, 0)) :: CS z (cW cancel n true true true) []) (fun x => n - x) 0 (Nat.zero_le _) ⟨rfl, trivial⟩ rfl ⟨fun h => by rw [bl_rep] at h; rw [bl_ext (q := fun _ => false) (fun j _ => decide_eq_false (by omega))]; exact h⟩ ?_
  rintro i g hi ih
  refine zN ?_; refine mvI ?_; refine mvI ?_; refine JW.leI ?_; refine LS.done ?_
  refine zN ?_
  refine RS.cond (fun c => ?_) (fun c => ?_)
  · have c := of_decide_eq_true c
    have hin : i < n := by (try dsimp only at c); omega
    refine RS.skip ?_
    refine zN ?_; refine mvL ?_; refine mvI ?_; refine idx (i := i + 1) ?_; refine st (.bool true) (bl n (fun j => decide (1 ≤ j ∧ j ≤ i + 1))) ?_ (hr := bl_room (j := i + 1) (by omega)) (hc := bl_st upto_st); refine LS.done ?_
    refine zN ?_; refine mvI ?_; (first | refine addN ?_ | refine addI ?_); refine asI ?_; refine LS.done ?_
    refine zN ?_
    exact ih (i + 1) (by (try dsimp only); omega) (by (try dsimp only); omega) ⟨by first | rfl | exact intV (by (try dsimp only); omega), trivial⟩ (by repeat (first | with_reducible exact Out.refl _ _ _ | exact Out.hv | refine Out.upd ?_ | refine Out.hvIn ?_)) ⟨fun h => h⟩ rfl
  have c := of_decide_eq_false c
  obtain rfl : n = i := by (try dsimp only at c); omega
  refine RS.exit ?_
  refine zN ?_; refine asI ?_; refine LS.done ?_
  refine zN ?_
  refine RS.loopF (X := Nat × (Bool × Bool × Bool) × PH) 16 172 (fun x => x.1 ≤ o.length ∧ x.1 ≤ 12 ∧ Inv (cW cancel n x.2.1.1 x.2.1.2.1 x.2.1.2.2) (20 + x.1) ∧ PH.le (hp w) x.2.2) (fun x => [(16, .int .i64 x.1)]) (fun x => x.2.2) (fun x => blk b83 (.cells (bl n (lf x.2.1.1 x.2.1.2.1 x.2.1.2.2)).toArray 4 (0, 0)) :: CS z (cW cancel n x.2.1.1 x.2.1.2.1 x.2.1.2.2) []) (fun x => 12 - x.1) (0, (true, true, true), σ6) ⟨Nat.zero_le _, Nat.zero_le _, iW.up (by omega), kle6⟩ ⟨rfl, trivial⟩ rfl ⟨fun h => by rw [← bl_ext (fun j hj => lf_all hj)]; exact h⟩ ?_
  rintro ⟨i, ⟨b1, b2, b3⟩, σi⟩ g ⟨hio, hi12, iC, lei⟩ ih
  dsimp only at hio hi12 iC lei
  refine zN ?_; refine mvI ?_; refine mvL ?_; refine lenL ?_; refine ltI ?_; refine mvB ?_
  refine LS.cut 96 100 [(99, .bool (decide (i < o.length ∧ i < 12)))] (fun gg => ?_) (fun J => ?_)
  rotate_left
  · refine LS.part 96 (fun g1 => ?_) (fun g1 => ?_)
    · refine LS.on ?_; refine mvI ?_; refine LS.on ?_; refine ltI ?_; refine pk (v := .bool _) ?_; refine LS.done ?_
      simp only [decide_eq_true_eq] at g1
      exact J ⟨boolV (decide_eq_decide.2 (by omega)), trivial⟩ (by repeat (first | with_reducible exact Out.refl _ _ _ | exact Out.hv | refine Out.upd ?_ | refine Out.hvIn ?_))
    · refine LS.off ?_; refine LS.off ?_; refine pk (v := .bool _) ?_; refine LS.done ?_
      simp only [decide_eq_false_iff_not] at g1
      exact J ⟨boolV (by symm; exact decide_eq_false (by omega)), trivial⟩ (by repeat (first | with_reducible exact Out.refl _ _ _ | exact Out.hv | refine Out.upd ?_ | refine Out.hvIn ?_))
  refine zN ?_
  refine RS.cond (fun c => ?_) (fun c => ?_)
  · have c := of_decide_eq_true c
    obtain ⟨hlt, hlt12⟩ := c
    refine RS.skip ?_
    obtain ⟨b9, o9, e9, hrow⟩ := hr.addr (fun h => by simp [h] at hlt)
    subst e9
    obtain ⟨hcell, _⟩ := (hrow.mono lei).int i hlt
    refine zN ?_; refine mvL ?_; refine mvI ?_; refine idx (i := i) ?_; refine ldS hcell ?_; refine mvI ?_
    refine callP ?_ (hc := fun w _ => w11_c _ (n : Int) (by omega) (by omega) w)
    obtain ⟨k, hk⟩ : ∃ k : Nat, o[i] % (n : Int) = k := ⟨(o[i] % (n : Int)).toNat, by have := Int.emod_nonneg o[i] (b := (n : Int)) (by omega); omega⟩
    have hkn : k < n := by have := Int.emod_lt_of_pos o[i] (b := (n : Int)) (by omega); omega
    rw [hk]
    (first | refine addN ?_ | refine addI ?_); refine asI ?_; refine LS.done ?_
    obtain ⟨d1, hd1⟩ : ∃ d, (b1 && decide (1 + (k : Int) ≠ 1)) = d := ⟨_, rfl⟩
    obtain ⟨d2, hd2⟩ : ∃ d, (b2 && decide (1 + (k : Int) ≠ 2)) = d := ⟨_, rfl⟩
    obtain ⟨d3, hd3⟩ : ∃ d, (b3 && decide (1 + (k : Int) ≠ 3)) = d := ⟨_, rfl⟩
    have hgW := getW (cn := cancel) (b1 := b1) (b2 := b2) (b3 := b3) hkn h3
    have hlf := fun j (hj : j ≤ n) => lf_del (b1 := b1) (b2 := b2) (b3 := b3) h3 hj hkn
    rw [hd1, hd2, hd3] at hgW
    simp only [hd1, hd2, hd3] at hlf
    have iD : Inv (cW cancel n d1 d2 d3) (20 + (i + 1)) := by have := iC.get (mK 6 (1 + (k : Int)) false); rw [hgW] at this; exact this
    refine RS.ar (CS z (cW cancel n b1 b2 b3) [blk b83 (.cells (bl n (lf b1 b2 b3)).toArray 4 (0, 0))]) ?_
    refine zN ?_; refine mvP ?_; refine nilck ?_; refine fld ?_; refine ld1 (v := .pointer _) ?_; refine mvI ?_; refine bld (vals := [(0, .int _ _), (1, .int _ _), (3, .int _ _)]) [_, _, _, _, _, _, _] ?_
    refine getE iC (mK 6 (1 + (k : Int)) false) (mK_ok (by omega)) rfl rfl (lib.mono lei) hgW (fun a115 p115 σ7 k7 lib7 _ => ?_)
    refine lenL ?_; refine neI ?_; refine LS.done ?_
    refine zN ?_
    refine RS.condF ?_
    refine zN ?_; refine mvL ?_; refine mvI ?_; refine idx (i := 1 + k) ?_; refine st (.bool false) (bl n (lf d1 d2 d3)) ?_ (hr := bl_room (j := 1 + k) (by omega)) (hc := bl_st hlf); refine LS.done ?_
    refine zN ?_; refine mvP ?_; refine nilck ?_; refine fld ?_; refine ld1 (v := .pointer _) ?_
    refine tickE iD lib7 tickW (fun a125 p125 σ8 k8 lib8 r125 => ?_)
    refine asL ?_; refine LS.done ?_
    refine zN ?_; refine asI ?_; refine LS.done ?_
    refine zN ?_; refine asI ?_; refine LS.done ?_
    refine zN ?_
    obtain ⟨C1, C2, C3⟩ := f5 h1 h3 cancel d1 d2 d3
    obtain ⟨l, hl⟩ : ∃ l, allP (gW cancel n d1 d2 d3) = l := ⟨_, rfl⟩
    rw [hl] at r125 C2 C3 ⊢
    refine RS.loopF (X := Nat) 19 168 (fun x => x ≤ n) (fun x => [(19, .int .i64 (cnt n d1 d2 d3 (x + 1) : Nat)), (20, .int .i64 ((x : Int) + 1))]) (fun _ => σ8) (fun x => CS z (cW cancel n d1 d2 d3) [blk b83 (.cells (bl n (lf d1 d2 d3)).toArray 4 (0, 0))]) (fun x => n - x) 0 (Nat.zero_le _) ⟨by rw [C1]; rfl, rfl, trivial⟩ rfl ⟨fun h => h⟩ ?_
    rintro j g2 hj ihj
    refine zN ?_; refine mvI ?_; refine mvI ?_; refine JW.leI ?_; refine LS.done ?_
    refine zN ?_
    refine RS.cond (fun c => ?_) (fun c => ?_)
    · have c := of_decide_eq_true c
      have hjn : j < n := by (try dsimp only at c); omega
      refine RS.skip ?_
      obtain ⟨J1, J2⟩ := f4 h1 h3 cancel d1 d2 d3 j (List.mem_range.2 hjn)
      rw [hl] at J1
      have hpk : lf d1 d2 d3 (j + 1) = pk d1 d2 d3 ((j : Int) + 1) := by unfold lf; rw [decide_eq_true (by omega), Bool.true_and]; rfl
      refine zN ?_; refine mvL ?_; refine mvI ?_; refine idx (i := j + 1) ?_; refine ld1 (v := .bool (pk d1 d2 d3 ((j : Int) + 1))) ?_ (hv := by rw [show 0 + (j + 1) * 1 = j + 1 by omega, bl_nth (by omega), hpk]); refine not_ ?_; refine LS.done ?_
      cases hp : pk d1 d2 d3 ((j : Int) + 1) with
      | false =>
        rw [hp] at J2
        refine zN ?_
        refine RS.condT ?_
        refine zN ?_; refine mvI ?_; (first | refine addN ?_ | refine addI ?_); refine asI ?_; refine LS.done ?_
        refine zN ?_
        exact ihj (j + 1) (by (try dsimp only); omega) (by (try dsimp only); omega) ⟨intV (by rw [J2]; rfl), by first | rfl | exact intV (by (try dsimp only); omega), trivial⟩ (by repeat (first | with_reducible exact Out.refl _ _ _ | exact Out.hv | refine Out.upd ?_ | refine Out.hvIn ?_)) ⟨fun h => h⟩ rfl
      | true =>
        rw [hp] at J2
        have J1 := J1 hp
        obtain ⟨q, hq⟩ : ∃ q, cnt n d1 d2 d3 (j + 1) = q := ⟨_, rfl⟩
        rw [hq] at J1 J2 ⊢
        have hql : q < l.length := by
          rcases Nat.lt_or_ge q l.length with h | h
          · exact h
          · rw [List.getElem?_eq_none (by rw [List.length_map]; exact h)] at J1; cases J1
        rw [List.getElem?_map, List.getElem?_eq_getElem hql, Option.map_some, Option.some.injEq] at J1
        simp only [sgM, Prod.mk.injEq] at J1
        obtain ⟨m0, m1, m2, m6⟩ := J1
        obtain ⟨b5, o5, e5, hro⟩ := r125.addr (fun h => by simp [h] at hql)
        obtain ⟨vs, hcs, hrep⟩ := hro q hql
        obtain ⟨vp, vq, rfl, _⟩ := id hrep
        subst e5
        have sz7 : Rep.sz MsgD = 7 := rfl
        have d0 : σ8.cell b5 (o5 + q * 7 + 0) = some (.int .i64 5) := by rw [← m0]; exact hcs 0 (by omega)
        have e2 : σ8.cell b5 (o5 + q * 7 + 2) = some (.int .i64 ((j : Int) + 1)) := by rw [← m2]; exact hcs 2 (by omega)
        have d6 : σ8.cell b5 (o5 + q * 7 + 6) = some (.bool (!cancel)) := by rw [← m6]; exact hcs 6 (by omega)
        refine zN ?_
        refine RS.condF ?_
        refine RS.skip ?_
        refine zN ?_; refine mvI ?_; refine mvL ?_; refine lenL ?_; refine geI ?_; rw [decide_eq_false (show ¬ (l.length : Int) ≤ (q : Int) by omega)]; refine mvB ?_; refine LS.on ?_; refine mvL ?_; refine LS.on ?_; refine mvI ?_; refine LS.on ?_; refine idx (i := q) ?_; refine LS.on ?_; refine fld ?_; refine LS.on ?_; refine ldS e2 ?_; refine LS.on ?_; refine mvI ?_; refine LS.on ?_; refine neI ?_; rw [decide_eq_true (rfl : (j : Int) + 1 = (j : Int) + 1)]; refine pk (v := .bool _) ?_; refine mvB ?_; refine LS.on ?_; refine mvL ?_; refine LS.on ?_; refine mvI ?_; refine LS.on ?_; refine idx (i := q) ?_; refine LS.on ?_; refine fld ?_; refine LS.on ?_; refine ldS d0 ?_; refine LS.on ?_; refine neI ?_; refine pk (v := .bool _) ?_; refine mvB ?_; refine LS.on ?_; refine mvL ?_; refine LS.on ?_; refine mvI ?_; refine LS.on ?_; refine idx (i := q) ?_; refine LS.on ?_; refine fld ?_; refine LS.on ?_; refine ldS d6 ?_; refine LS.on ?_; refine mvB ?_; refine LS.on ?_; refine bin_neq_B ?_; rw [show (!((!cancel) == (!cancel))) = false by simp]; refine pk (v := .bool _) ?_; refine LS.done ?_
        refine zN ?_
        refine RS.condF ?_
        refine zN ?_; refine mvI ?_; (first | refine addN ?_ | refine addI ?_); refine asI ?_; refine LS.done ?_
        refine zN ?_; refine mvI ?_; (first | refine addN ?_ | refine addI ?_); refine asI ?_; refine LS.done ?_
        refine zN ?_
        exact ihj (j + 1) (by (try dsimp only); omega) (by (try dsimp only); omega) ⟨intV (by rw [J2]; rfl), by first | rfl | exact intV (by (try dsimp only); omega), trivial⟩ (by repeat (first | with_reducible exact Out.refl _ _ _ | exact Out.hv | refine Out.upd ?_ | refine Out.hvIn ?_)) ⟨fun h => h⟩ rfl
    have c := of_decide_eq_false c
    obtain rfl : n = j := by (try dsimp only at c); omega
    refine RS.exit ?_
    refine zN ?_; refine mvI ?_; refine mvL ?_; refine lenL ?_; refine neI ?_; rw [C2, decide_eq_true (rfl : (l.length : Int) = l.length)]; refine LS.done ?_
    refine zN ?_
    refine RS.condF ?_
    refine zN ?_; refine mvI ?_; (first | refine addN ?_ | refine addI ?_); refine asI ?_; refine LS.done ?_
    refine zN ?_
    refine RS.ar (blk b83 (.cells (bl n (lf d1 d2 d3)).toArray 4 (0, 0)) :: CS z (cW cancel n d1 d2 d3) []) ?_
    exact ih (i + 1, (d1, d2, d3), σ8) ⟨by (try dsimp only); omega, by (try dsimp only); omega, iD, PH.le_trans lei (PH.le_trans k7 k8)⟩ (by (try dsimp only); omega) ⟨by first | rfl | exact intV (by (try dsimp only); omega), trivial⟩ (by repeat (first | with_reducible exact Out.refl _ _ _ | exact Out.hv | refine Out.upd ?_ | refine Out.hvIn ?_)) ⟨fun h => h⟩ rfl
  refine RS.exit ?_
  refine zN ?_; refine asB ?_; refine LS.done ?_
  refine zN ?_; refine RS.ret1 (v := .bool _) Tryz.func7 fun w hw => ?_
  exact ⟨rfl, hw.below⟩
end Go.Proofs.YtaokfeonmgpjcaaGreatDoor
