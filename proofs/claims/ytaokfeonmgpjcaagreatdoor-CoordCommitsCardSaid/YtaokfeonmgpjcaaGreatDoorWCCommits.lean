/- The walk of CoordCommits. -/
import Derived.Test.YtaokfeonmgpjcaaGreatDoorQ4
namespace Go.Proofs.YtaokfeonmgpjcaaGreatDoor
open Go.JW Go.RowKit
namespace Commits
def kd (ph : Nat) : Int := if ph = 0 then 2 else 4
def nx (ph : Nat) : Int := if ph = 0 then 3 else 5
def ys (ph : Nat) : Bool := decide (ph ≠ 0)
def kv (o : List Int) (n ph : Nat) : Nat := if h : ph < o.length then (o[ph] % (n : Int)).toNat else 0
def Kf (k0 k1 ph : Nat) : Nat := if ph = 0 then k0 else k1
def ms (ph n k i : Nat) : MsgD := mK (kd ph) (1 + (((i + k) % n : Nat) : Int)) true
def stp (ph n k : Nat) (tw : Bool) (i : Nat) (c : CoD) : CoD := if tw = true ∧ i + 1 < n then (getP (getP c (ms ph n k i)).1 (ms ph n k i)).1 else (getP c (ms ph n k i)).1
def run (ph n k : Nat) (tw : Bool) (c : CoD) : Nat → CoD
  | 0 => c
  | i + 1 => stp ph n k tw i (run ph n k tw c i)
def cP (n k0 k1 : Nat) (tw : Bool) : Nat → CoD
  | 0 => c1 n
  | ph + 1 => run ph n (Kf k0 k1 ph) tw (cP n k0 k1 tw ph) n
theorem inv_stp {c : CoD} {q : Nat} (h : Inv c q) (ph n k : Nat) (tw : Bool) (i : Nat) : Inv (stp ph n k tw i c) (q + 2) := by
  unfold stp
  split
  · exact (h.get _).get _
  · exact (h.get _).up (by omega)
theorem inv_run {c : CoD} {q : Nat} (h : Inv c q) (ph n k : Nat) (tw : Bool) : ∀ i, Inv (run ph n k tw c i) (q + 2 * i)
  | 0 => h
  | i + 1 => (inv_stp (inv_run h ph n k tw i) ph n k tw i).up (by omega)
theorem inv_cP {n : Nat} (h1 : 1 ≤ n) (hn : n ≤ 3) (k0 k1 : Nat) (tw : Bool) : ∀ ph, Inv (cP n k0 k1 tw ph) (1 + 6 * ph)
  | 0 => inv1 h1 hn
  | ph + 1 => (inv_run (inv_cP h1 hn k0 k1 tw ph) ph n (Kf k0 k1 ph) tw n).up (by omega)
def ok (n k0 k1 : Nat) (tw : Bool) (ph i : Nat) : Prop :=
  (i + 1 < n → (getP (run ph n (Kf k0 k1 ph) tw (cP n k0 k1 tw ph) i) (ms ph n (Kf k0 k1 ph) i)).2.length = 0 ∧
    (getP (getP (run ph n (Kf k0 k1 ph) tw (cP n k0 k1 tw ph) i) (ms ph n (Kf k0 k1 ph) i)).1 (ms ph n (Kf k0 k1 ph) i)).2.length = 0 ∧
    stateP (run ph n (Kf k0 k1 ph) tw (cP n k0 k1 tw ph) (i + 1)).gs 5 = (ph : Int) + 1 ∧ (waitsP (run ph n (Kf k0 k1 ph) tw (cP n k0 k1 tw ph) (i + 1)).gs 5).length = n - 1 - i) ∧
  (i + 1 = n → (getP (run ph n (Kf k0 k1 ph) tw (cP n k0 k1 tw ph) i) (ms ph n (Kf k0 k1 ph) i)).2.map sgM = (List.range n).map (fun (i : Nat) => (nx ph, 0, (i : Int) + 1, ys ph)))
instance (n k0 k1 tw ph i) : Decidable (ok n k0 k1 tw ph i) := inferInstanceAs (Decidable (_ ∧ _))
theorem f1 {n : Nat} : 1 ≤ n → n ≤ 3 → ∀ tw, ∀ k0 ∈ List.range n, ∀ k1 ∈ List.range n, ∀ ph ∈ List.range 2, ∀ i ∈ List.range n, ok n k0 k1 tw ph i :=
  W3 (P := fun n => ∀ tw, ∀ k0 ∈ List.range n, ∀ k1 ∈ List.range n, ∀ ph ∈ List.range 2, ∀ i ∈ List.range n, ok n k0 k1 tw ph i) (by decide +kernel)
def fin (n k0 k1 : Nat) (tw : Bool) : Prop := stateP (cP n k0 k1 tw 2).gs 5 = 3 ∧ (waitsP (cP n k0 k1 tw 2).gs 5).length = n ∧ (cP n k0 k1 tw 2).rs.map (fun r => (r.kind, r.gang)) = [(7, 5), (4, 5)]
instance (n k0 k1 tw) : Decidable (fin n k0 k1 tw) := inferInstanceAs (Decidable (_ ∧ _))
theorem f2 {n : Nat} : 1 ≤ n → n ≤ 3 → ∀ tw, ∀ k0 ∈ List.range n, ∀ k1 ∈ List.range n, fin n k0 k1 tw :=
  W3 (P := fun n => ∀ tw, ∀ k0 ∈ List.range n, ∀ k1 ∈ List.range n, fin n k0 k1 tw) (by decide +kernel)
theorem line5 : B (textP (recP 4 5 [])) = ⟨#[99, 111, 109, 109, 105, 116, 32, 53]⟩ := by decide +kernel
theorem rs2 {n : Nat} : 1 ≤ n → n ≤ 3 → ∀ tw, ∀ k0 ∈ List.range n, ∀ k1 ∈ List.range n, (refL (cP n k0 k1 tw 2).rs)[1]? = some ⟨#[99, 111, 109, 109, 105, 116, 32, 53]⟩ :=
  W3 (P := fun n => ∀ tw, ∀ k0 ∈ List.range n, ∀ k1 ∈ List.range n, (refL (cP n k0 k1 tw 2).rs)[1]? = some ⟨#[99, 111, 109, 109, 105, 116, 32, 53]⟩) (by decide +kernel)
end Commits
open Commits
theorem commits_c (shards : Int) (_ : I64 shards) (o : List Int) (twice : Bool) (vo : Value) (w : World) (lib : LibAt (hp w)) (hr : RepL (hp w) vo o) :
    Calls Tryz.prog 5 #[.int .i64 shards, vo, .bool twice] w fun e w' => e = .returned (.bool true) ∧ Below w.heap.size w w' := by
  obtain ⟨ao, co, rfl⟩ := hr.form
  have hlen : o.length ≤ 140737488355328 := hr.1
  refine RS.enter Tryz.func5 Tryz.ntmps5 rfl rfl ?_
  refine zN ?_; refine asB ?_; refine LS.done ?_
  refine zN ?_; skip
  refine callQ (fun v _ => v = .bool true) [] (fun v σ1 k1 hq => ?_) (hc := fun w' hw => known11_s lib w' hw)
  subst hq
  refine not_ ?_; refine LS.done ?_
  refine zN ?_
  refine RS.condF ?_
  refine zN ?_; refine mvI ?_
  refine callP ?_ (hc := fun w _ => w11_c _ _ (by omega) (by omega) w)
  obtain ⟨n, hn⟩ : ∃ n : Nat, (n : Int) = 1 + shards % 3 := ⟨(1 + shards % 3).toNat, by omega⟩
  have h1 : 1 ≤ n := by omega
  have h3 : n ≤ 3 := by omega
  (first | refine addN ?_ | refine addI ?_); refine asI ?_; refine LS.done ?_
  rw [← hn]
  refine zN ?_; skip
  refine callX (X := W11 × PH) (fun x => ptV x.1.w) (fun x => x.2) (fun x => CS x.1 c0 []) (fun x => PH.le σ1 x.2) (fun x hx => ?_) (fun w' hw => (open_w w' hw).mono fun _ _ ⟨x, h1, h2, h3⟩ => ⟨x, h1, h2, h3⟩)
  obtain ⟨z, σ2⟩ := x
  dsimp only at hx ⊢
  have lib2 : LibAt σ2 := lib.mono (PH.le_trans k1 hx)
  refine asP ?_; refine LS.done ?_
  refine zN ?_; refine mvP ?_; refine bin_eql_P ?_; refine LS.done ?_
  refine zN ?_
  refine RS.condF ?_
  refine zD ?_; refine RS.draw [.free, .free, .free, .ex, .free, .ex, .eff, .ex, .ex, .ex, .ex, .free] [woH z] ?_ (by kernel_rfl) (by kernel_rfl) (by infer_instance); refine D.mvP ?_; refine D.nilck ?_; refine D.fld ?_; refine D.ld1 (v := .pointer _) ?_; refine D.mvI ?_
  refine D.callN (fun v τ => RepA τ v (gangK 5 n)) ?_ (hc := fun _ _ w' _ _ _ => gangA_c 5 n (by omega) ⟨by decide, by decide⟩ w')
  skip
  have hsub := submitK h1 (by omega) 5 3 ⟨by omega, by omega⟩ (by omega)
  refine D.callWU (fun us => [ptV z.c, us 34]) (fun v τ => AnsM (allP (ggK 5 n)) 0 v τ) (ansM_mono _ _) (CS z (c1 n) []) ?_ (hc := fun us σ' w' X hle hfs hw => by
    obtain ⟨τ, hg, ht, _⟩ : ∃ τ, RepA τ (us 34) (gangK 5 n) ∧ PH.le τ σ' ∧ New _ τ := by first | exact hfs.1 | exact hfs.2.1
    have h := submitA (c := c0) inv0 (by omega) (lib2.mono hle) (hg.mono ht) hw
    rw [show c0 = (⟨[], []⟩ : CoD) from rfl, hsub] at h
    exact h)
  refine D.mvFT (fun v τ => AnsM (allP (ggK 5 n)) 0 v τ) (ansM_mono _ _) ?_ (fun us σ' hle hf => hf.1)
  refine D.exFT (fun v τ => RepL τ v (allP (ggK 5 n))) mono_L ?_ (fun us σ' hle hf => by obtain ⟨a, c, h1, h2⟩ := hf.1; exact ⟨_, _, h1, rfl, h2⟩)
  refine D.exV (.int .i64 0) ?_ (fun us σ' hle hf => by obtain ⟨a, c, h1, h2⟩ := hf.2.1; exact ⟨_, h1, rfl⟩)
  refine D.asFT (fun v τ => RepL τ v (allP (ggK 5 n))) mono_L ?_ (fun us σ' hle hf => hf.1)
  refine D.asI ?_; refine D.done (fun us σ1 hle1 hfs => ?_)
  have hall : (allP (ggK 5 n)).map sgM = (List.range n).map (fun (i : Nat) => (1, 0, (i : Int) + 1, false)) := W3 (P := fun n => (allP (ggK 5 n)).map sgM = (List.range n).map (fun (i : Nat) => (1, 0, (i : Int) + 1, false))) (by decide +kernel) h1 h3
  have hr9 : RepL σ1 (us 9) (allP (ggK 5 n)) := hfs.1
  refine RS.ow ?_
  have lib4 := lib2.mono hle1
  refine zN ?_; refine mvI ?_; refine neI ?_; refine mvB ?_; refine LS.on ?_; refine mv (v := us 9) ?_; refine LS.on ?_; refine mvI ?_; refine LS.on ?_
  refine allE hr9 (AllP.of hall) ?_
  refine LS.on ?_; refine not_ ?_; refine pk (v := .bool _) ?_; refine LS.done ?_
  refine zN ?_
  refine RS.condF ?_
  obtain ⟨k0, hk0⟩ : ∃ k, kv o n 0 = k := ⟨_, rfl⟩
  obtain ⟨k1', hk1⟩ : ∃ k, kv o n 1 = k := ⟨_, rfl⟩
  have hkv : ∀ ph, kv o n ph < n := fun ph => by
    unfold kv
    split
    · have := Int.emod_lt_of_pos o[ph] (b := (n : Int)) (by omega)
      have := Int.emod_nonneg o[ph] (b := (n : Int)) (by omega)
      omega
    · omega
  have hm0 : k0 ∈ List.range n := List.mem_range.2 (hk0 ▸ hkv 0)
  have hm1 : k1' ∈ List.range n := List.mem_range.2 (hk1 ▸ hkv 1)
  have hKf : ∀ ph, ph < 2 → kv o n ph = Kf k0 k1' ph := fun ph hp => by
    have : ph = 0 ∨ ph = 1 := by omega
    rcases this with rfl | rfl
    · exact hk0
    · exact hk1
  have F := fun ph (hp : ph < 2) i (hi : i < n) => f1 h1 h3 twice k0 hm0 k1' hm1 ph (List.mem_range.2 hp) i (List.mem_range.2 hi)
  have hro := fun {τ : PH} (hτ : PH.le (hp w) τ) => hr.mono hτ
  have kle : PH.le (hp w) σ1 := PH.le_trans k1 (PH.le_trans hx hle1)
  refine zN ?_; refine asI ?_; refine LS.done ?_
  refine zN ?_
  refine RS.loopF (X := Nat × PH) 11 144 (fun x => x.1 ≤ 2 ∧ PH.le (hp w) x.2) (fun x => [(11, .int .i64 x.1)]) (fun x => x.2) (fun x => CS z (cP n k0 k1' twice x.1) []) (fun x => 2 - x.1) (0, σ1) ⟨Nat.zero_le _, kle⟩ ⟨rfl, trivial⟩ rfl ⟨fun h => h⟩ ?_
  rintro ⟨ph, σp⟩ g ⟨hph, lep⟩ ihp
  dsimp only at hph lep
  refine zN ?_; refine mvI ?_; refine ltI ?_; refine LS.done ?_
  refine zN ?_
  refine RS.cond (fun c => ?_) (fun c => ?_)
  · have c := of_decide_eq_true c
    have hp2 : ph < 2 := by (try dsimp only at c); omega
    refine RS.skip ?_
    refine zN ?_; refine asI ?_; refine asI ?_; refine asB ?_; refine LS.done ?_
    refine zN ?_; refine mvI ?_; refine eqI ?_; refine LS.done ?_
    repeat refine RS.seq ?_
    refine RS.cut (X := Unit) 12 15 (fun _ => True) (fun _ => [(12, .int .i64 (kd ph)), (13, .int .i64 (nx ph)), (14, .bool (ys ph))]) (fun _ => σp) (fun _ => CS z (cP n k0 k1' twice ph) []) ?_ (fun J => ?_)
    rotate_left
    · refine zN ?_
      refine RS.cond (fun y => ?_) (fun y => ?_)
      · obtain rfl : ph = 1 := by have := of_decide_eq_true y; (try dsimp only at this); omega
        refine zN ?_; refine asI ?_; refine asI ?_; refine asB ?_; refine LS.done ?_
        exact J () trivial ⟨rfl, rfl, rfl, trivial⟩ (by repeat (first | with_reducible exact Out.refl _ _ _ | exact Out.hv | refine Out.upd ?_ | refine Out.hvIn ?_)) ⟨fun h => h⟩ rfl
      · obtain rfl : ph = 0 := by have := of_decide_eq_false y; (try dsimp only at this); omega
        refine RS.skip ?_
        exact J () trivial ⟨rfl, rfl, rfl, trivial⟩ (by repeat (first | with_reducible exact Out.refl _ _ _ | exact Out.hv | refine Out.upd ?_ | refine Out.hvIn ?_)) ⟨fun h => h⟩ rfl
    rintro _ g2 _
    refine zN ?_; refine asI ?_; refine LS.done ?_
    refine zN ?_
    refine RS.loopF (X := Nat × PH) 15 144 (fun x => x.1 ≤ n ∧ PH.le (hp w) x.2) (fun x => [(15, .int .i64 x.1)]) (fun x => x.2) (fun x => CS z (run ph n (Kf k0 k1' ph) twice (cP n k0 k1' twice ph) x.1) []) (fun x => n - x.1) (0, σp) ⟨Nat.zero_le _, lep⟩ ⟨rfl, trivial⟩ rfl ⟨fun h => h⟩ ?_
    rintro ⟨i, σi⟩ g ⟨hi, lei⟩ ih
    dsimp only at hi lei
    refine zN ?_; refine mvI ?_; refine mvI ?_; refine ltI ?_; refine LS.done ?_
    refine zN ?_
    refine RS.cond (fun c2 => ?_) (fun c2 => ?_)
    · have c2 := of_decide_eq_true c2
      have hin : i < n := by (try dsimp only at c2); omega
      refine RS.skip ?_
      refine zN ?_; refine asI ?_; refine LS.done ?_
      refine zN ?_; refine mvI ?_; refine mvL ?_; refine lenL ?_; refine ltI ?_; refine LS.done ?_
      repeat refine RS.seq ?_
      refine RS.cut (X := Unit) 16 67 (fun _ => True) (fun _ => [(16, .int .i64 (kv o n ph : Nat))]) (fun _ => σi) (fun _ => CS z (run ph n (Kf k0 k1' ph) twice (cP n k0 k1' twice ph) i) []) ?_ (fun J => ?_)
      rotate_left
      · refine zN ?_
        refine RS.cond (fun y => ?_) (fun y => ?_)
        · have hpo : ph < o.length := by have := of_decide_eq_true y; (try dsimp only at this); omega
          obtain ⟨b1, o1, e1, hrow⟩ := hr.addr (fun h => by simp [h] at hpo)
          subst e1
          obtain ⟨hcell, _⟩ := (hrow.mono lei).int ph hpo
          refine zN ?_; refine mvL ?_; refine mvI ?_; refine idx (i := ph) ?_; refine ldS hcell ?_; refine mvI ?_
          refine callP ?_ (hc := fun w _ => w11_c _ (n : Int) (by omega) (by omega) w)
          refine asI ?_; refine LS.done ?_
          exact J () trivial ⟨intV (by unfold kv; rw [dif_pos hpo]; have := Int.emod_nonneg o[ph] (b := (n : Int)) (by omega); omega), trivial⟩ (by repeat (first | with_reducible exact Out.refl _ _ _ | exact Out.hv | refine Out.upd ?_ | refine Out.hvIn ?_)) ⟨fun h => h⟩ rfl
        · have hpo : ¬ ph < o.length := by have := of_decide_eq_false y; (try dsimp only at this); omega
          refine RS.skip ?_
          exact J () trivial ⟨intV (by unfold kv; rw [dif_neg hpo]; rfl), trivial⟩ (by repeat (first | with_reducible exact Out.refl _ _ _ | exact Out.hv | refine Out.upd ?_ | refine Out.hvIn ?_)) ⟨fun h => h⟩ rfl
      rintro _ g3 _
      rw [hKf ph hp2]
      obtain ⟨K, hK⟩ : ∃ K, Kf k0 k1' ph = K := ⟨_, rfl⟩
      have hKn : K < n := by rw [← hK, ← hKf ph hp2]; exact hkv ph
      have hOk := F ph hp2 i hin
      unfold ok at hOk
      rw [hK] at hOk ih ⊢
      obtain ⟨cR, hcR⟩ : ∃ c, run ph n K twice (cP n k0 k1' twice ph) i = c := ⟨_, rfl⟩
      have hiR : Inv cR 40 := hcR ▸ (inv_run (inv_cP h1 h3 k0 k1' twice ph) ph n K twice i).up (by omega)
      have hrun : run ph n K twice (cP n k0 k1' twice ph) (i + 1) = stp ph n K twice i cR := by rw [← hcR]; rfl
      rw [hrun, hcR] at hOk
      unfold stp at hOk hrun
      obtain ⟨cq, lq, heq⟩ : ∃ cq lq, getP cR (ms ph n K i) = (cq, lq) := ⟨_, _, rfl⟩
      have hiq : Inv cq 41 := by have := hiR.get (ms ph n K i); rw [heq] at this; exact this
      rw [heq] at hOk hrun
      dsimp only at hOk hrun
      obtain ⟨O1, O2⟩ := hOk
      have hmk : I64 (ms ph n K i).frm ∧ I64 (ms ph n K i).gang := mK_ok (by have := Nat.mod_lt (i + K) (y := n) (by omega); omega)
      have libi : LibAt σi := lib.mono lei
      have hmod : ((i : Int) + (K : Nat)).tmod (n : Int) = (((i + K) % n : Nat) : Int) := rfl
      have hml := Nat.mod_lt (i + K) (y := n) (by omega)
      dsimp only
      rw [hcR]
      refine zN ?_; refine mvI ?_; refine mvI ?_; (first | refine addN ?_ | refine addI ?_); refine mvI ?_; refine remI (a := (i : Int) + (K : Nat)) (b := (n : Int)) ?_; rw [hmod]; (first | refine addN ?_ | refine addI ?_); refine asI ?_; refine LS.done ?_
      refine zN ?_; refine mvP ?_; refine nilck ?_; refine fld ?_; refine ld1 (v := .pointer _) ?_; refine mvI ?_; refine mvI ?_; refine bld (vals := [(0, .int _ _), (1, .int _ _), (3, .int _ _), (6, .bool _)]) [_, _, _, _, _, _, _] ?_
      refine getE hiR (ms ph n K i) hmk rfl rfl libi heq (fun a80 p80 σ8 k8 lib8 r80 => ?_)
      refine asL ?_; refine LS.done ?_
      repeat refine RS.seq ?_
      refine RS.cut (X := PH) 81 100 (fun x => PH.le σ8 x) (fun _ => [(99, .bool false)]) (fun x => x) (fun _ => CS z (run ph n K twice (cP n k0 k1' twice ph) (i + 1)) []) ?_ (fun J => ?_)
      rotate_left
      · by_cases htw : twice = true ∧ i + 1 < n
        · obtain ⟨rfl, hlt⟩ := htw
          rw [if_pos ⟨rfl, hlt⟩] at hrun
          obtain ⟨c2', l2, he2⟩ : ∃ c2' l2, getP cq (ms ph n K i) = (c2', l2) := ⟨_, _, rfl⟩
          have hO := (O1 hlt).2.1
          rw [he2] at hO hrun
          dsimp only at hO hrun
          obtain rfl : l2 = [] := List.length_eq_zero_iff.1 hO
          refine zN ?_; refine mvB ?_; refine mvB ?_; refine LS.on ?_; refine mvI ?_; refine LS.on ?_; refine mvI ?_; refine LS.on ?_; (first | refine subN ?_ | refine subI ?_); refine LS.on ?_; refine ltI ?_; rw [decide_eq_true (show (i : Int) < (n : Int) - 1 by omega)]; refine pk (v := .bool _) ?_; refine mvB ?_; refine LS.on ?_; refine mvP ?_; refine LS.on ?_; refine nilck ?_; refine LS.on ?_; refine fld ?_; refine LS.on ?_; refine ld1 (v := .pointer _) ?_; refine LS.on ?_; refine mvI ?_; refine LS.on ?_; refine mvI ?_; refine LS.on ?_; refine bld (vals := [(0, .int _ _), (1, .int _ _), (3, .int _ _), (6, .bool _)]) [_, _, _, _, _, _, _] ?_; refine LS.on ?_
          refine getE hiq (ms ph n K i) hmk rfl rfl lib8 he2 (fun a96 p96 σ9 k9 lib9 _ => ?_)
          refine LS.on ?_; refine lenL ?_; refine LS.on ?_; refine neI ?_; refine pk (v := .bool _) ?_; refine LS.done ?_
          exact J σ9 k9 ⟨rfl, trivial⟩ (by repeat (first | with_reducible exact Out.refl _ _ _ | exact Out.hv | refine Out.upd ?_ | refine Out.hvIn ?_)) ⟨fun h => by rw [hrun]; exact h⟩ rfl
        · rw [if_neg htw] at hrun
          cases twice with
          | true =>
            have hlt : ¬ i + 1 < n := fun h => htw ⟨rfl, h⟩
            refine zN ?_; refine mvB ?_; refine mvB ?_; refine LS.on ?_; refine mvI ?_; refine LS.on ?_; refine mvI ?_; refine LS.on ?_; (first | refine subN ?_ | refine subI ?_); refine LS.on ?_; refine ltI ?_; rw [decide_eq_false (show ¬ (i : Int) < (n : Int) - 1 by omega)]; refine pk (v := .bool _) ?_; refine mvB ?_; refine LS.off ?_; refine LS.off ?_; refine LS.off ?_; refine LS.off ?_; refine LS.off ?_; refine LS.off ?_; refine LS.off ?_; refine LS.off ?_; refine LS.off ?_; refine LS.off ?_; refine pk (v := .bool _) ?_; refine LS.done ?_
            exact J σ8 (PH.le_refl _) ⟨rfl, trivial⟩ (by repeat (first | with_reducible exact Out.refl _ _ _ | exact Out.hv | refine Out.upd ?_ | refine Out.hvIn ?_)) ⟨fun h => by rw [hrun]; exact h⟩ rfl
          | false =>
            refine zN ?_; refine mvB ?_; refine mvB ?_; refine LS.off ?_; refine LS.off ?_; refine LS.off ?_; refine LS.off ?_; refine pk (v := .bool _) ?_; refine mvB ?_; refine LS.off ?_; refine LS.off ?_; refine LS.off ?_; refine LS.off ?_; refine LS.off ?_; refine LS.off ?_; refine LS.off ?_; refine LS.off ?_; refine LS.off ?_; refine LS.off ?_; refine pk (v := .bool _) ?_; refine LS.done ?_
            exact J σ8 (PH.le_refl _) ⟨rfl, trivial⟩ (by repeat (first | with_reducible exact Out.refl _ _ _ | exact Out.hv | refine Out.upd ?_ | refine Out.hvIn ?_)) ⟨fun h => by rw [hrun]; exact h⟩ rfl
      rintro σ9 g9 k9
      have lib9 := lib8.mono k9
      have hiN : Inv (run ph n K twice (cP n k0 k1' twice ph) (i + 1)) 60 := (inv_run (inv_cP h1 h3 k0 k1' twice ph) ph n K twice (i + 1)).up (by omega)
      refine zN ?_
      refine RS.condF ?_
      by_cases hlt : i + 1 < n
      · obtain ⟨O3, _, O4, O5⟩ := O1 hlt
        obtain rfl : lq = [] := List.length_eq_zero_iff.1 O3
        rw [← hrun] at O4 O5
        refine zN ?_; refine mvI ?_; refine mvI ?_; (first | refine subN ?_ | refine subI ?_); refine ltI ?_; rw [decide_eq_true (show (i : Int) < (n : Int) - 1 by omega)]; refine mvB ?_; refine LS.on ?_; refine mvL ?_; refine LS.on ?_; refine lenL ?_; refine LS.on ?_; refine neI ?_; refine LS.on ?_; refine mvB ?_; refine LS.on ?_; refine mvP ?_; refine LS.on ?_; refine nilck ?_; refine LS.on ?_; refine fld ?_; refine LS.on ?_; refine ld1 (v := .pointer _) ?_; refine LS.on ?_
        refine stateE hiN 5 O4 ?_
        refine LS.on ?_; refine eqI ?_; rw [decide_eq_false (show ¬ (ph : Int) + 1 = 3 by omega)]; refine LS.on ?_; refine pk (v := .bool _) ?_; refine LS.on ?_; refine mvB ?_; refine LS.on ?_; refine mvP ?_; refine LS.on ?_; refine nilck ?_; refine LS.on ?_; refine fld ?_; refine LS.on ?_; refine ld1 (v := .pointer _) ?_; refine LS.on ?_
        refine waitsE hiN 5 lib9 O5 (fun a121 p121 σ10 k10 lib10 => ?_)
        refine LS.on ?_; refine lenL ?_; refine LS.on ?_; refine mvI ?_; refine LS.on ?_; (first | refine subN ?_ | refine subI ?_); refine LS.on ?_; refine mvI ?_; refine LS.on ?_; (first | refine subN ?_ | refine subI ?_); refine LS.on ?_; refine neI ?_; rw [decide_eq_true (show ((n - 1 - i : Nat) : Int) = (n : Int) - 1 - (i : Int) by omega)]; refine LS.on ?_; refine pk (v := .bool _) ?_; refine pk (v := .bool _) ?_; refine mvB ?_; refine LS.on ?_; refine mvI ?_; refine LS.on ?_; refine mvI ?_; refine LS.on ?_; (first | refine subN ?_ | refine subI ?_); refine LS.on ?_; refine eqI ?_; rw [decide_eq_false (show ¬ (i : Int) = (n : Int) - 1 by omega)]; refine LS.on ?_; refine mvB ?_; refine LS.off ?_; refine LS.off ?_; refine LS.off ?_; refine LS.off ?_; refine LS.off ?_; refine LS.off ?_; refine LS.on ?_; refine pk (v := .bool _) ?_; refine pk (v := .bool _) ?_; refine LS.done ?_
        refine zN ?_
        refine RS.condF ?_
        refine zN ?_; refine mvI ?_; (first | refine addN ?_ | refine addI ?_); refine asI ?_; refine LS.done ?_
        refine zN ?_
        exact ih (i + 1, σ10) ⟨by (try dsimp only); omega, PH.le_trans lei (PH.le_trans k8 (PH.le_trans k9 k10))⟩ (by (try dsimp only); omega) ⟨by first | rfl | exact intV (by (try dsimp only); omega), trivial⟩ (by repeat (first | with_reducible exact Out.refl _ _ _ | exact Out.hv | refine Out.upd ?_ | refine Out.hvIn ?_)) ⟨fun h => h⟩ rfl
      · have hn1 : i + 1 = n := by omega
        refine zN ?_; refine mvI ?_; refine mvI ?_; (first | refine subN ?_ | refine subI ?_); refine ltI ?_; rw [decide_eq_false (show ¬ (i : Int) < (n : Int) - 1 by omega)]; refine mvB ?_; refine LS.off ?_; refine LS.off ?_; refine LS.off ?_; refine LS.off ?_; refine LS.offU ?_; refine LS.offU ?_; refine LS.offU ?_; refine LS.offU ?_; refine LS.offU ?_; refine LS.offU ?_; refine LS.off ?_; refine LS.off ?_; refine LS.offU ?_; refine LS.offU ?_; refine LS.offU ?_; refine LS.offU ?_; refine LS.offU ?_; refine LS.offU ?_; refine LS.offU ?_; refine LS.offU ?_; refine LS.offU ?_; refine LS.offU ?_; refine LS.offU ?_; refine LS.off ?_; refine pk (v := .bool _) ?_; refine mvB ?_; refine LS.on ?_; refine mvI ?_; refine LS.on ?_; refine mvI ?_; refine LS.on ?_; (first | refine subN ?_ | refine subI ?_); refine LS.on ?_; refine eqI ?_; rw [decide_eq_true (show (i : Int) = (n : Int) - 1 by omega)]; refine LS.on ?_; refine mvB ?_; refine LS.on ?_; refine mvL ?_; refine LS.on ?_; refine mvI ?_; refine LS.on ?_; refine mvI ?_; refine LS.on ?_; refine mvB ?_; refine LS.on ?_
        refine allE (r80.mono k9) (AllP.of (O2 hn1)) ?_
        refine LS.on ?_; refine not_ ?_; refine LS.on ?_; refine pk (v := .bool _) ?_; refine pk (v := .bool _) ?_; refine LS.done ?_
        refine zN ?_
        refine RS.condF ?_
        refine zN ?_; refine mvI ?_; (first | refine addN ?_ | refine addI ?_); refine asI ?_; refine LS.done ?_
        refine zN ?_
        exact ih (i + 1, σ9) ⟨by (try dsimp only); omega, PH.le_trans lei (PH.le_trans k8 k9)⟩ (by (try dsimp only); omega) ⟨by first | rfl | exact intV (by (try dsimp only); omega), trivial⟩ (by repeat (first | with_reducible exact Out.refl _ _ _ | exact Out.hv | refine Out.upd ?_ | refine Out.hvIn ?_)) ⟨fun h => h⟩ rfl
    have c2 := of_decide_eq_false c2
    obtain rfl : n = i := by (try dsimp only at c2); omega
    refine RS.exit ?_
    refine zN ?_; refine mvI ?_; (first | refine addN ?_ | refine addI ?_); refine asI ?_; refine LS.done ?_
    refine zN ?_
    exact ihp (ph + 1, σi) ⟨by (try dsimp only); omega, lei⟩ (by (try dsimp only); omega) ⟨by first | rfl | exact intV (by (try dsimp only); omega), trivial⟩ (by repeat (first | with_reducible exact Out.refl _ _ _ | exact Out.hv | refine Out.upd ?_ | refine Out.hvIn ?_)) ⟨fun h => h⟩ rfl
  have c := of_decide_eq_false c
  obtain rfl : 2 = ph := by (try dsimp only at c); omega
  refine RS.exit ?_
  have hfin := inv_cP h1 h3 k0 k1' twice 2
  obtain ⟨G1, G2, G3⟩ := f2 h1 h3 twice k0 hm0 k1' hm1
  have G4 := rs2 h1 h3 twice k0 hm0 k1' hm1
  have G5 : (cP n k0 k1' twice 2).rs.length = 2 := by have := congrArg List.length G3; simpa using this
  refine zN ?_; refine mvP ?_; refine nilck ?_; refine fld ?_; refine ld1 (v := .pointer _) ?_
  have hl1 : 1 < (refL (cP n k0 k1' twice 2).rs).length := by rw [refL_len, G5]; omega
  refine linesL hfin (lib.mono lep) (fun a148 p148 σ9 k9 lib9 r148 => ?_)
  obtain ⟨b1, o1, e1, hrow⟩ := r148.addr (fun h => by rw [h] at hl1; simp at hl1)
  subst e1
  have hcell := (hrow.str 1 hl1).1
  rw [show (refL (cP n k0 k1' twice 2).rs)[1]'hl1 = ⟨#[99, 111, 109, 109, 105, 116, 32, 53]⟩ from by rw [List.getElem?_eq_getElem hl1] at G4; exact Option.some.inj G4] at hcell
  rw [refL_len, G5]
  refine asL ?_; refine LS.done ?_
  refine zN ?_; refine mvP ?_; refine nilck ?_; refine fld ?_; refine ld1 (v := .pointer _) ?_
  refine stateE hfin 5 G1 ?_
  refine eqI ?_; refine mvB ?_; refine LS.on ?_; refine mvP ?_; refine LS.on ?_; refine nilck ?_; refine LS.on ?_; refine fld ?_; refine LS.on ?_; refine ld1 (v := .pointer _) ?_; refine LS.on ?_
  refine lastE G5 ?_
  refine LS.on ?_; refine eqI ?_; refine pk (v := .bool _) ?_; refine mvB ?_; refine LS.on ?_; refine mvL ?_; refine LS.on ?_; refine lenL ?_; refine LS.on ?_; refine eqI ?_; refine pk (v := .bool _) ?_; refine mvB ?_; refine LS.on ?_; refine mvL ?_; refine LS.on ?_; refine idx (i := 1) ?_; refine LS.on ?_; refine ldS hcell ?_; refine LS.on ?_; refine eqS ?_; rw [decide_eq_true rfl]; refine pk (v := .bool _) ?_; refine mvB ?_; refine LS.on ?_; refine mvP ?_; refine LS.on ?_; refine nilck ?_; refine LS.on ?_; refine fld ?_; refine LS.on ?_; refine ld1 (v := .pointer _) ?_; refine LS.on ?_
  refine waitsE hfin 5 lib9 G2 (fun a121 p121 σ10 k10 lib10 => ?_)
  refine LS.on ?_; refine lenL ?_; refine LS.on ?_; refine mvI ?_; refine LS.on ?_; refine eqI ?_; rw [decide_eq_true (rfl : (n : Int) = n)]; refine pk (v := .bool _) ?_; refine asB ?_; refine LS.done ?_
  refine zN ?_; refine RS.ret1 (v := .bool _) Tryz.func5 fun w hw => ?_
  exact ⟨rfl, hw.below⟩
end Go.Proofs.YtaokfeonmgpjcaaGreatDoor
