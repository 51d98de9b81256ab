/- The law SpecKnown answers true. -/
import Derived.Test.YtejdccgebljmgaaGangs
namespace Go.Proofs.Ytejdccgebljmgaa
open Go.JW Go.RowKit

def kA : PodD := ⟨⟨#[97]⟩, 1, 0, 0, [], [], false⟩
def kB : PodD := ⟨⟨#[206, 178]⟩, 2, 1099511627776, 0, [⟨#[120]⟩, ⟨#[121]⟩], [], false⟩
def kPods : Nat → List PodD
  | 0 => [kA, kB]
  | 1 => [kA]
  | 2 => []
  | 3 => [kA, kA]
  | 4 => [kA, ⟨⟨#[99]⟩, 3, 0, 0, [], [], false⟩]
  | 5 => [⟨⟨#[65]⟩, 9, 0, 0, [], [], false⟩, kA]
  | 6 => [kA, ⟨⟨#[99]⟩, 1, 0, -1, [], [], false⟩]
  | 7 => [kA, ⟨⟨#[99]⟩, 1, 0, 0, [], [⟨#[121]⟩, ⟨#[120]⟩], false⟩]
  | 8 => [kA]
  | 9 => [kB]
  | _ => List.replicate 9 ⟨⟨#[]⟩, 0, 0, 0, [], [], false⟩
def kIds : List Int := [1, 0, 1, 1, 1, 1, 1, 1, 1000000, 999999, 1]
def kWant : List Int := [0, 2, 3, 4, 2, 1, 2, 1, 2, 0, 3]
def kG (i : Nat) : GangD := ⟨kIds.getD i 0, kPods i⟩
def kAll : List GangD := (List.range 11).map kG
def dupE (l : List PodD) : Bool := dupB (l.map PodD.name) l.length
theorem gangErr_eq (g : GangD) (s : Int) : gangErr g s = if g.id < 1 ∨ 999999 < g.id then 2 else if g.pods.length < 1 ∨ 8 < g.pods.length then 3 else if firstErr s g.pods ≠ 0 then firstErr s g.pods else if dupE g.pods = true then 4 else 0 := by
  unfold gangErr
  have h : dupE g.pods = true ↔ Dup g.pods g.pods.length := dupB_iff g.pods g.pods.length (Nat.le_refl _)
  by_cases hd : Dup g.pods g.pods.length
  · rw [if_pos hd, if_pos (h.2 hd)]
  · rw [if_neg hd, if_neg (fun h' => hd (h.1 h'))]
theorem kG_err (i : Nat) (hi : i < 11) : gangErr (kG i) 2 = kWant.getD i 0 := by
  have h : ∀ i : Fin 11, (if (kG i.val).id < 1 ∨ 999999 < (kG i.val).id then 2 else if (kG i.val).pods.length < 1 ∨ 8 < (kG i.val).pods.length then 3 else if firstErr 2 (kG i.val).pods ≠ 0 then firstErr 2 (kG i.val).pods else if dupE (kG i.val).pods = true then 4 else 0) = kWant.getD i.val 0 := by decide +kernel
  rw [gangErr_eq]; exact h ⟨i, hi⟩
def cA : List Value := [.string ⟨#[97]⟩, .int .i64 1, .int .i64 0, .int .i64 0, .slice none 0 0, .slice none 0 0, .bool false]
theorem repCst (σ : PH) (nm : ByteArray) (s c m : Int) (hn : nm.size ≤ 100) (hs : -100 ≤ s ∧ s ≤ 100) (hc : -100 ≤ c ∧ c ≤ 100) (hm : -100 ≤ m ∧ m ≤ 100) :
    Rep.rep σ [.string nm, .int .i64 s, .int .i64 c, .int .i64 m, .slice none 0 0, .slice none 0 0, .bool false] (⟨nm, s, c, m, [], [], false⟩ : PodD) :=
  ⟨_, _, rfl, by show nm.size ≤ _; omega, by show I64 s; omega, by show I64 c; omega, by show I64 m; omega, RepL.nil _ _ _, RepL.nil _ _ _⟩
theorem repKA (σ : PH) : Rep.rep σ cA kA := repCst σ _ 1 0 0 (by decide) (by decide) (by decide) (by decide)
theorem cellsZ (σ : PH) : ∀ k, CellsL σ (List.replicate k [.string ⟨#[]⟩, .int .i64 0, .int .i64 0, .int .i64 0, .slice none 0 0, .slice none 0 0, .bool false]).flatten (List.replicate k (⟨⟨#[]⟩, 0, 0, 0, [], [], false⟩ : PodD)) := by
  intro k
  induction k with
  | zero => rfl
  | succ k ih => rw [List.replicate_succ, List.replicate_succ]; exact ⟨_, _, rfl, repCst σ _ 0 0 0 (by decide) (by decide) (by decide) (by decide), ih⟩
theorem known_law_c (which : Int) (w : World) : Calls Try.prog 9 #[.int .i64 which] w fun e w' => e = .returned (.bool true) ∧ Below w.heap.size w w' := by
  obtain ⟨a1, a2⟩ := wmod which 11 (by omega)
  refine RS.enter Try.func9 Try.ntmps9 rfl rfl ?_
  (repeat (first | refine RS.seq ?_ | refine RS.region ?_ | refine RS.regionQ ?_ (by kernel_rfl) (by kernel_rfl) | refine RS.skip ?_ | refine RS.inBlock ?_ | refine RS.block ?_ | refine RS.exit ?_)); refine asB ?_; refine LS.done ?_
  (repeat (first | refine RS.seq ?_ | refine RS.region ?_ | refine RS.regionQ ?_ (by kernel_rfl) (by kernel_rfl) | refine RS.skip ?_ | refine RS.inBlock ?_ | refine RS.block ?_ | refine RS.exit ?_)); skip
  refine callP ?_ (hc := fun w _ => known_c w)
  refine not_ ?_; refine LS.done ?_
  (repeat (first | refine RS.seq ?_ | refine RS.region ?_ | refine RS.regionQ ?_ (by kernel_rfl) (by kernel_rfl) | refine RS.skip ?_ | refine RS.inBlock ?_ | refine RS.block ?_ | refine RS.exit ?_)); refine RS.condF ?_
  (repeat (first | refine RS.seq ?_ | refine RS.region ?_ | refine RS.regionQ ?_ (by kernel_rfl) (by kernel_rfl) | refine RS.skip ?_ | refine RS.inBlock ?_ | refine RS.block ?_ | refine RS.exit ?_)); refine bld (vals := [(0, .string _), (1, .int _ _)]) [_, _, _, _, _, _, _] ?_; refine alloc_ (fun b3 => ?_); refine st (.agg _) _ ?_; refine LS.done ?_
  (repeat (first | refine RS.seq ?_ | refine RS.region ?_ | refine RS.regionQ ?_ (by kernel_rfl) (by kernel_rfl) | refine RS.skip ?_ | refine RS.inBlock ?_ | refine RS.block ?_ | refine RS.exit ?_)); refine bldS [.string _, .string _] [.string _, .string _] (fun b11 => ?_); refine bld (vals := [(0, .int _ _)]) [_, _] ?_; refine bld (vals := [(0, .string _), (1, .int _ _), (3, .slice _ _ _), (2, .agg (List.toArray [_, _]))]) [_, _, _, _, _, _, _] ?_; refine alloc_ (fun b4 => ?_); refine st (.agg _) _ ?_; refine LS.done ?_
  refine RS.freeze (b := b11) inferInstance (fun σ2 hle2 hb11 => ?_)
  have hxy : ∀ {σ' : PH}, PH.le σ2 σ' → RepL σ' (.slice (some ⟨b11, 0, none⟩) 2 2) ([⟨#[120]⟩, ⟨#[121]⟩] : List ByteArray) := fun hle => repLit (hle _ _ hb11) (cellsStr _ (l := [⟨#[120]⟩, ⟨#[121]⟩]) (by intro s hs; simp at hs; rcases hs with rfl | rfl <;> decide)) rfl (by decide) (by decide)
  have repKB : ∀ {σ' : PH}, PH.le σ2 σ' → Rep.rep σ' [.string ⟨#[206, 178]⟩, .int .i64 2, .int .i64 1099511627776, .int .i64 0, .slice (some ⟨b11, 0, none⟩) 2 2, .slice none 0 0, .bool false] kB := fun hle =>
    ⟨_, _, rfl, by decide, by show I64 2; decide, by show I64 1099511627776; decide, by show I64 0; decide, hxy hle, RepL.nil _ _ _⟩
  (repeat (first | refine RS.seq ?_ | refine RS.region ?_ | refine RS.skip ?_ | refine RS.inBlock ?_ | refine RS.block ?_ | refine RS.exit ?_)); refine RS.drawK [.ex, .ex, .ex, .ex, .ex, .ex, .ex, .free, .ex, .ex, .ex, .ex, .ex, .free, .ex, .ex, .free, .ex, .ex, .ex, .ex, .free, .free, .ex, .ex, .ex, .ex, .ex, .ex, .ex, .ex, .ex, .ex, .ex, .ex, .ex, .ex, .ex, .ex, .ex] ?_ (by kernel_rfl) (by kernel_rfl); refine D.ldA [_, _, _, _, _, _, _] ?_; refine D.ldA [_, _, _, _, _, _, _] ?_
  refine D.litT 0 (kPods 0) (vs := fun us => [.agg (List.toArray cA), .agg (List.toArray _)]) ?_ (fun us σ' hle _ => by rw [fromN_zero]; exact ⟨repKA _, repKB hle, trivial⟩)
  refine D.bldU (fun v σ => RepA (fromN 0 σ) v (⟨1, kPods 0⟩ : GangD)) (fun v σ1 σ2 h hs => h.mono (fromN_up hs)) ?_ (fun us σ' _ hf => ?_)
  rotate_left
  · have hr : RepL (fromN 0 σ') (us 16) (kPods 0 : List PodD) := hf.1
    obtain ⟨a, c, e⟩ := hr.form
    refine ⟨[.int .i64 1, us 16], ?_, [.int .i64 1, us 16], rfl, us 16, rfl, by show I64 1; decide, hr⟩
    show fillL _ _ [(0, .int .i64 1), (1, us 16)] = _
    rw [e]; rfl
  refine D.ldA [_, _, _, _, _, _, _] ?_
  refine D.litT 0 (kPods 1) (vs := fun us => [.agg (List.toArray cA)]) ?_ (fun us σ' hle hf => by rw [fromN_zero]; exact ⟨repKA _, trivial⟩)
  refine D.bldU (fun v σ => RepA (fromN 0 σ) v (⟨0, kPods 1⟩ : GangD)) (fun v σ1 σ2 h hs => h.mono (fromN_up hs)) ?_ (fun us σ' _ hf => ?_)
  rotate_left
  · have hr : RepL (fromN 0 σ') (us 19) (kPods 1 : List PodD) := hf.1
    obtain ⟨a, c, e⟩ := hr.form
    refine ⟨[.int .i64 0, us 19], ?_, [.int .i64 0, us 19], rfl, us 19, rfl, by show I64 0; decide, hr⟩
    show fillL _ _ [(0, .int .i64 0), (1, us 19)] = _
    rw [e]; rfl
  refine D.bld (vals := [(0, .int _ _)]) [_, _] ?_; refine D.ldA [_, _, _, _, _, _, _] ?_; refine D.ldA [_, _, _, _, _, _, _] ?_
  refine D.litT 0 (kPods 3) (vs := fun us => [.agg (List.toArray cA), .agg (List.toArray cA)]) ?_ (fun us σ' hle hf => by rw [fromN_zero]; exact ⟨repKA _, repKA _, trivial⟩)
  refine D.bldU (fun v σ => RepA (fromN 0 σ) v (⟨1, kPods 3⟩ : GangD)) (fun v σ1 σ2 h hs => h.mono (fromN_up hs)) ?_ (fun us σ' _ hf => ?_)
  rotate_left
  · have hr : RepL (fromN 0 σ') (us 24) (kPods 3 : List PodD) := hf.1
    obtain ⟨a, c, e⟩ := hr.form
    refine ⟨[.int .i64 1, us 24], ?_, [.int .i64 1, us 24], rfl, us 24, rfl, by show I64 1; decide, hr⟩
    show fillL _ _ [(0, .int .i64 1), (1, us 24)] = _
    rw [e]; rfl
  refine D.ldA [_, _, _, _, _, _, _] ?_; refine D.bld (vals := [(0, .string _), (1, .int _ _)]) [_, _, _, _, _, _, _] ?_
  refine D.litT 0 (kPods 4) (vs := fun us => [.agg (List.toArray cA), .agg (List.toArray [.string ⟨#[99]⟩, .int .i64 3, .int .i64 0, .int .i64 0, .slice none 0 0, .slice none 0 0, .bool false])]) ?_ (fun us σ' hle hf => by rw [fromN_zero]; exact ⟨repKA _, repCst _ _ 3 0 0 (by decide) (by decide) (by decide) (by decide), trivial⟩)
  refine D.bldU (fun v σ => RepA (fromN 0 σ) v (⟨1, kPods 4⟩ : GangD)) (fun v σ1 σ2 h hs => h.mono (fromN_up hs)) ?_ (fun us σ' _ hf => ?_)
  rotate_left
  · have hr : RepL (fromN 0 σ') (us 28) (kPods 4 : List PodD) := hf.1
    obtain ⟨a, c, e⟩ := hr.form
    refine ⟨[.int .i64 1, us 28], ?_, [.int .i64 1, us 28], rfl, us 28, rfl, by show I64 1; decide, hr⟩
    show fillL _ _ [(0, .int .i64 1), (1, us 28)] = _
    rw [e]; rfl
  refine D.bld (vals := [(0, .string _), (1, .int _ _)]) [_, _, _, _, _, _, _] ?_; refine D.ldA [_, _, _, _, _, _, _] ?_
  refine D.litT 0 (kPods 5) (vs := fun us => [.agg (List.toArray [.string ⟨#[65]⟩, .int .i64 9, .int .i64 0, .int .i64 0, .slice none 0 0, .slice none 0 0, .bool false]), .agg (List.toArray cA)]) ?_ (fun us σ' hle hf => by rw [fromN_zero]; exact ⟨repCst _ _ 9 0 0 (by decide) (by decide) (by decide) (by decide), repKA _, trivial⟩)
  refine D.bldU (fun v σ => RepA (fromN 0 σ) v (⟨1, kPods 5⟩ : GangD)) (fun v σ1 σ2 h hs => h.mono (fromN_up hs)) ?_ (fun us σ' _ hf => ?_)
  rotate_left
  · have hr : RepL (fromN 0 σ') (us 32) (kPods 5 : List PodD) := hf.1
    obtain ⟨a, c, e⟩ := hr.form
    refine ⟨[.int .i64 1, us 32], ?_, [.int .i64 1, us 32], rfl, us 32, rfl, by show I64 1; decide, hr⟩
    show fillL _ _ [(0, .int .i64 1), (1, us 32)] = _
    rw [e]; rfl
  refine D.ldA [_, _, _, _, _, _, _] ?_; refine D.bld (vals := [(1, .int _ _)]) [_, _] ?_; refine D.bld (vals := [(0, .string _), (1, .int _ _), (2, .agg (List.toArray [_, _]))]) [_, _, _, _, _, _, _] ?_
  refine D.litT 0 (kPods 6) (vs := fun us => [.agg (List.toArray cA), .agg (List.toArray [.string ⟨#[99]⟩, .int .i64 1, .int .i64 0, .int .i64 (-1), .slice none 0 0, .slice none 0 0, .bool false])]) ?_ (fun us σ' hle hf => by rw [fromN_zero]; exact ⟨repKA _, repCst _ _ 1 0 (-1) (by decide) (by decide) (by decide) (by decide), trivial⟩)
  refine D.bldU (fun v σ => RepA (fromN 0 σ) v (⟨1, kPods 6⟩ : GangD)) (fun v σ1 σ2 h hs => h.mono (fromN_up hs)) ?_ (fun us σ' _ hf => ?_)
  rotate_left
  · have hr : RepL (fromN 0 σ') (us 37) (kPods 6 : List PodD) := hf.1
    obtain ⟨a, c, e⟩ := hr.form
    refine ⟨[.int .i64 1, us 37], ?_, [.int .i64 1, us 37], rfl, us 37, rfl, by show I64 1; decide, hr⟩
    show fillL _ _ [(0, .int .i64 1), (1, us 37)] = _
    rw [e]; rfl
  refine D.ldA [_, _, _, _, _, _, _] ?_
  refine D.litT 0 ([⟨#[121]⟩, ⟨#[120]⟩] : List ByteArray) (vs := fun us => [.string ⟨#[121]⟩, .string ⟨#[120]⟩]) ?_ (fun us σ' hle hf => by exact ⟨⟨rfl, by decide⟩, ⟨rfl, by decide⟩, trivial⟩)
  refine D.bldU (fun v σ => RepA (fromN 0 σ) v (⟨⟨#[99]⟩, 1, 0, 0, [], [⟨#[121]⟩, ⟨#[120]⟩], false⟩ : PodD)) (fun v σ1 σ2 h hs => h.mono (fromN_up hs)) ?_ (fun us σ' _ hf => ?_)
  rotate_left
  · have hr : RepL (fromN 0 σ') (us 40) ([⟨#[121]⟩, ⟨#[120]⟩] : List ByteArray) := hf.1
    obtain ⟨a, c, e⟩ := hr.form
    refine ⟨podC ⟨⟨#[99]⟩, 1, 0, 0, [], [⟨#[121]⟩, ⟨#[120]⟩], false⟩ (.slice none 0 0) (us 40), ?_, _, rfl, _, _, rfl, by decide, by show I64 1; decide, by show I64 0; decide, by show I64 0; decide, RepL.nil _ _ _, hr⟩
    show fillL _ _ [(0, .string ⟨#[99]⟩), (1, .int .i64 1), (4, us 40)] = _
    rw [e]; rfl
  refine D.litT 0 (kPods 7) (vs := fun us => [.agg (List.toArray cA), us 41]) ?_ (fun us σ' hle hf => by have h := hf.1.cv; rw [fromN_zero] at h ⊢; exact ⟨repKA _, h, trivial⟩)
  refine D.bldU (fun v σ => RepA (fromN 0 σ) v (⟨1, kPods 7⟩ : GangD)) (fun v σ1 σ2 h hs => h.mono (fromN_up hs)) ?_ (fun us σ' _ hf => ?_)
  rotate_left
  · have hr : RepL (fromN 0 σ') (us 42) (kPods 7 : List PodD) := hf.1
    obtain ⟨a, c, e⟩ := hr.form
    refine ⟨[.int .i64 1, us 42], ?_, [.int .i64 1, us 42], rfl, us 42, rfl, by show I64 1; decide, hr⟩
    show fillL _ _ [(0, .int .i64 1), (1, us 42)] = _
    rw [e]; rfl
  refine D.ldA [_, _, _, _, _, _, _] ?_
  refine D.litT 0 (kPods 8) (vs := fun us => [.agg (List.toArray cA)]) ?_ (fun us σ' hle hf => by rw [fromN_zero]; exact ⟨repKA _, trivial⟩)
  refine D.bldU (fun v σ => RepA (fromN 0 σ) v (⟨1000000, kPods 8⟩ : GangD)) (fun v σ1 σ2 h hs => h.mono (fromN_up hs)) ?_ (fun us σ' _ hf => ?_)
  rotate_left
  · have hr : RepL (fromN 0 σ') (us 45) (kPods 8 : List PodD) := hf.1
    obtain ⟨a, c, e⟩ := hr.form
    refine ⟨[.int .i64 1000000, us 45], ?_, [.int .i64 1000000, us 45], rfl, us 45, rfl, by show I64 1000000; decide, hr⟩
    show fillL _ _ [(0, .int .i64 1000000), (1, us 45)] = _
    rw [e]; rfl
  refine D.ldA [_, _, _, _, _, _, _] ?_
  refine D.litT 0 (kPods 9) (vs := fun us => [.agg (List.toArray _)]) ?_ (fun us σ' hle hf => by rw [fromN_zero]; exact ⟨repKB hle, trivial⟩)
  refine D.bldU (fun v σ => RepA (fromN 0 σ) v (⟨999999, kPods 9⟩ : GangD)) (fun v σ1 σ2 h hs => h.mono (fromN_up hs)) ?_ (fun us σ' _ hf => ?_)
  rotate_left
  · have hr : RepL (fromN 0 σ') (us 48) (kPods 9 : List PodD) := hf.1
    obtain ⟨a, c, e⟩ := hr.form
    refine ⟨[.int .i64 999999, us 48], ?_, [.int .i64 999999, us 48], rfl, us 48, rfl, by show I64 999999; decide, hr⟩
    show fillL _ _ [(0, .int .i64 999999), (1, us 48)] = _
    rw [e]; rfl
  refine D.mkL (m := 9) (List.replicate 9 [.string ⟨#[]⟩, .int .i64 0, .int .i64 0, .int .i64 0, .slice none 0 0, .slice none 0 0, .bool false]).flatten ?_ (hc := by simp only [madeCells, Array.toList_map, Array.toList_range]; rfl)
  refine D.bldU (fun v σ => RepA (fromN 0 σ) v (kG 10)) (fun v σ1 σ2 h hs => h.mono (fromN_up hs)) ?_ (fun us σ' _ hf => ?_)
  rotate_left
  · obtain ⟨b, e, hb⟩ := hf.1
    refine ⟨[.int .i64 1, us 50], ?_, _, rfl, _, rfl, by show I64 1; decide, ?_⟩
    · show fillL _ _ [(0, .int .i64 1), (1, us 50)] = _
      rw [e]; rfl
    · rw [e, fromN_zero]
      exact repLit hb (cellsZ σ' 9) rfl (by decide) (by decide)
  refine D.litT 0 kAll (vs := fun us => [us 17, us 20, .agg (List.toArray [.int .i64 1, .slice none 0 0]), us 25, us 29, us 33, us 38, us 43, us 46, us 49, us 51]) ?_ (fun us σ' hle hf => ?_)
  rotate_left
  · have e10 : ∀ {τ : PH}, Rep.rep τ [.int .i64 1, .slice none 0 0] (kG 2) := ⟨_, rfl, by show I64 1; decide, RepL.nil _ _ _⟩
    obtain ⟨h51, _, h49, _, h46, _, h43, _, _, _, h38, _, h33, _, h29, _, h25, _, h20, _, h17, _⟩ := hf
    exact ⟨h17.cv, h20.cv, e10, h25.cv, h29.cv, h33.cv, h38.cv, h43.cv, h46.cv, h49.cv, h51.cv, trivial⟩
  refine D.asU (fun v σ => RepL (fromN 0 σ) v kAll) (fun v σ1 σ2 h hs => h.mono (fromN_up hs)) ?_ (fun us σ' _ hf => hf.1)
  refine D.done (fun us σ3 hle3 hfs => ?_)
  have h5 : RepL σ3 (us 5) kAll := by have h : RepL (fromN 0 σ3) (us 5) kAll := hfs.1; rwa [fromN_zero] at h
  clear hfs
  obtain ⟨v5, hv5⟩ : ∃ v, v = us 5 := ⟨_, rfl⟩
  rw [← hv5] at h5
  obtain ⟨a5, c5, rfl⟩ := h5.form
  refine RS.as 5 (.slice a5 kAll.length c5) hv5.symm ?_
  clear hv5
  (repeat (first | refine RS.seq ?_ | refine RS.region ?_ | refine RS.regionQ ?_ (by kernel_rfl) (by kernel_rfl) | refine RS.skip ?_ | refine RS.inBlock ?_ | refine RS.block ?_ | refine RS.exit ?_)); refine bldS [.int _ _, .int _ _, .int _ _, .int _ _, .int _ _, .int _ _, .int _ _, .int _ _, .int _ _, .int _ _, .int _ _] [.int _ _, .int _ _, .int _ _, .int _ _, .int _ _, .int _ _, .int _ _, .int _ _, .int _ _, .int _ _, .int _ _] (fun b53 => ?_); refine asL ?_; refine LS.done ?_
  (repeat (first | refine RS.seq ?_ | refine RS.region ?_ | refine RS.regionQ ?_ (by kernel_rfl) (by kernel_rfl) | refine RS.skip ?_ | refine RS.inBlock ?_ | refine RS.block ?_ | refine RS.exit ?_)); refine mvI ?_; refine mvL ?_; refine lenL ?_
  refine callP ?_ (hc := fun w _ => w3_c _ _ (by decide) (by decide) w)
  refine asI ?_; refine LS.done ?_
  have hk11 : kAll.length = 11 := rfl
  obtain ⟨i, hi⟩ : ∃ m : Nat, (m : Int) = which % 11 := ⟨(which % 11).toNat, by omega⟩
  have hi' : i < kAll.length := by omega
  refine RS.as 7 (.int .i64 i) (by rw [hi]; rfl) ?_
  obtain ⟨b, o, rfl, hrow⟩ := h5.addr (by decide)
  obtain ⟨vs, hvc, hvr⟩ := hrow i hi'
  have hvl : vs.length = 2 := Rep.len hvr
  (repeat (first | refine RS.seq ?_ | refine RS.region ?_ | refine RS.regionQ ?_ (by kernel_rfl) (by kernel_rfl) | refine RS.skip ?_ | refine RS.inBlock ?_ | refine RS.block ?_ | refine RS.exit ?_)); refine mvL ?_; refine mvI ?_; refine idx (i := i) ?_; refine ldSA (vs := vs) hvl hvc ?_
  refine callP ?_ (hc := fun w hw => gang_c _ kAll[i] 2 w (Rep.mono hvr hw.imm))
  refine mvL ?_; refine mvI ?_; refine idx (i := i) ?_; refine ld1 (v := .int .i64 (kWant.getD i 0)) ?_ (hv := nth_int kWant i hi'); refine eqI ?_; refine asB ?_; refine LS.done ?_
  (repeat (first | refine RS.seq ?_ | refine RS.region ?_ | refine RS.regionQ ?_ (by kernel_rfl) (by kernel_rfl) | refine RS.skip ?_ | refine RS.inBlock ?_ | refine RS.block ?_ | refine RS.exit ?_)); refine RS.ret1 (v := .bool _) Try.func9 fun w hw => ?_
  exact ⟨retB (by rw [show kAll[i] = kG i from by simp [kAll]]; rw [kG_err i hi']; simp), hw.below⟩
end Go.Proofs.Ytejdccgebljmgaa
