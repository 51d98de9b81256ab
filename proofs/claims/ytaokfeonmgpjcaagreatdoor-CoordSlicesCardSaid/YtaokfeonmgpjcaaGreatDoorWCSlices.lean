/- The walk of CoordSlices. -/
import Derived.Test.YtaokfeonmgpjcaaGreatDoorS4
namespace Go.Proofs.YtaokfeonmgpjcaaGreatDoor
open Go.JW Go.RowKit
namespace Slices
def nameS (i : Int) : ByteArray := (⟨#[112]⟩ : ByteArray) ++ (List.foldl (fun (r : ByteArray) (n : Int) => r.push (UInt8.ofNat n.toNat)) ByteArray.empty [IntKind.u8.wrap (97 + i)])
def podS (l : List Int) (i : Nat) : PodD := ⟨nameS i, 1 + l.getD i 0 % 3, i, 0, [], [], decide ((i : Int).tmod 2 = 0)⟩
def podsS (l : List Int) (n : Nat) : List PodD := (List.range n).map (podS l)
theorem podsS_succ (l : List Int) (n : Nat) : podsS l (n + 1) = podsS l n ++ [podS l n] := by simp [podsS, List.range_succ]
theorem podsS_len (l : List Int) (n : Nat) : (podsS l n).length = n := by simp [podsS]
theorem nameS_size (s : Int) : (nameS s).size = 2 := by
  simp only [nameS, ByteArray.size_append, List.foldl]; rw [ByteArray.size_push]; rfl
theorem shS (l : List Int) (i : Nat) : 1 ≤ (podS l i).shard ∧ (podS l i).shard ≤ 3 := by
  show 1 ≤ 1 + l.getD i 0 % 3 ∧ 1 + l.getD i 0 % 3 ≤ 3
  omega
theorem podS_rep (σ : PH) (l : List Int) (i : Nat) (hi : i < 8) : Rep.rep σ (podC (podS l i) nilV nilV) (podS l i) :=
  have z : I64 0 := ⟨by decide, by decide⟩
  have h := shS l i
  ⟨_, _, rfl, by show (nameS i).size ≤ _; rw [nameS_size]; omega, ⟨by omega, by omega⟩, ⟨by show _ ≤ (i : Int); omega, by show (i : Int) ≤ _; omega⟩, z, RepL.nil _ _ _, RepL.nil _ _ _⟩
theorem nameS_ok : ∀ i ∈ List.range 8, isName (nameS ((i : Nat) : Int)) = true ∧ sizeOk ((i : Nat) : Int) 0 = true := by decide +kernel
theorem names_ok : ((List.range 8).map fun (i : Nat) => nameS i).Nodup := by decide +kernel
theorem errS (l : List Int) {n : Nat} (h1 : 1 ≤ n) (hn : n ≤ 8) : gangErr ⟨9, podsS l n⟩ 3 = 0 := by
  have hf : firstErr 3 (podsS l n) = 0 := by
    refine firstErr_zero fun i hi => ?_
    rw [podsS_len] at hi
    have e : (podsS l n)[i]'(by rw [podsS_len]; exact hi) = podS l i := by simp [podsS]
    rw [e]
    obtain ⟨g1, g2⟩ := nameS_ok i (List.mem_range.2 (by omega))
    have h := shS l i
    unfold podErr
    rw [if_neg (by rw [show (podS l i).name = nameS i from rfl, g1]; simp)]
    rw [if_neg, if_neg]
    · show ¬ (!isSet [] || !isSet []) = true
      decide
    · show ¬ (decide ((podS l i).shard < 1) || decide (3 < (podS l i).shard) || !sizeOk (i : Int) 0) = true
      rw [g2]; simp; omega
  have hd : ¬ Dup (podsS l n) (podsS l n).length := by
    rintro ⟨i, j, h1, h2, hi, hj, he⟩
    rw [podsS_len] at h2
    have e : ∀ k (hk : k < (podsS l n).length), (podsS l n)[k] = podS l k := fun k hk => by simp [podsS]
    rw [e, e] at he
    have hp := List.pairwise_iff_getElem.1 names_ok
    have := hp j i (by simp; omega) (by simp; omega) h1
    simp only [List.getElem_map, List.getElem_range] at this
    exact this he.symm
  unfold gangErr
  dsimp only
  rw [if_neg (by omega), if_neg (by rw [podsS_len]; omega), hf, if_neg (by simp), if_neg hd]
def gS (p : List PodD) (a : Nat) : GgD := ⟨9, 1, a, p, shardsOf p, shardsOf p⟩
def cS (p : List PodD) (a : Nat) : CoD := ⟨[gS p a], [recP 7 9 (shardsOf p)]⟩
def lS (p : List PodD) : List MsgD := (shardsOf p).map fun d => ⟨1, 0, d, 9, sliceOf p d, [], false⟩
theorem all_gS (p : List PodD) (a : Nat) : allP (gS p a) = lS p := by
  unfold allP lS
  refine List.map_congr_left fun d _ => ?_
  rfl
theorem sub0 : submitP 3 c0 ⟨9, []⟩ = (c0, [], 3) := by
  have h : gangErr ⟨9, []⟩ 3 = 3 := by
    unfold gangErr
    rw [if_neg (by decide), if_pos (by decide)]
  rw [submit_bad (by rw [h]; decide), h]
theorem subS (l : List Int) {n : Nat} (h1 : 1 ≤ n) (hn : n ≤ 8) : submitP 3 c0 ⟨9, podsS l n⟩ = (cS (podsS l n) 0, lS (podsS l n), 0) := by
  rw [submit_yes (by rw [errS l h1 hn]; simp) (by simp [findP, c0]), ← all_gS _ 0]
  rfl
theorem tickS (p : List PodD) {a : Nat} (h : a + 1 < 8) : tickP (cS p a) = (cS p (a + 1), lS p) := by
  have hg : tickG (gS p a) = gS p (a + 1) := by
    unfold tickG
    rw [if_pos (.inl rfl), if_pos (show ((gS p a).age + 1 < 8) from (by omega : ((a : Int) + 1 < 8)))]
    rfl
  unfold tickP
  rw [show (cS p a).gs.map tickG = [tickG (gS p a)] from rfl, hg, ← all_gS p (a + 1)]
  show (_, [gS p (a + 1)].flatMap allP) = _
  simp
  rfl
theorem invS (l : List Int) {n : Nat} (h1 : 1 ≤ n) (hn : n ≤ 8) : ∀ a, a ≤ 7 → Inv (cS (podsS l n) a) 1
  | 0, _ => by have h := inv0.submit (n := 3) (by omega) ⟨9, podsS l n⟩; rw [subS l h1 hn] at h; exact h
  | a + 1, ha => by have h := (invS l h1 hn a (by omega)).tick; rw [tickS _ (by omega)] at h; exact h
end Slices
open Slices
theorem slices_c (l : List Int) (ticks : Int) (_ : I64 ticks) (vl : Value) (w : World) (lib : LibAt (hp w)) (hr : RepL (hp w) vl l) :
    Calls Tryz.prog 3 #[vl, .int .i64 ticks] w fun e w' => e = .returned (.bool true) ∧ Below w.heap.size w w' := by
  obtain ⟨al, cl, rfl⟩ := hr.form
  have hlen : l.length ≤ 140737488355328 := hr.1
  refine RS.enter Tryz.func3 Tryz.ntmps3 rfl rfl ?_
  refine zN ?_; refine asB ?_; refine LS.done ?_
  refine zN ?_; skip
  refine callQ (fun v _ => v = .bool true) [] (fun v σ1 k1 hq => ?_) (hc := fun w' hw => known11_s lib w' hw)
  subst hq
  refine not_ ?_; refine LS.done ?_
  refine zN ?_
  refine RS.condF ?_
  refine zN ?_; skip
  refine callX (X := W11 × PH) (fun x => ptV x.1.w) (fun x => x.2) (fun x => CS x.1 c0 []) (fun x => PH.le σ1 x.2) (fun x hx => ?_) (fun w' hw => (open_w w' hw).mono fun _ _ ⟨x, h1, h2, h3⟩ => ⟨x, h1, h2, h3⟩)
  obtain ⟨z, σ2⟩ := x
  dsimp only at hx ⊢
  have lib2 : LibAt σ2 := lib.mono (PH.le_trans k1 hx)
  refine asP ?_; refine LS.done ?_
  refine zN ?_; refine mvP ?_; refine bin_eql_P ?_; refine LS.done ?_
  refine zN ?_
  refine RS.condF ?_
  refine zN ?_; refine bld (vals := [(0, .int _ _)]) [_, _] ?_; refine alloc_ (fun b6 => ?_); refine st (.agg (List.toArray [.int .i64 9, nilV])) [.int .i64 9, nilV] ?_; refine LS.done ?_
  refine zN ?_; refine asI ?_; refine LS.done ?_
  refine zN ?_
  refine RS.nilD 0 PodD 35 ?_
  have le2 : PH.le (hp w) σ2 := PH.le_trans k1 hx
  refine RS.loopF (X := Nat × Value × PH) 7 52 (fun x => x.1 ≤ l.length ∧ x.1 ≤ 8 ∧ PH.le σ2 x.2.2) (fun x => [(7, .int .i64 x.1)]) (fun x => x.2.2) (fun x => rowD 0 35 x.2.1 (podsS l x.1) :: gxB b6 9 x.2.1 :: CS z c0 []) (fun x => 8 - x.1) (0, nilV, σ2) ⟨Nat.zero_le _, Nat.zero_le _, PH.le_refl _⟩ ⟨rfl, trivial⟩ rfl ⟨fun h => h⟩ ?_
  rintro ⟨i, v, σi⟩ g ⟨hi, hi8, lei⟩ ih
  dsimp only at hi hi8 lei
  refine zN ?_; refine mvI ?_; refine mvL ?_; refine lenL ?_; refine ltI ?_; refine mvB ?_
  refine LS.cut 23 27 [(26, .bool (decide (i < l.length ∧ i < 8)))] (fun gg => ?_) (fun J => ?_)
  rotate_left
  · refine LS.part 23 (fun g1 => ?_) (fun g1 => ?_)
    · refine LS.on ?_; refine mvI ?_; refine LS.on ?_; refine ltI ?_; refine pk (v := .bool _) ?_; refine LS.done ?_
      simp only [decide_eq_true_eq] at g1
      exact J ⟨boolV (decide_eq_decide.2 (by omega)), trivial⟩ (by repeat (first | with_reducible exact Out.refl _ _ _ | exact Out.hv | refine Out.upd ?_ | refine Out.hvIn ?_))
    · refine LS.off ?_; refine LS.off ?_; refine pk (v := .bool _) ?_; refine LS.done ?_
      simp only [decide_eq_false_iff_not] at g1
      exact J ⟨boolV (by symm; exact decide_eq_false (by omega)), trivial⟩ (by repeat (first | with_reducible exact Out.refl _ _ _ | exact Out.hv | refine Out.upd ?_ | refine Out.hvIn ?_))
  refine zN ?_
  refine RS.cond (fun c => ?_) (fun c => ?_)
  · have c := of_decide_eq_true c
    obtain ⟨hlt, hlt8⟩ := c
    refine RS.skip ?_
    have hpl := podsS_len l i
    obtain ⟨b9, o9, e9, hrow⟩ := hr.addr (fun h => by simp [h] at hlt)
    subst e9
    obtain ⟨hcell, _⟩ := (hrow.mono (PH.le_trans le2 lei)).int i hlt
    have hgd : l[i] = l.getD i 0 := by simp [List.getD_eq_getElem?_getD, hlt]
    rw [hgd] at hcell
    have hf1 : (List.foldl (fun (r : ByteArray) (n : Int) => r.push (UInt8.ofNat n.toNat)) ByteArray.empty [IntKind.u8.wrap (97 + (i : Int))]).size = 1 := by simp only [List.foldl]; rw [ByteArray.size_push]; rfl
    have hp1 : (⟨#[112]⟩ : ByteArray).size = 1 := rfl
    refine zD ?_; refine RS.draw [.free, .ex, .free, .free, .free, .ex, .ex, .free, .free, .free, .free, .free, .ex, .free, .free, .free, .free, .free, .free, .free, .ex, .eff, .free, .st] [gxB b6 9 v] ?_ (by kernel_rfl) (by kernel_rfl) (by infer_instance); refine D.fld ?_; refine D.ld1 (v := v) ?_; refine D.mvI ?_; (first | refine D.addN ?_ | refine D.addI ?_); refine D.cvI ?_
    refine D.bldL [.int .u8 _] [.int .u8 _] ?_
    refine D.b2s (c0 := 1) [IntKind.u8.wrap (97 + (i : Int))] 34 ?_ (fun us σ' _ ⟨⟨b, h1, h2⟩, _⟩ => ⟨b, h1, fun j hj => by simp [PH.cell, h2]⟩); refine D.addS ?_; refine D.mvL ?_; refine D.mvI ?_; refine D.idx (i := i) ?_; refine D.ldSf hcell ?_
    refine D.callP ?_ (hc := fun _ _ w _ _ _ => w11_c _ _ (by omega) (by omega) w)
    (first | refine D.addN ?_ | refine D.addI ?_); refine D.mvI ?_; refine D.bld (vals := [(0, .int _ _)]) [_, _] ?_; refine D.mvI ?_; refine D.remI ?_; refine D.eqI ?_; refine D.bld (vals := [(0, .string _), (1, .int _ _), (2, .agg (List.toArray [_, _])), (5, .bool _)]) [_, _, _, _, _, _, _] ?_; refine D.litT 0 [podS l i] (vs := fun us => [.agg (List.toArray (podC (podS l i) nilV nilV))]) ?_ (fun us σ' _ _ => ⟨podS_rep _ l i hlt8, trivial⟩); refine D.appD v [podS l i] (vy := fun us => us 49) ?_ (fun us σ' _ ⟨h1, _⟩ => ⟨_, h1, PH.le_refl _⟩) (hb := by simp; omega) (hm := by simp; omega); refine D.fld ?_
    refine D.stU 50 (fun us => [.int .i64 9, us 50]) ?_
    refine D.done (fun us σ3 hle3 hfs => ?_)
    refine RS.ow ?_
    refine zN ?_; refine mvI ?_; (first | refine addN ?_ | refine addI ?_); refine asI ?_; refine LS.done ?_; refine zN ?_
    exact ih (i + 1, us 50, σ3) ⟨by (try dsimp only); omega, by (try dsimp only); omega, PH.le_trans lei hle3⟩ (by (try dsimp only); omega) ⟨rfl, trivial⟩ (by repeat (first | with_reducible exact Out.refl _ _ _ | exact Out.hv | refine Out.upd ?_ | refine Out.hvIn ?_)) ⟨fun h => by simp only [podsS_succ]; exact h⟩ rfl
  have c := of_decide_eq_false c
  refine RS.exit ?_
  have hpl := podsS_len l i
  refine RS.freeze0 (l := podsS l i) v (fun σ4 k4 h4 => ?_) (hl := by omega)
  obtain ⟨a6, p6, rfl⟩ := h4.form
  have lib4 : LibAt σ4 := (lib2.mono lei).mono k4
  refine RS.ar (CS z c0 [gxB b6 9 (.slice a6 (podsS l i).length p6)]) ?_
  by_cases hi0 : i = 0
  · have hsub : submitP 3 c0 ⟨9, podsS l i⟩ = (c0, [], 3) := by rw [hi0]; exact sub0
    refine zD ?_; refine RS.draw [.free, .free, .free, .ex, .ex, .eff, .ex, .ex, .ex, .ex, .free] [woH z, gxB b6 9 (.slice a6 (podsS l i).length p6)] ?_ (by kernel_rfl) (by kernel_rfl) (by infer_instance); refine D.mvP ?_; refine D.nilck ?_; refine D.fld ?_; refine D.ld1 (v := .pointer _) ?_; refine D.ldA [.int .i64 9, .slice a6 (podsS l i).length p6] ?_
    refine D.callWU (fun _ => [ptV z.c, .agg (List.toArray [.int .i64 9, .slice a6 (podsS l i).length p6])]) (fun v τ => AnsM ([]) 3 v τ) (ansM_mono _ _) (CS z (c0) [gxB b6 9 (.slice a6 (podsS l i).length p6)]) ?_ (hc := fun us σ' w' X hle hfs hw => submitB inv0 (by omega) (lib4.mono hle) ⟨_, rfl, _, rfl, show I64 9 from ⟨by decide, by decide⟩, h4.mono hle⟩ hsub hw)
    refine D.mvFT (fun v τ => AnsM ([]) 3 v τ) (ansM_mono _ _) ?_ (fun us σ' hle hf => hf.1)
    refine D.exFT (fun v τ => RepL τ v ([])) mono_L ?_ (fun us σ' hle hf => by obtain ⟨a, c, h1, h2⟩ := hf.1; exact ⟨_, _, h1, rfl, h2⟩)
    refine D.exV (.int .i64 3) ?_ (fun us σ' hle hf => by obtain ⟨a, c, h1, h2⟩ := hf.2.1; exact ⟨_, h1, rfl⟩)
    refine D.asFT (fun v τ => RepL τ v ([])) mono_L ?_ (fun us σ' hle hf => hf.1)
    refine D.asI ?_; refine D.done (fun us σ1 hle1 hfs => ?_)
    refine RS.ow ?_
    have hr8 : RepL σ1 (us 8) ([] : List MsgD) := hfs.1
    obtain ⟨a8, p8, e8⟩ := hr8.form
    refine zN ?_; refine fld ?_; refine ld1 (v := .slice _ _ _) ?_; refine lenL ?_; refine eqI ?_; refine LS.done ?_
    refine zN ?_
    refine RS.condT ?_ (h := by show decide (((podsS l i).length : Int) = 0) = true; rw [hpl]; exact decide_eq_true (by omega))
    refine zN ?_; refine mvI ?_; refine eqI ?_; refine mvB ?_; refine LS.on ?_; refine mv (v := us 8) ?_; rw [e8]; refine LS.on ?_; refine lenL ?_; refine LS.on ?_; refine eqI ?_; refine pk (v := .bool _) ?_; refine mvB ?_; refine LS.on ?_; refine mvP ?_; refine LS.on ?_; refine nilck ?_; refine LS.on ?_; refine fld ?_; refine LS.on ?_; refine ld1 (v := .pointer _) ?_; refine LS.on ?_
    refine linesL inv0 (lib4.mono hle1) (fun a77 p77 σ5 k5 lib5 _ => ?_)
    rw [refL_len, show c0.rs.length = 0 from rfl]
    refine LS.on ?_; refine lenL ?_; refine LS.on ?_; refine eqI ?_; refine pk (v := .bool _) ?_; refine asB ?_; refine LS.done ?_
    refine zN ?_; refine RS.ret1 (v := .bool _) Tryz.func3 fun w hw => ?_
    exact ⟨rfl, hw.below⟩
  have h1 : 1 ≤ i := by omega
  have hsub := subS l h1 hi8
  have hinv := invS l h1 hi8
  obtain ⟨ps, hps⟩ : ∃ p, podsS l i = p := ⟨_, rfl⟩
  refine zD ?_; refine RS.draw [.free, .free, .free, .ex, .ex, .eff, .ex, .ex, .ex, .ex, .free] [woH z, gxB b6 9 (.slice a6 (podsS l i).length p6)] ?_ (by kernel_rfl) (by kernel_rfl) (by infer_instance); refine D.mvP ?_; refine D.nilck ?_; refine D.fld ?_; refine D.ld1 (v := .pointer _) ?_; refine D.ldA [.int .i64 9, .slice a6 (podsS l i).length p6] ?_
  refine D.callWU (fun _ => [ptV z.c, .agg (List.toArray [.int .i64 9, .slice a6 (podsS l i).length p6])]) (fun v τ => AnsM (lS (podsS l i)) 0 v τ) (ansM_mono _ _) (CS z (cS (podsS l i) 0) [gxB b6 9 (.slice a6 (podsS l i).length p6)]) ?_ (hc := fun us σ' w' X hle hfs hw => submitB inv0 (by omega) (lib4.mono hle) ⟨_, rfl, _, rfl, show I64 9 from ⟨by decide, by decide⟩, h4.mono hle⟩ hsub hw)
  refine D.mvFT (fun v τ => AnsM (lS (podsS l i)) 0 v τ) (ansM_mono _ _) ?_ (fun us σ' hle hf => hf.1)
  refine D.exFT (fun v τ => RepL τ v (lS (podsS l i))) mono_L ?_ (fun us σ' hle hf => by obtain ⟨a, c, h1, h2⟩ := hf.1; exact ⟨_, _, h1, rfl, h2⟩)
  refine D.exV (.int .i64 0) ?_ (fun us σ' hle hf => by obtain ⟨a, c, h1, h2⟩ := hf.2.1; exact ⟨_, h1, rfl⟩)
  refine D.asFT (fun v τ => RepL τ v (lS (podsS l i))) mono_L ?_ (fun us σ' hle hf => hf.1)
  refine D.asI ?_; refine D.done (fun us σ1 hle1 hfs => ?_)
  refine RS.ow ?_
  have hr8 : RepL σ1 (us 8) (lS (podsS l i)) := hfs.1
  refine zN ?_; refine fld ?_; refine ld1 (v := .slice _ _ _) ?_; refine lenL ?_; refine eqI ?_; refine LS.done ?_
  refine zN ?_
  refine RS.condF ?_ (h := by show decide (((podsS l i).length : Int) = 0) = false; rw [hpl]; exact decide_eq_false (by omega))
  refine zN ?_; refine asI ?_; refine LS.done ?_
  refine zN ?_
  obtain ⟨kt, hkt⟩ : ∃ kt : Nat, ticks % 7 = kt := ⟨(ticks % 7).toNat, by omega⟩
  have hkt7 : kt < 7 := by omega
  have hll : (lS (podsS l i)).length = (shardsOf (podsS l i)).length := by simp [lS]
  have hsl : (shardsOf (podsS l i)).length ≤ 8 := ((hinv 0 (by omega)).ok.gs _ (List.mem_singleton.2 rfl)).few2.2
  have hpb : ∀ p ∈ podsS l i, p.picks.length ≤ 1000 ∧ p.bears.length ≤ 1000 := fun p hp => by
    simp only [podsS, List.mem_map] at hp
    obtain ⟨j, _, rfl⟩ := hp
    exact ⟨Nat.zero_le _, Nat.zero_le _⟩
  have I9 : I64 9 := ⟨by decide, by decide⟩
  refine RS.loopF (X := Nat × Value × PH) 8 169 (fun x => x.1 ≤ kt + 1 ∧ PH.le σ1 x.2.2 ∧ RepL x.2.2 x.2.1 (lS (podsS l i))) (fun x => [(8, x.2.1), (9, .int .i64 0), (10, .int .i64 x.1)]) (fun x => x.2.2) (fun x => CS z (cS (podsS l i) (x.1 - 1)) [gxB b6 9 (.slice a6 (podsS l i).length p6)]) (fun x => kt + 1 - x.1) (0, us 8, σ1) ⟨Nat.zero_le _, PH.le_refl _, hr8⟩ ⟨rfl, rfl, rfl, trivial⟩ rfl ⟨fun h => h⟩ ?_
  rintro ⟨m, v8, σm⟩ g2 ⟨hm, lem, r8⟩ ihm
  dsimp only at hm lem r8
  refine zN ?_; refine mvI ?_; refine mvI ?_
  refine callP ?_ (hc := fun w _ => w11_c _ _ (by omega) (by omega) w)
  rw [hkt]
  refine JW.leI ?_; refine LS.done ?_
  refine zN ?_
  refine RS.cond (fun c => ?_) (fun c => ?_)
  · have c := of_decide_eq_true c
    have hmk : m ≤ kt := by (try dsimp only at c); omega
    have libm : LibAt σm := (lib4.mono hle1).mono lem
    refine RS.skip ?_
    refine zN ?_; refine mvI ?_; refine gtI ?_; refine LS.done ?_
    repeat refine RS.seq ?_
    refine RS.cut (X := Value × PH) 8 94 (fun x => PH.le σm x.2 ∧ RepL x.2 x.1 (lS (podsS l i))) (fun x => [(8, x.1), (9, .int .i64 0), (10, .int .i64 m)]) (fun x => x.2) (fun x => CS z (cS (podsS l i) m) [gxB b6 9 (.slice a6 (podsS l i).length p6)]) ?_ (fun J => ?_)
    rotate_left
    · refine zN ?_
      refine RS.cond (fun y => ?_) (fun y => ?_)
      · have hm0 : 0 < m := by have := of_decide_eq_true y; (try dsimp only at this); omega
        obtain ⟨a, rfl⟩ : ∃ a, m = a + 1 := ⟨m - 1, by omega⟩
        refine zN ?_; refine mvP ?_; refine nilck ?_; refine fld ?_; refine ld1 (v := .pointer _) ?_
        refine tickE (hinv a (by omega)) libm (tickS _ (by omega)) (fun a93 p93 σ5 k5 lib5 r93 => ?_)
        refine asL ?_; refine LS.done ?_
        exact J (_, σ5) ⟨k5, r93⟩ ⟨rfl, rfl, rfl, trivial⟩ (by repeat (first | with_reducible exact Out.refl _ _ _ | exact Out.hv | refine Out.upd ?_ | refine Out.hvIn ?_)) ⟨fun h => h⟩ rfl
      · have hm0 : m = 0 := by have := of_decide_eq_false y; (try dsimp only at this); omega
        subst hm0
        refine RS.skip ?_
        exact J (_, σm) ⟨PH.le_refl _, r8⟩ ⟨rfl, rfl, rfl, trivial⟩ (by repeat (first | with_reducible exact Out.refl _ _ _ | exact Out.hv | refine Out.upd ?_ | refine Out.hvIn ?_)) ⟨fun h => h⟩ rfl
    rintro ⟨w8, σ5⟩ g5 ⟨le5, r8⟩
    dsimp only at le5 r8
    obtain ⟨a8, p8, rfl⟩ := r8.form
    have hI := hinv m (by omega)
    have l5 : PH.le σ4 σ5 := PH.le_trans hle1 (PH.le_trans lem le5)
    refine zN ?_; refine ldA [.int .i64 9, .slice a6 (podsS l i).length p6] ?_
    refine callT (fun v τ => RepL τ v (shardsOf (podsS l i))) (fun v95 τ1 σ6 hq hN hle6 hτ => ?_) (fun w' hw => rshards_c _ ⟨9, podsS l i⟩ w' ⟨_, rfl, I9, h4.mono (PH.le_trans l5 hw.imm)⟩ (by show (podsS l i).length ≤ 1000; omega))
    have r11 := hq.mono hτ
    obtain ⟨a95, p95, rfl⟩ := r11.form
    refine asL ?_; refine LS.done ?_
    refine zN ?_; refine mvI ?_; refine neI ?_; refine mvB ?_; refine LS.on ?_; refine mvL ?_; refine LS.on ?_; refine lenL ?_; refine LS.on ?_; refine mvL ?_; refine LS.on ?_; refine lenL ?_; refine LS.on ?_; refine neI ?_; rw [hll, decide_eq_true (rfl : ((shardsOf (podsS l i)).length : Int) = _)]; refine pk (v := .bool _) ?_; refine mvB ?_; refine LS.on ?_; refine mvP ?_; refine LS.on ?_; refine nilck ?_; refine LS.on ?_; refine fld ?_; refine LS.on ?_; refine ld1 (v := .pointer _) ?_; refine LS.on ?_
    refine stateE hI 9 (rfl : stateP (cS (podsS l i) m).gs 9 = 1) ?_
    refine LS.on ?_; refine neI ?_; refine pk (v := .bool _) ?_; refine LS.done ?_
    refine zN ?_
    refine RS.condF ?_
    refine zN ?_; refine asI ?_; refine LS.done ?_
    refine zN ?_
    refine RS.loopF (X := Nat × PH) 12 169 (fun x => x.1 ≤ (lS (podsS l i)).length ∧ PH.le σ6 x.2) (fun x => [(12, .int .i64 x.1)]) (fun x => x.2) (fun x => CS z (cS (podsS l i) m) [gxB b6 9 (.slice a6 (podsS l i).length p6)]) (fun x => (lS (podsS l i)).length - x.1) (0, σ6) ⟨Nat.zero_le _, PH.le_refl _⟩ ⟨rfl, trivial⟩ rfl ⟨fun h => h⟩ ?_
    rintro ⟨k, σk⟩ g6 ⟨hk, lek⟩ ihk
    dsimp only at hk lek
    refine zN ?_; refine mvI ?_; refine mvL ?_; refine lenL ?_; refine ltI ?_; refine LS.done ?_
    refine zN ?_
    refine RS.cond (fun c2 => ?_) (fun c2 => ?_)
    · have c2 := of_decide_eq_true c2
      have hkl : k < (lS (podsS l i)).length := by (try dsimp only at c2); omega
      have hks : k < (shardsOf (podsS l i)).length := by omega
      refine RS.skip ?_
      obtain ⟨b1, o1, e1, hro⟩ := (r8.mono (PH.le_trans hle6 lek)).addr (fun h => by simp [h] at hkl)
      obtain ⟨vs, hcs, hrep⟩ := hro k hkl
      obtain ⟨vp, vq, rfl, _, _, _, _, hvp, hvq⟩ := id hrep
      obtain ⟨b2, o2, e2, hro2⟩ := (r11.mono lek).addr (fun h => by simp [h] at hks)
      obtain ⟨hc2, _⟩ := hro2.int k hks
      have hel : (lS (podsS l i))[k] = ⟨1, 0, (shardsOf (podsS l i))[k], 9, sliceOf (podsS l i) (shardsOf (podsS l i))[k], [], false⟩ := by simp [lS]
      obtain ⟨d, hd⟩ : ∃ d, (shardsOf (podsS l i))[k] = d := ⟨_, rfl⟩
      rw [hd] at hel hc2
      rw [hel] at hcs hvp hvq
      dsimp only at hvp hvq
      obtain ⟨aq, pq, rfl⟩ := hvq.form
      obtain ⟨avp, pvp, rfl⟩ := hvp.form
      subst e1 e2
      have sz7 : Rep.sz MsgD = 7 := rfl
      have d0 : σk.cell b1 (o1 + k * 7 + 0) = some (.int .i64 1) := hcs 0 (by omega)
      have d2 : σk.cell b1 (o1 + k * 7 + 2) = some (.int .i64 d) := hcs 2 (by omega)
      have d3 : σk.cell b1 (o1 + k * 7 + 3) = some (.int .i64 9) := hcs 3 (by omega)
      have d4 : σk.cell b1 (o1 + k * 7 + 4) = some (.slice avp (sliceOf (podsS l i) d).length pvp) := hcs 4 (by omega)
      have d5 : σk.cell b1 (o1 + k * 7 + 5) = some (.slice aq 0 pq) := hcs 5 (by omega)
      have h4k : ∀ {τ}, PH.le σk τ → RepL τ (.slice a6 (podsS l i).length p6) (podsS l i) := fun {τ} hτ => h4.mono (PH.le_trans l5 (PH.le_trans hle6 (PH.le_trans lek hτ)))
      refine zD ?_; refine RS.drawG [(125, some false), (137, some false), (145, some false), (160, some false)] [.free, .free, .free, .free, .free, .free, .free, .free, .free, .free, .free, .free, .free, .free, .free, .free, .free, .free, .free, .free, .free, .free, .free, .free, .free, .free, .free, .free, .free, .free, .free, .free, .ex, .free, .free, .free, .free, .ex, .ex, .free, .free, .free, .free, .free, .free, .free, .free, .free, .free, .free] [gxB b6 9 (.slice a6 (podsS l i).length p6)] ?_ (by kernel_rfl) (by kernel_rfl) (by kernel_rfl) ⟨fun h => (inferInstance : Less (CS z (cS (podsS l i) m) [gxB b6 9 (.slice a6 (podsS l i).length p6)]) [gxB b6 9 (.slice a6 (podsS l i).length p6)]).get h⟩; simp only [ers, ersO, onOff, glook, nthO, List.map_cons, List.map_nil, Option.bind_some, Option.map_some, Nat.beq, cond_true, cond_false, BEq.beq]; refine D.mvL ?_; refine D.mvI ?_; refine D.idx (i := k) ?_; refine D.fld ?_; refine D.ldSf d0 ?_; refine D.neI ?_; refine D.mvB ?_; refine D.mvL ?_; refine D.mvI ?_; refine D.idx (i := k) ?_; refine D.fld ?_; refine D.ldSf d2 ?_; refine D.mvL ?_; refine D.mvI ?_; refine D.idx (i := k) ?_; refine D.ldSf hc2 ?_; refine D.neI ?_; rw [show (!decide (d = d)) = false by simp]; refine D.pk (v := .bool _) ?_; refine D.mvB ?_; refine D.mvL ?_; refine D.mvI ?_; refine D.idx (i := k) ?_; refine D.fld ?_; refine D.ldSf d3 ?_; refine D.neI ?_; refine D.pk (v := .bool _) ?_; refine D.mvB ?_; refine D.mvL ?_; refine D.mvI ?_; refine D.idx (i := k) ?_; refine D.fld ?_; refine D.ldSf d4 ?_; refine D.ldA [_, _] ?_; refine D.mvL ?_; refine D.mvI ?_; refine D.idx (i := k) ?_; refine D.ldSf hc2 ?_
      refine D.callN (fun v τ => RepL τ v (sliceOf (podsS l i) d)) ?_ (hc := fun _ σ' w' hle _ hw => rslice_c _ ⟨9, podsS l i⟩ d w' ⟨_, rfl, I9, h4k (PH.le_trans hle hw.imm)⟩ (by show (podsS l i).length ≤ 1000; omega) hpb)
      skip
      refine D.callP (v := .bool true) (args := fun us => [.slice avp (sliceOf (podsS l i) d).length pvp, us 156]) ?_ (hc := fun us σ' w' hle hf hw => by
        obtain ⟨τ, g1, g2, _⟩ := hf.1
        exact rpods_c _ _ _ w' (hvp.mono (PH.le_trans hle hw.imm)) (g1.mono (PH.le_trans g2 hw.imm)))
      refine D.not_ ?_; refine D.pk (v := .bool _) ?_; refine D.mvB ?_; refine D.mvL ?_; refine D.mvI ?_; refine D.idx (i := k) ?_; refine D.fld ?_; refine D.ldSf d5 ?_; refine D.lenL ?_; refine D.neI ?_; refine D.pk (v := .bool _) ?_; refine D.doneG [(125, some false), (137, some false), (145, some false), (160, some false)] ⟨⟨rfl, rfl⟩, ⟨rfl, rfl⟩, ⟨rfl, rfl⟩, ⟨rfl, rfl⟩, trivial⟩ (fun us σ1 hle1 hfs => ?_)
      refine RS.ow ?_
      refine zN ?_
      refine RS.condF ?_
      refine zN ?_; refine mvI ?_; (first | refine addN ?_ | refine addI ?_); refine asI ?_; refine LS.done ?_
      refine zN ?_
      exact ihk (k + 1, σ1) ⟨by (try dsimp only); omega, PH.le_trans lek hle1⟩ (by (try dsimp only); omega) ⟨by first | rfl | exact intV (by (try dsimp only); omega), trivial⟩ (by repeat (first | with_reducible exact Out.refl _ _ _ | exact Out.hv | refine Out.upd ?_ | refine Out.hvIn ?_)) ⟨fun h => h⟩ rfl
    refine RS.exit ?_
    refine zN ?_; refine mvI ?_; (first | refine addN ?_ | refine addI ?_); refine asI ?_; refine LS.done ?_
    refine zN ?_
    exact ihm (m + 1, .slice a8 (shardsOf (podsS l i)).length p8, σk) ⟨by (try dsimp only); omega, PH.le_trans lem (PH.le_trans le5 (PH.le_trans hle6 lek)), by (try dsimp only); rw [← hll]; exact r8.mono (PH.le_trans hle6 lek)⟩ (by (try dsimp only); omega) ⟨rfl, rfl, by first | rfl | exact intV (by (try dsimp only); omega), trivial⟩ (by repeat (first | with_reducible exact Out.refl _ _ _ | exact Out.hv | refine Out.upd ?_ | refine Out.hvIn ?_)) ⟨fun h => h⟩ rfl
  refine RS.exit ?_
  refine zN ?_; refine asB ?_; refine LS.done ?_
  refine zN ?_; refine RS.ret1 (v := .bool _) Tryz.func3 fun w hw => ?_
  exact ⟨rfl, hw.below⟩
end Go.Proofs.YtaokfeonmgpjcaaGreatDoor
