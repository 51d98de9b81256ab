/- The walk of LineEight. -/
import Derived.Test.YtaiofgmhlfccgaaGreatDoorQ5
namespace Go.Proofs.YtaiofgmhlfccgaaGreatDoor
open Go.JW Go.RowKit
abbrev tyP4 : TypeId := 40
def plE1 (j : Nat) : PlaceD := ⟨letter ⟨#[112]⟩ (j : Int), B [110], 0, 0, false⟩
def plE (k : Nat) : List PlaceD := (List.range k).map plE1
def recL (l : List PlaceD) : RecD := { rec0 with kind := 3, gang := 3, peers := [2], places := l }
abbrev recE (k : Nat) : RecD := recL (plE k)
def wantE (k : Nat) : Int := if k < 1 ∨ 8 < k then 3 else 0
theorem plE_succ (k : Nat) : plE (k + 1) = plE k ++ [plE1 k] := by unfold plE; rw [List.range_succ, List.map_append]; rfl
theorem plE_len (k : Nat) : (plE k).length = k := by simp [plE]
theorem plE_at {k i : Nat} (h : i < (plE k).length) : (plE k)[i] = plE1 i := by simp [plE]
theorem checkE : ∀ k : Fin 11, checkP (recE k.val) = wantE k.val := by decide +kernel
theorem parseE : ∀ k : Fin 11, (parseP (textP (recE k.val))).2 = wantE k.val := by decide +kernel
def plE2 (k i j : Nat) : List PlaceD := (plE k).set i { plE1 i with pod := (plE1 j).pod }
def recE2 (k i j : Nat) : RecD := recL (plE2 k i j)
theorem checkE2 : ∀ k i j : Fin 9, i.val < k.val → j.val < k.val → (checkP (recE2 k.val i.val j.val) = 4 ↔ ¬ i.val = j.val) := by decide +kernel
theorem textE (k : Nat) : textP (recE k) = joinB (headW (recE 0) ++ (plE k).map placeT) := textP3 (r := recE k) rfl
theorem headE : joinB (headW (recE 0) ++ (plE 0).map placeT) = [112, 114, 101, 112, 97, 114, 101, 32, 51, 32, 50] := by decide +kernel
theorem plE1_rep (σ : PH) (j : Nat) : Rep.rep σ (placeC (plE1 j)) (plE1 j) := by
  have z : I64 0 := ⟨by decide, by decide⟩
  exact ⟨rfl, by show (letter _ _).size ≤ _; rw [letter_size]; decide, by show (B [110]).size ≤ _; decide, z, z⟩
theorem placeT_E (j : Nat) : placeT (plE1 j) = bs (letter ⟨#[112]⟩ (j : Int)) ++ [62, 110, 58, 48, 44, 48] := by
  have h : vecT 0 0 = [48, 44, 48] := by decide +kernel
  simp [placeT, plE1, h, flagT, bs_B]
theorem textE_len (k : Nat) (hk : k ≤ 11) : (joinB (headW (recE 0) ++ (plE k).map placeT)).length ≤ 11 + 10 * k := by
  induction k with
  | zero => rw [headE]; simp
  | succ k ih =>
    have := ih (by omega)
    rw [plE_succ, List.map_append, List.map_singleton, ← List.append_assoc, joinB_app _ _ (by simp [headW]), placeT_E]
    have h2 : (bs (letter ⟨#[112]⟩ (k : Int))).length = 2 := by rw [bs_len, letter_size]; rfl
    simp only [List.length_append, List.length_cons, List.length_nil, h2]
    omega
theorem rowWriteE {σ : PH} {c0 : List Value} {l : List PlaceD} (h : CellsL σ (c0.take (l.length * 5)) l) (hl : l.length * 5 ≤ c0.length) (i : Nat) (hi : i < l.length) (f : Nat) (vs : List Value) (hf : f + vs.length ≤ 5) (x' : PlaceD) (hx : ∀ c, Rep.rep σ c l[i] → Rep.rep σ (setAt c f vs) x') :
    CellsL σ ((setAt c0 (0 + i * 5 + f) vs).take (l.length * 5)) (l.set i x') := by
  have hmul : i * 5 + 5 ≤ l.length * 5 := by omega
  rw [take_setAt _ _ _ _ (by omega) hl, Nat.zero_add]
  exact h.write i hi f vs hf x' hx
abbrev rcE (b : Nat) (vp vq : Value) : HP := rcB b 3 3 vp vq ⟨#[]⟩ 0 0 nilV nilV false
theorem recL_rep {σ : PH} {vp vq : Value} {l : List PlaceD} (h1 : RepL σ vp [(2 : Int)]) (h2 : RepL σ vq l) : Rep.rep σ (recC (recL l) vp vq nilV nilV) (recL l) :=
  have z : I64 0 := ⟨by decide, by decide⟩
  have t : I64 3 := ⟨by decide, by decide⟩
  ⟨_, _, _, _, rfl, t, t, h1, h2, Nat.zero_le _, z, z, RepL.nil _ _ _, RepL.nil _ _ _⟩
theorem recL_small {l : List PlaceD} (h : l.length ≤ 100) : SmallR (recL l) := ⟨Nat.zero_le _, Nat.zero_le _, by show l.length ≤ _; omega, by show 1 ≤ 100000; omega⟩
theorem rep_places {σ : PH} {R : RecD} {f : Fm} (h : Rep.rep σ (rcV R f) R) : RepL σ (.slice f.a2 R.places.length f.c2) R.places := by
  obtain ⟨_, _, _, _, e, _, _, _, hq, _⟩ := h
  simp only [recC, List.cons.injEq, true_and, and_true] at e
  rw [e.2.1]; exact hq
theorem eight_c (m : Int) (_ : I64 m) (ia : Int) (_ : I64 ia) (ib : Int) (_ : I64 ib) (w : World) (lib : LibAt (hp w)) :
    Calls Tryz.prog 11 #[.int .i64 m, .int .i64 ia, .int .i64 ib] w fun e w' => e = .returned (.bool true) ∧ Below w.heap.size w w' := by
  obtain ⟨d1, d2⟩ := wmod m 11 (by omega)
  obtain ⟨k, hk⟩ : ∃ k : Nat, m % 11 = k := ⟨(m % 11).toNat, by omega⟩
  have hk11 : k < 11 := by omega
  have hT : I64 2 := ⟨by decide, by decide⟩
  refine RS.enter Tryz.func11 Tryz.ntmps11 rfl rfl ?_
  (repeat (first | refine zS ?_ | refine zR ?_ | refine zQ ?_ | refine zK ?_ | refine zI ?_ | refine zB ?_ | refine zE ?_)); refine asB ?_; refine LS.done ?_
  (repeat (first | refine zS ?_ | refine zR ?_ | refine zQ ?_ | refine zK ?_ | refine zI ?_ | refine zB ?_ | refine zE ?_)); skip
  refine callQ (fun v _ => v = .bool true) [] (fun v σ1 k1 hq => ?_) (hc := fun w' hw => known_s lib w' hw)
  subst hq
  refine not_ ?_; refine LS.done ?_
  (repeat (first | refine zS ?_ | refine zR ?_ | refine zQ ?_ | refine zK ?_ | refine zI ?_ | refine zB ?_ | refine zE ?_))
  refine RS.condF ?_
  (repeat (first | refine zS ?_ | refine zR ?_ | refine zQ ?_ | refine zK ?_ | refine zI ?_ | refine zB ?_ | refine zE ?_)); refine mvI ?_
  refine callP ?_ (hc := fun w _ => w4_c _ _ (by omega) (by omega) w)
  rw [hk]
  refine asI ?_; refine LS.done ?_
  (repeat (first | refine zS ?_ | refine zR ?_ | refine zQ ?_ | refine zK ?_ | refine zI ?_ | refine zB ?_ | refine zE ?_)); refine bldS [.int .i64 2] [.int .i64 2] (fun b21 => ?_); refine LS.asRow (b := b21) (m := 1) (s := 1) inferInstance (fun h => h) rfl rfl (by omega) ?_; refine bld (vals := [(0, .int _ _), (1, .int _ _), (2, .slice _ _ _)]) [_, _, _, _, _, _, _, _, _, _] ?_; refine alloc_ (fun b8 => ?_); refine st (.agg _) _ ?_; refine LS.done ?_
  refine RS.closeD 0 [(2 : Int)] (v := .slice (some ⟨b21, 0, none⟩) 1 1) inferInstance (CellsL.one_ (show Rep.rep _ [Value.int .i64 2] (2 : Int) from ⟨rfl, hT⟩)) ?_
  refine RS.freeze0 (l := [(2 : Int)]) (.slice (some ⟨b21, 0, none⟩) 1 1) (fun σ2 k2 hrP => ?_) (hl := by simp)
  have k12 := PH.le_trans k1 k2
  (repeat (first | refine zS ?_ | refine zR ?_ | refine zQ ?_ | refine zK ?_ | refine zI ?_ | refine zB ?_ | refine zE ?_)); refine asS ?_; refine LS.done ?_
  (repeat (first | refine zS ?_ | refine zR ?_ | refine zQ ?_ | refine zK ?_ | refine zI ?_ | refine zB ?_ | refine zE ?_)); refine asI ?_; refine LS.done ?_
  (repeat (first | refine zS ?_ | refine zR ?_ | refine zQ ?_ | refine zK ?_ | refine zI ?_ | refine zB ?_ | refine zE ?_))
  refine RS.nilD 0 PlaceD tyP4 ?_
  refine RS.loopF (X := Nat × Value) 9 46 (fun x => x.1 ≤ k) (fun x => [(9, .string (B (joinB (headW (recE 0) ++ (plE x.1).map placeT)))), (10, .int .i64 x.1)]) (fun _ => σ2) (fun x => [rowD 0 tyP4 x.2 (plE x.1), rcE b8 (.slice (some ⟨b21, 0, none⟩) 1 1) x.2]) (fun x => k - x.1) (0, nilV) (Nat.zero_le _) ⟨by rw [headE]; rfl, rfl, trivial⟩ rfl ⟨fun h => h⟩ ?_
  rintro ⟨i, vq⟩ g hi ih
  dsimp only at hi
  have hpl := plE_len i
  (repeat (first | refine zS ?_ | refine zR ?_ | refine zQ ?_ | refine zK ?_ | refine zI ?_ | refine zB ?_ | refine zE ?_)); refine mvI ?_; refine mvI ?_; refine ltI ?_; refine LS.done ?_
  (repeat (first | refine zS ?_ | refine zR ?_ | refine zQ ?_ | refine zK ?_ | refine zI ?_ | refine zB ?_ | refine zE ?_))
  by_cases hlt : i < k
  · refine RS.condT ?_ (h := by simp; omega)
    obtain ⟨J, hJ⟩ : ∃ J, J = B (joinB (headW (recE 0) ++ (plE i).map placeT)) := ⟨_, rfl⟩
    have hJl : J.size ≤ 11 + 10 * i := by rw [hJ, B_size]; exact textE_len i (by omega)
    have hp1 : (⟨#[112]⟩ : ByteArray).size = 1 := rfl
    have hf1 : (List.foldl (fun (r : ByteArray) (n : Int) => r.push (UInt8.ofNat n.toNat)) ByteArray.empty [IntKind.u8.wrap (97 + (i : Int))]).size = 1 := by simp only [List.foldl]; rw [ByteArray.size_push]; rfl
    have hls : (letter ⟨#[112]⟩ (i : Int)).size = 2 := by rw [letter_size]; rfl
    have s1 : (⟨#[32]⟩ : ByteArray).size = 1 := rfl
    have s2 : (⟨#[62, 110, 58, 48, 44, 48]⟩ : ByteArray).size = 6 := rfl
    have y1 : J.size + (⟨#[32]⟩ : ByteArray).size ≤ 9223372036854775807 := by omega
    have y2 : (J ++ ⟨#[32]⟩).size + (letter ⟨#[112]⟩ (i : Int)).size ≤ 9223372036854775807 := by simp only [ByteArray.size_append]; omega
    have y3 : (J ++ ⟨#[32]⟩ ++ letter ⟨#[112]⟩ (i : Int)).size + (⟨#[62, 110, 58, 48, 44, 48]⟩ : ByteArray).size ≤ 9223372036854775807 := by simp only [ByteArray.size_append]; omega
    have hfin : J ++ ⟨#[32]⟩ ++ letter ⟨#[112]⟩ (i : Int) ++ ⟨#[62, 110, 58, 48, 44, 48]⟩ = B (joinB (headW (recE 0) ++ (plE (i + 1)).map placeT)) := by
      rw [plE_succ, List.map_append, List.map_singleton, ← List.append_assoc, joinB_app _ _ (by simp [headW]), placeT_E, hJ, ← B_bs (letter ⟨#[112]⟩ (i : Int)), show (⟨#[32]⟩ : ByteArray) = B [32] from rfl, show (⟨#[62, 110, 58, 48, 44, 48]⟩ : ByteArray) = B [62, 110, 58, 48, 44, 48] from rfl]
      simp only [B_add]
      simp [bs_B]
    rw [← hJ]
    (repeat (first | refine zS ?_ | refine zR ?_ | refine zQ ?_ | refine zK ?_ | refine zI ?_ | refine zB ?_ | refine zE ?_)); refine mvI ?_; (first | refine addN ?_ | refine addI ?_); refine cvI ?_; refine bldS [.int _ _] [.int _ _] (fun b31 => ?_); refine b2sB [IntKind.u8.wrap (97 + (i : Int))] ?_; refine addS ?_; refine asS ?_; refine LS.done ?_
    refine RS.to (K' := [rowD 0 tyP4 vq (plE i), rcE b8 (.slice (some ⟨b21, 0, none⟩) 1 1) vq]) ?_ ⟨fun h => h.tail⟩
    (repeat (first | refine zS ?_ | refine zR ?_ | refine zQ ?_ | refine zK ?_ | refine zI ?_ | refine zB ?_ | refine zE ?_)); refine fld ?_; refine ld1 (v := vq) ?_; refine mvS ?_; refine bld (vals := [(0, .string _), (1, .string _)]) [_, _, _, _, _] ?_; refine bldS [.agg (List.toArray (placeC (plE1 i)))] (placeC (plE1 i)) (fun b38 => ?_); refine appD (v := vq) (l' := [plE1 i]) (vy := .slice (some ⟨b38, 0, none⟩) 1 1) (fun w' hw => ⟨_, srcB hw TSlice.eq, CellsL.one_ (plE1_rep _ i)⟩) (fun v39 => ?_) (hb := by simp; omega) (hm := by simp; omega); refine LS.formD v39 (fun a39 c39 e39 _ => ?_); subst e39; refine fld ?_; refine st (.slice _ _ _) _ ?_; refine LS.done ?_
    (repeat (first | refine zS ?_ | refine zR ?_ | refine zQ ?_ | refine zK ?_ | refine zI ?_ | refine zB ?_ | refine zE ?_)); refine mvS ?_; refine addS ?_ (hs := y1); refine mvS ?_; refine addS (b := letter ⟨#[112]⟩ (i : Int)) ?_ (hs := y2); refine addS ?_ (hs := y3); rw [hfin]; refine asS ?_; refine LS.done ?_
    (repeat (first | refine zS ?_ | refine zR ?_ | refine zQ ?_ | refine zK ?_ | refine zI ?_ | refine zB ?_ | refine zE ?_)); refine mvI ?_; (first | refine addN ?_ | refine addI ?_); refine asI ?_; refine LS.done ?_; (repeat (first | refine zS ?_ | refine zR ?_ | refine zQ ?_ | refine zK ?_ | refine zI ?_ | refine zB ?_ | refine zE ?_))
    exact ih (i + 1, _) hlt (by (try dsimp only); omega) ⟨rfl, rfl, trivial⟩ (by repeat (first | with_reducible exact Out.refl _ _ _ | exact Out.hv | refine Out.upd ?_ | refine Out.hvIn ?_)) ⟨fun h => by simp only [plE_succ]; exact h.tail⟩ rfl
  refine RS.condF ?_ (h := by simp; omega)
  obtain rfl : i = k := by omega
  clear ih
  refine RS.exit ?_
  refine RS.formD (l := plE i) vq (fun a7 c7 e7 _ => ?_); subst e7
  rw [← textE]
  have hck := checkE ⟨i, hk11⟩
  have hpa := parseE ⟨i, hk11⟩
  simp only at hck hpa
  have htl : (textP (recE i)).length ≤ 90000 := by rw [textE]; have := textE_len i (by omega); omega
  (repeat (first | refine zS ?_ | refine zR ?_ | refine zQ ?_ | refine zK ?_ | refine zI ?_ | refine zB ?_ | refine zE ?_)); refine mvS ?_
  refine callQ (ParseA (textP (recE i))) [rowD 0 tyP4 (.slice a7 (plE i).length c7) (plE i), rcE b8 (.slice (some ⟨b21, 0, none⟩) 1 1) (.slice a7 (plE i).length c7)] (fun v σ3 k3 hq => ?_) (hc := fun w' hw => parse_s _ htl (lib.mono k12) w' hw)
  obtain ⟨cs, rfl, hr3⟩ := hq
  obtain ⟨f3, rfl⟩ := rep_form hr3
  rw [hpa]
  refine mvT ?_; refine extr (v := _) ?_; refine extr (v := .int _ _) ?_; refine alloc_ (fun b12 => ?_); refine st (.agg _) _ ?_; refine asI ?_; refine LS.done ?_
  obtain ⟨rp, hrp⟩ : ∃ rp, rp = (parseP (textP (recE i))).1 := ⟨_, rfl⟩
  rw [← hrp] at hr3 ⊢
  refine RS.to (K' := [rcW b12 rp f3, rowD 0 tyP4 (.slice a7 (plE i).length c7) (plE i), rcE b8 (.slice (some ⟨b21, 0, none⟩) 1 1) (.slice a7 (plE i).length c7)]) ?_ ⟨fun h => h⟩
  (repeat (first | refine zS ?_ | refine zR ?_ | refine zQ ?_ | refine zK ?_ | refine zI ?_ | refine zB ?_ | refine zE ?_)); refine asI ?_; refine LS.done ?_
  (repeat (first | refine zS ?_ | refine zR ?_ | refine zQ ?_ | refine zK ?_ | refine zI ?_ | refine zB ?_ | refine zE ?_)); refine mvI ?_; refine ltI ?_; refine mvB ?_
  have hrP3 := hrP.mono k3
  have hpl := plE_len i
  by_cases hg : 1 ≤ i ∧ i ≤ 8
  rotate_left
  · have hw3 : wantE i = 3 := by unfold wantE; rw [if_pos (by omega)]
    rw [hw3] at hck hpa ⊢
    refine LS.part 53 (fun z => ?_) (fun z => ?_)
    · refine LS.off ?_; refine LS.off ?_; refine pk (v := .bool _) ?_; refine LS.done ?_
      (repeat (first | refine zS ?_ | refine zR ?_ | refine zQ ?_ | refine zK ?_ | refine zI ?_ | refine zB ?_ | refine zE ?_))
      refine RS.condT ?_
      (repeat (first | refine zS ?_ | refine zR ?_ | refine zQ ?_ | refine zK ?_ | refine zI ?_ | refine zB ?_ | refine zE ?_)); refine asI ?_; refine LS.done ?_
      (repeat (first | refine zS ?_ | refine zR ?_ | refine zQ ?_ | refine zK ?_ | refine zI ?_ | refine zB ?_ | refine zE ?_)); refine ldA (recC (recE i) (.slice (some ⟨b21, 0, none⟩) 1 1) (.slice a7 (plE i).length c7) nilV nilV) ?_
      refine callP ?_ (hc := fun w' hw => check_c _ (recE i) w' (recL_rep (hrP3.mono hw.imm) (hw.rowRepD (l := plE i) (by omega))) (recL_small (by omega)))
      rw [hck]
      refine mvI ?_; refine neI ?_; refine mvB ?_; refine LS.on ?_; refine mvI ?_; refine LS.on ?_; refine mvI ?_; refine LS.on ?_; refine neI ?_; refine pk (v := .bool _) ?_; refine mvB ?_; refine LS.on ?_; refine mvI ?_; refine LS.on ?_; refine neI ?_; refine pk (v := .bool _) ?_; refine LS.done ?_
      (repeat (first | refine zS ?_ | refine zR ?_ | refine zQ ?_ | refine zK ?_ | refine zI ?_ | refine zB ?_ | refine zE ?_))
      refine RS.condT ?_
      (repeat (first | refine zS ?_ | refine zR ?_ | refine zQ ?_ | refine zK ?_ | refine zI ?_ | refine zB ?_ | refine zE ?_)); refine ldA (recC (recE i) (.slice (some ⟨b21, 0, none⟩) 1 1) (.slice a7 (plE i).length c7) nilV nilV) ?_
      refine callP ?_ (hc := fun w' hw => check_c _ (recE i) w' (recL_rep (hrP3.mono hw.imm) (hw.rowRepD (l := plE i) (by omega))) (recL_small (by omega)))
      rw [hck]
      refine mvI ?_; refine eqI ?_; refine mvB ?_; refine LS.on ?_; refine mvI ?_; refine LS.on ?_; refine mvI ?_; refine LS.on ?_; refine eqI ?_; refine pk (v := .bool _) ?_; refine asB ?_; refine LS.done ?_
      (repeat (first | refine zS ?_ | refine zR ?_ | refine zQ ?_ | refine zK ?_ | refine zI ?_ | refine zB ?_ | refine zE ?_)); refine RS.ret1 (v := .bool _) Tryz.func11 fun w hw => ?_
      exact ⟨rfl, hw.below⟩
    · have z := of_decide_eq_false z
      refine LS.on ?_; refine mvI ?_; refine LS.on ?_; refine gtI ?_; refine pk (v := .bool _) ?_; refine LS.done ?_
      (repeat (first | refine zS ?_ | refine zR ?_ | refine zQ ?_ | refine zK ?_ | refine zI ?_ | refine zB ?_ | refine zE ?_))
      refine RS.condT ?_ (h := by simp; omega)
      (repeat (first | refine zS ?_ | refine zR ?_ | refine zQ ?_ | refine zK ?_ | refine zI ?_ | refine zB ?_ | refine zE ?_)); refine asI ?_; refine LS.done ?_
      (repeat (first | refine zS ?_ | refine zR ?_ | refine zQ ?_ | refine zK ?_ | refine zI ?_ | refine zB ?_ | refine zE ?_)); refine ldA (recC (recE i) (.slice (some ⟨b21, 0, none⟩) 1 1) (.slice a7 (plE i).length c7) nilV nilV) ?_
      refine callP ?_ (hc := fun w' hw => check_c _ (recE i) w' (recL_rep (hrP3.mono hw.imm) (hw.rowRepD (l := plE i) (by omega))) (recL_small (by omega)))
      rw [hck]
      refine mvI ?_; refine neI ?_; refine mvB ?_; refine LS.on ?_; refine mvI ?_; refine LS.on ?_; refine mvI ?_; refine LS.on ?_; refine neI ?_; refine pk (v := .bool _) ?_; refine mvB ?_; refine LS.on ?_; refine mvI ?_; refine LS.on ?_; refine neI ?_; refine pk (v := .bool _) ?_; refine LS.done ?_
      (repeat (first | refine zS ?_ | refine zR ?_ | refine zQ ?_ | refine zK ?_ | refine zI ?_ | refine zB ?_ | refine zE ?_))
      refine RS.condT ?_
      (repeat (first | refine zS ?_ | refine zR ?_ | refine zQ ?_ | refine zK ?_ | refine zI ?_ | refine zB ?_ | refine zE ?_)); refine ldA (recC (recE i) (.slice (some ⟨b21, 0, none⟩) 1 1) (.slice a7 (plE i).length c7) nilV nilV) ?_
      refine callP ?_ (hc := fun w' hw => check_c _ (recE i) w' (recL_rep (hrP3.mono hw.imm) (hw.rowRepD (l := plE i) (by omega))) (recL_small (by omega)))
      rw [hck]
      refine mvI ?_; refine eqI ?_; refine mvB ?_; refine LS.on ?_; refine mvI ?_; refine LS.on ?_; refine mvI ?_; refine LS.on ?_; refine eqI ?_; refine pk (v := .bool _) ?_; refine asB ?_; refine LS.done ?_
      (repeat (first | refine zS ?_ | refine zR ?_ | refine zQ ?_ | refine zK ?_ | refine zI ?_ | refine zB ?_ | refine zE ?_)); refine RS.ret1 (v := .bool _) Tryz.func11 fun w hw => ?_
      exact ⟨rfl, hw.below⟩
  have hw0 : wantE i = 0 := by unfold wantE; rw [if_neg (by omega)]
  rw [hw0] at hck hpa ⊢
  have hpr : rp = recE i := by rw [hrp, parse_text hck]
  refine LS.part 53 (fun z => ?_) (fun z => ?_)
  · exact absurd (of_decide_eq_true z) (by omega)
  refine LS.on ?_; refine mvI ?_; refine LS.on ?_; refine gtI ?_; refine pk (v := .bool _) ?_; refine LS.done ?_
  (repeat (first | refine zS ?_ | refine zR ?_ | refine zQ ?_ | refine zK ?_ | refine zI ?_ | refine zB ?_ | refine zE ?_))
  refine RS.condF ?_ (h := by simp; omega)
  (repeat (first | refine zS ?_ | refine zR ?_ | refine zQ ?_ | refine zK ?_ | refine zI ?_ | refine zB ?_ | refine zE ?_))
  (repeat (first | refine zS ?_ | refine zR ?_ | refine zQ ?_ | refine zK ?_ | refine zI ?_ | refine zB ?_ | refine zE ?_)); refine ldA (recC (recE i) (.slice (some ⟨b21, 0, none⟩) 1 1) (.slice a7 (plE i).length c7) nilV nilV) ?_
  refine callP ?_ (hc := fun w' hw => check_c _ (recE i) w' (recL_rep (hrP3.mono hw.imm) (hw.rowRepD (l := plE i) (by omega))) (recL_small (by omega)))
  rw [hck]
  refine mvI ?_; refine neI ?_; refine mvB ?_; refine LS.on ?_; refine mvI ?_; refine LS.on ?_; refine mvI ?_; refine LS.on ?_; refine neI ?_; refine pk (v := .bool _) ?_; refine mvB ?_; refine LS.on ?_; refine mvI ?_; refine LS.on ?_; refine neI ?_; refine pk (v := .bool _) ?_; refine LS.done ?_
  (repeat (first | refine zS ?_ | refine zR ?_ | refine zQ ?_ | refine zK ?_ | refine zI ?_ | refine zB ?_ | refine zE ?_))
  refine RS.condF ?_
  (repeat (first | refine zS ?_ | refine zR ?_ | refine zQ ?_ | refine zK ?_ | refine zI ?_ | refine zB ?_ | refine zE ?_)); refine mvI ?_; refine mvI ?_
  refine callP ?_ (hc := fun w _ => w4_c _ _ (by omega) (by omega) w)
  refine mvI ?_; refine mvI ?_
  refine callP ?_ (hc := fun w _ => w4_c _ _ (by omega) (by omega) w)
  refine asI ?_; refine asI ?_; refine LS.done ?_
  obtain ⟨q1, q2⟩ := wmod ia (i : Int) (by omega)
  obtain ⟨q3, q4⟩ := wmod ib (i : Int) (by omega)
  obtain ⟨a, ha⟩ : ∃ a : Nat, ia % (i : Int) = a := ⟨(ia % (i : Int)).toNat, by omega⟩
  obtain ⟨b, hb⟩ : ∃ b : Nat, ib % (i : Int) = b := ⟨(ib % (i : Int)).toNat, by omega⟩
  rw [ha, hb]
  have hai : a < (plE i).length := by omega
  have hbi : b < (plE i).length := by omega
  refine RS.openRowD (l := plE i) (.slice a7 (plE i).length c7) (fun bR c0 cap eR hcR hcM hlR htR => ?_) (hn := by omega)
  injection eR with eR1 _ eR2
  subst eR1; subst eR2
  have hlR : c7 * 5 ≤ c0.length := hlR
  have hle5 : (plE i).length * 5 ≤ c0.length := by omega
  have hnb : nth c0 (0 + b * 5 + 0) = some (.string (plE1 b).pod) := by
    obtain ⟨c, hc1, hc2⟩ := htR.at_ b hbi
    have h0 := hc2 0 (by decide)
    rw [hc1.1, plE_at hbi] at h0
    have hlt5 : b * 5 + 0 < (plE i).length * 5 := by omega
    rw [List.getElem?_take_of_lt (by exact hlt5)] at h0
    rw [nth_eq, show 0 + b * 5 + 0 = b * 5 + 0 by omega]
    exact h0
  obtain ⟨sv, hsv⟩ : ∃ sv, sv = Value.string (plE1 b).pod := ⟨_, rfl⟩
  (repeat (first | refine RS.seq ?_ | refine RS.region ?_ | refine RS.skip ?_ | refine RS.inBlock ?_ | refine RS.block ?_ | refine RS.exit ?_)); refine RS.draw [.free, .ex, .free, .free, .ex, .free, .free, .free, .ex, .free, .free, .st] [blk bR (.cells (List.toArray c0) tyP4 (0, 0)), rcW b12 rp f3, rcE b8 (.slice (some ⟨b21, 0, none⟩) 1 1) (.slice (some ⟨bR, 0, none⟩) (plE i).length c7)] ?_ (by kernel_rfl) (by kernel_rfl) (by infer_instance); refine D.fld ?_; refine D.ld1 (v := .slice (some ⟨bR, 0, none⟩) (plE i).length c7) ?_; refine D.mvI ?_; refine D.fld ?_; refine D.ld1 (v := .slice (some ⟨bR, 0, none⟩) (plE i).length c7) ?_; refine D.mvI ?_; refine D.idx (i := b) ?_; refine D.fld ?_; refine D.ld1 (v := .string (plE1 b).pod) ?_ (hv := hnb); refine D.idx (i := a) ?_; refine D.fld ?_
  refine D.stB (.string (plE1 b).pod) (setAt c0 (0 + a * 5 + 0) [.string (plE1 b).pod]) ?_ (hr := by omega)
  refine D.done (fun us σ4 hle4 hfs => ?_)
  have k4 := hle4
  refine RS.ow ?_
  refine RS.closeRowD 0 (plE2 i a b) (b := bR) (c0 := setAt c0 (0 + a * 5 + 0) [.string (plE1 b).pod]) (m := (plE i).length) (s := 5) hcR hcM (by rw [setAt_len]; exact hlR) (rowWriteE (htR.mono (fromN_up k4)) hle5 a hai 0 _ (by simp) { plE1 a with pod := (plE1 b).pod } (fun c hc => ?_)) ?_ (hml := by simp [plE2])
  · have h1 := plE1_rep (fromN 0 σ4) a
    have h2 := plE1_rep (fromN 0 σ4) b
    obtain ⟨rfl, _⟩ := hc
    rw [plE_at hai]
    exact ⟨rfl, h2.2.1, h1.2.2.1, h1.2.2.2.1, h1.2.2.2.2⟩
  have hrpl : rp.places.length = i := by rw [hpr]; exact plE_len i
  have hl2 : (plE2 i a b).length = (plE i).length := by simp [plE2]
  have hcv := checkE2 ⟨i, by omega⟩ ⟨a, by omega⟩ ⟨b, by omega⟩ (by simp only; omega) (by simp only; omega)
  simp only at hcv
  have hrp3 := rep_places hr3
  rw [← hl2]
  (repeat (first | refine zS ?_ | refine zR ?_ | refine zQ ?_ | refine zK ?_ | refine zI ?_ | refine zB ?_ | refine zE ?_)); refine fld ?_; refine ld1 (v := .slice _ _ _) ?_; refine fld ?_; refine ld1 (v := .slice _ _ _) ?_
  refine callP ?_ (hc := fun w' hw => places_b _ _ rp.places rp.places w' (hrp3.mono (PH.le_trans k4 hw.imm)) (hrp3.mono (PH.le_trans k4 hw.imm)))
  rw [decide_eq_true (show rp.places = rp.places from rfl)]
  refine mvB ?_; refine LS.on ?_; refine fld ?_; refine LS.on ?_; refine ld1 (v := .slice _ _ _) ?_; refine LS.on ?_; refine lenL ?_; refine LS.on ?_; refine mvI ?_; refine LS.on ?_; refine eqI ?_; rw [decide_eq_true (show (rp.places.length : Int) = (i : Int) by omega)]; refine pk (v := .bool _) ?_; refine mvB ?_; refine LS.on ?_; refine ldA (recC (recL (plE2 i a b)) (.slice (some ⟨b21, 0, none⟩) 1 1) (.slice (some ⟨bR, 0, none⟩) (plE2 i a b).length c7) nilV nilV) ?_; refine LS.on ?_
  refine callP ?_ (hc := fun w' hw => check_c _ (recL (plE2 i a b)) w' (recL_rep (hrP3.mono (PH.le_trans k4 hw.imm)) (hw.rowRepD (l := plE2 i a b) (by omega))) (recL_small (by omega)))
  refine LS.on ?_; refine eqI ?_; refine LS.on ?_; refine mvI ?_; refine LS.on ?_; refine mvI ?_; refine LS.on ?_; refine neI ?_; refine LS.on ?_; refine bin_eql_B ?_; refine pk (v := .bool _) ?_; refine asB ?_; refine LS.done ?_
  (repeat (first | refine zS ?_ | refine zR ?_ | refine zQ ?_ | refine zK ?_ | refine zI ?_ | refine zB ?_ | refine zE ?_)); refine RS.ret1 (v := .bool _) Tryz.func11 fun w hw => ?_
  refine ⟨retB ?_, hw.below⟩
  have hcv : checkP (recL (plE2 i a b)) = 4 ↔ ¬ a = b := hcv
  by_cases hab : a = b
  · have h1 : ¬ checkP (recL (plE2 i a b)) = 4 := fun h => hcv.1 h hab
    rw [decide_eq_false h1, decide_eq_true (show (a : Int) = b by omega)]; rfl
  · have h1 : checkP (recL (plE2 i a b)) = 4 := hcv.2 hab
    rw [decide_eq_true h1, decide_eq_false (show ¬ (a : Int) = b by omega)]; rfl
end Go.Proofs.YtaiofgmhlfccgaaGreatDoor
