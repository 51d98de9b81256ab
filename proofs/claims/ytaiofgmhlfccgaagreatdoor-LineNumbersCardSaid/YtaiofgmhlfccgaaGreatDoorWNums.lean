/- The walk of LineNumbers. -/
import Derived.Test.YtaiofgmhlfccgaaGreatDoorQ5
namespace Go.Proofs.YtaiofgmhlfccgaaGreatDoor
open Go.JW Go.RowKit
def digs21 : Bs := [49, 50, 51, 52, 53, 54, 55, 56, 57, 48, 49, 50, 51, 52, 53, 54, 55, 56, 57, 48, 49]
def nod7 : Bs := [110, 111, 100, 101, 32, 110, 58]
def nod8 : Bs := [110, 111, 100, 101, 32, 110, 58, 48]
def wantN (k : Nat) : Int := if k ≤ 12 then 0 else if k ≤ 15 then 2 else 8
theorem nums_one : ∀ i : Fin 20, (parseP (nod7 ++ digs21.take (i.val + 1) ++ [44, 48])).2 = wantN (i.val + 1) := by decide +kernel
theorem nums_two : ∀ i : Fin 20, (parseP (nod8 ++ digs21.take (i.val + 1) ++ [44, 48])).2 = 8 := by decide +kernel
def recN (c m : Int) : RecD := { rec0 with kind := 1, node := ⟨B [110], c, m, [], [], false⟩ }
theorem recN_ok {c m : Int} (hc : 0 ≤ c ∧ c ≤ 1099511627776) (hm : 0 ≤ m ∧ m ≤ 1099511627776) : checkP (recN c m) = 0 := by
  have h1 : isName (B [110]) = true := by decide +kernel
  have h2 : isSet [] = true := by decide
  have h3 : sizeOk c m = true := by simp only [sizeOk, size1, Bool.and_eq_true, decide_eq_true_eq]; omega
  simp [checkP, moreP, gangsP, peeredP, recN, rec0, nodeErr, h1, h2, h3]
theorem recN_text (c m : Int) : textP (recN c m) = nod7 ++ digN c.toNat ++ [44] ++ digN m.toNat := by
  rw [textP1 (r := recN c m) rfl]
  simp [recN, nodeT, vecT, signedT, flagT, nod7, bs_B]
theorem numbers_c (m : Int) (_ : I64 m) (digits : Int) (_ : I64 digits) (w : World) (lib : LibAt (hp w)) :
    Calls Tryz.prog 7 #[.int .i64 m, .int .i64 digits] w fun e w' => e = .returned (.bool true) ∧ Below w.heap.size w w' := by
  obtain ⟨d1, d2⟩ := wmod digits 20 (by omega)
  obtain ⟨i, hi⟩ : ∃ i : Nat, digits % 20 = i := ⟨(digits % 20).toNat, by omega⟩
  have hi20 : i < 20 := by omega
  obtain ⟨v1, v2⟩ := wmod m 1099511627777 (by omega)
  obtain ⟨v, hv⟩ : ∃ v, v = m % 1099511627777 := ⟨_, rfl⟩
  have hv1 : 0 ≤ v ∧ v ≤ 1099511627776 := by omega
  have hq : v.tdiv 7 = v / 7 := by rw [Int.tdiv_eq_ediv_of_nonneg hv1.1]
  have hq1 : 0 ≤ v / 7 ∧ v / 7 ≤ 1099511627776 := by omega
  obtain ⟨s, hs⟩ : ∃ s, s = digs21.take (i + 1) := ⟨_, rfl⟩
  have hsl : s.length ≤ 21 := by rw [hs, List.length_take]; simp [digs21]; omega
  have h1 := nums_one ⟨i, hi20⟩
  have h2 := nums_two ⟨i, hi20⟩
  simp only at h1 h2
  rw [← hs] at h1 h2
  obtain ⟨L1, hL1⟩ : ∃ L, L = nod7 ++ s ++ [44, 48] := ⟨_, rfl⟩
  obtain ⟨L2, hL2⟩ : ∃ L, L = nod8 ++ s ++ [44, 48] := ⟨_, rfl⟩
  rw [← hL1] at h1
  rw [← hL2] at h2
  have l1 : L1.length ≤ 90000 := by rw [hL1]; simp [nod7]; omega
  have l2 : L2.length ≤ 90000 := by rw [hL2]; simp [nod8]; omega
  have hok := recN_ok hv1 hq1
  have htx := recN_text v (v / 7)
  have hL3 := text_small hok
  have bs_ : (B s).size = s.length := B_size s
  have e7 : (⟨#[110, 111, 100, 101, 32, 110, 58]⟩ : ByteArray) = B nod7 := rfl
  have e8 : (⟨#[110, 111, 100, 101, 32, 110, 58, 48]⟩ : ByteArray) = B nod8 := rfl
  have e2 : (⟨#[44, 48]⟩ : ByteArray) = B [44, 48] := rfl
  have e1 : (⟨#[44]⟩ : ByteArray) = B [44] := rfl
  have b7 : (B nod7).size = 7 := rfl
  have b8 : (B nod8).size = 8 := rfl
  have b2 : (B [44, 48]).size = 2 := rfl
  have b1 : (B [44]).size = 1 := rfl
  have b7s : (B (nod7 ++ s)).size = 7 + s.length := by rw [B_size, List.length_append]; rfl
  have b8s : (B (nod8 ++ s)).size = 8 + s.length := by rw [B_size, List.length_append]; rfl
  refine RS.enter Tryz.func7 Tryz.ntmps7 rfl rfl ?_
  (repeat (first | refine zS ?_ | refine zR ?_ | refine zQ ?_ | refine zK ?_ | refine zI ?_ | refine zB ?_ | refine zE ?_)); refine asB ?_; refine LS.done ?_
  (repeat (first | refine zS ?_ | refine zR ?_ | refine zQ ?_ | refine zK ?_ | refine zI ?_ | refine zB ?_ | refine zE ?_)); skip
  refine callQ (fun v _ => v = .bool true) [] (fun v σ1 k1 hq => ?_) (hc := fun w' hw => known_s lib w' hw)
  subst hq
  refine not_ ?_; refine LS.done ?_
  (repeat (first | refine zS ?_ | refine zR ?_ | refine zQ ?_ | refine zK ?_ | refine zI ?_ | refine zB ?_ | refine zE ?_))
  refine RS.condF ?_
  (repeat (first | refine zS ?_ | refine zR ?_ | refine zQ ?_ | refine zK ?_ | refine zI ?_ | refine zB ?_ | refine zE ?_)); refine mvI ?_
  refine callP ?_ (hc := fun w _ => w4_c _ _ (by omega) (by omega) w)
  rw [hi]
  (first | refine addN ?_ | refine addI ?_); refine asI ?_; refine LS.done ?_
  (repeat (first | refine zS ?_ | refine zR ?_ | refine zQ ?_ | refine zK ?_ | refine zI ?_ | refine zB ?_ | refine zE ?_)); refine mvI ?_; refine slcUpto (u := digs21) (i + 1) ?_ (hl := by simp [digs21]; omega); rw [← hs]; refine asS ?_; refine LS.done ?_
  (repeat (first | refine zS ?_ | refine zR ?_ | refine zQ ?_ | refine zK ?_ | refine zI ?_ | refine zB ?_ | refine zE ?_)); refine mvS ?_; refine addS ?_ (hs := by rw [e7]; omega); rw [e7, B_add]; refine addS ?_ (hs := by rw [e2]; omega); rw [e2, B_add, ← hL1]
  refine callQ (ParseA L1) [] (fun v σ2 k2 hq => ?_) (hc := fun w' hw => parse_s L1 l1 (lib.mono k1) w' hw)
  obtain ⟨cs, rfl, hr2⟩ := hq
  obtain ⟨f2, rfl⟩ := rep_form hr2
  rw [h1]
  refine mvT ?_; refine extr (v := _) ?_; refine extr (v := .int _ _) ?_; refine alloc_ (fun b7 => ?_); refine st (.agg _) _ ?_; refine asI ?_; refine LS.done ?_
  refine RS.to (K' := [rcW b7 (parseP L1).1 f2]) ?_ ⟨fun h => h⟩
  (repeat (first | refine zS ?_ | refine zR ?_ | refine zQ ?_ | refine zK ?_ | refine zI ?_ | refine zB ?_ | refine zE ?_)); refine mvS ?_; refine addS ?_ (hs := by rw [e8]; omega); rw [e8, B_add]; refine addS ?_; rw [B_add, ← hL2]
  refine callQ (ParseA L2) [rcW b7 (parseP L1).1 f2] (fun v σ3 k3 hq => ?_) (hc := fun w' hw => parse_s L2 l2 (lib.mono (PH.le_trans k1 k2)) w' hw)
  obtain ⟨cs, rfl, hr3⟩ := hq
  obtain ⟨f3, rfl⟩ := rep_form hr3
  rw [h2]
  refine mvT ?_; refine extr (v := _) ?_; refine extr (v := .int _ _) ?_; refine alloc_ (fun b9 => ?_); refine st (.agg _) _ ?_; refine asI ?_; refine LS.done ?_
  refine RS.to (K' := [rcW b9 (parseP L2).1 f3, rcW b7 (parseP L1).1 f2]) ?_ ⟨fun h => h⟩
  (repeat (first | refine zS ?_ | refine zR ?_ | refine zQ ?_ | refine zK ?_ | refine zI ?_ | refine zB ?_ | refine zE ?_)); refine mvI ?_
  refine callP ?_ (hc := fun w _ => w4_c _ _ (by omega) (by omega) w)
  rw [← hv]
  refine asI ?_; refine LS.done ?_
  (repeat (first | refine zS ?_ | refine zR ?_ | refine zQ ?_ | refine zK ?_ | refine zI ?_ | refine zB ?_ | refine zE ?_)); refine mvI ?_
  refine callP ?_ (hc := fun w' _ => digits_x v ⟨by omega, by omega⟩ w')
  have dl1 := digN_len v.toNat
  have dl2 := digN_len (v / 7).toNat
  have bd1 : (B (digN v.toNat)).size = (digN v.toNat).length := B_size _
  have bd2 : (B (digN (v / 7).toNat)).size = (digN (v / 7).toNat).length := B_size _
  have bq1 : (B (nod7 ++ digN v.toNat)).size = 7 + (digN v.toNat).length := by rw [B_size, List.length_append]; rfl
  have bq2 : (B (nod7 ++ digN v.toNat ++ [44])).size = 8 + (digN v.toNat).length := by rw [B_size, List.length_append, List.length_append]; simp [nod7]; omega
  refine addS ?_; rw [B_add]; refine addS ?_ (hs := by rw [e1]; omega); rw [e1, B_add]; refine mvI ?_; refine quoN ?_
  rw [hq]
  refine callP ?_ (hc := fun w' _ => digits_x (v / 7) ⟨by omega, by omega⟩ w')
  refine addS ?_; rw [B_add, ← htx]
  refine callQ (ParseA (textP (recN v (v / 7)))) [rcW b9 (parseP L2).1 f3, rcW b7 (parseP L1).1 f2] (fun v' σ4 k4 hq => ?_) (hc := fun w' hw => parse_s _ hL3 (lib.mono (PH.le_trans k1 (PH.le_trans k2 k3))) w' hw)
  obtain ⟨cs, rfl, hr4⟩ := hq
  rw [parse_text hok] at hr4 ⊢
  obtain ⟨f4, rfl⟩ := rep_form hr4
  refine mvT ?_; refine extr (v := _) ?_; refine extr (v := .int _ _) ?_; refine alloc_ (fun b12 => ?_); refine st (.agg _) _ ?_; refine asI ?_; refine LS.done ?_
  refine RS.to (K' := [rcW b12 (recN v (v / 7)) f4, rcW b9 (parseP L2).1 f3, rcW b7 (parseP L1).1 f2]) ?_ ⟨fun h => h⟩
  (repeat (first | refine zS ?_ | refine zR ?_ | refine zQ ?_ | refine zK ?_ | refine zI ?_ | refine zB ?_ | refine zE ?_)); refine asI ?_; refine LS.done ?_
  (repeat (first | refine zS ?_ | refine zR ?_ | refine zQ ?_ | refine zK ?_ | refine zI ?_ | refine zB ?_ | refine zE ?_)); refine mvI ?_; refine leI ?_; refine LS.done ?_
  repeat refine RS.seq ?_
  refine RS.cut (X := Unit) 14 54 (fun _ => True) (fun _ => [(14, .int .i64 (wantN (i + 1)))]) (fun _ => σ4) (fun _ => [rcW b12 (recN v (v / 7)) f4, rcW b9 (parseP L2).1 f3, rcW b7 (parseP L1).1 f2]) ?_ (fun J => ?_)
  rotate_left
  · refine RS.cond (fun c => ?_) (fun c => ?_)
    · have c := of_decide_eq_true c
      (repeat (first | refine zS ?_ | refine zR ?_ | refine zQ ?_ | refine zK ?_ | refine zI ?_ | refine zB ?_ | refine zE ?_)); refine asI ?_; refine LS.done ?_
      exact J () trivial ⟨by rw [show wantN (i + 1) = 0 from if_pos (by omega)]; rfl, trivial⟩ (by repeat (first | with_reducible exact Out.refl _ _ _ | exact Out.hv | refine Out.upd ?_ | refine Out.hvIn ?_)) ⟨fun h => h⟩ rfl
    · have c := of_decide_eq_false c
      (repeat (first | refine zS ?_ | refine zR ?_ | refine zQ ?_ | refine zK ?_ | refine zI ?_ | refine zB ?_ | refine zE ?_)); refine mvI ?_; refine leI ?_; refine LS.done ?_
      (repeat (first | refine zS ?_ | refine zR ?_ | refine zQ ?_ | refine zK ?_ | refine zI ?_ | refine zB ?_ | refine zE ?_))
      refine RS.cond (fun c2 => ?_) (fun c2 => ?_)
      · have c2 := of_decide_eq_true c2
        (repeat (first | refine zS ?_ | refine zR ?_ | refine zQ ?_ | refine zK ?_ | refine zI ?_ | refine zB ?_ | refine zE ?_)); refine asI ?_; refine LS.done ?_
        refine J () trivial ⟨by rw [show wantN (i + 1) = 2 by unfold wantN; rw [if_neg (by omega), if_pos (by omega)]]; rfl, trivial⟩ (by repeat (first | with_reducible exact Out.refl _ _ _ | exact Out.hv | refine Out.upd ?_ | refine Out.hvIn ?_)) ⟨fun h => h⟩ rfl
      · have c2 := of_decide_eq_false c2
        refine RS.skip ?_
        refine J () trivial ⟨by rw [show wantN (i + 1) = 8 by unfold wantN; rw [if_neg (by omega), if_neg (by omega)]]; rfl, trivial⟩ (by repeat (first | with_reducible exact Out.refl _ _ _ | exact Out.hv | refine Out.upd ?_ | refine Out.hvIn ?_)) ⟨fun h => h⟩ rfl
  rintro _ g _
  (repeat (first | refine zS ?_ | refine zR ?_ | refine zQ ?_ | refine zK ?_ | refine zI ?_ | refine zB ?_ | refine zE ?_)); refine mvI ?_; refine mvI ?_; refine eqI ?_; rw [decide_eq_true (show wantN (i + 1) = wantN (i + 1) from rfl)]; refine mvB ?_; refine LS.on ?_; refine mvI ?_; refine LS.on ?_; refine eqI ?_; refine pk (v := .bool _) ?_; refine mvB ?_; refine LS.on ?_; refine mvI ?_; refine LS.on ?_; refine eqI ?_; refine pk (v := .bool _) ?_; refine mvB ?_; refine LS.on ?_; refine fld ?_; refine LS.on ?_; refine fld ?_; refine LS.on ?_; refine ldA [.int .i64 v, .int .i64 (v / 7)] ?_; refine LS.on ?_; refine mvI ?_; refine LS.on ?_; refine mvI ?_; refine LS.on ?_; refine quoN ?_; rw [hq]; refine LS.on ?_; refine bld (vals := [(0, .int _ _), (1, .int _ _)]) [_, _] ?_; refine LS.on ?_; refine eqA (b := true) (us1 := [.int .i64 v, .int .i64 (v / 7)]) (us2 := [.int .i64 v, .int .i64 (v / 7)]) (fun w => by rw [eq_vec]; simp) (by kernel_rfl) ?_; refine pk (v := .bool _) ?_; refine asB ?_; refine LS.done ?_
  (repeat (first | refine zS ?_ | refine zR ?_ | refine zQ ?_ | refine zK ?_ | refine zI ?_ | refine zB ?_ | refine zE ?_)); refine RS.ret1 (v := .bool _) Tryz.func7 fun w hw => ?_
  exact ⟨rfl, hw.below⟩
end Go.Proofs.YtaiofgmhlfccgaaGreatDoor
