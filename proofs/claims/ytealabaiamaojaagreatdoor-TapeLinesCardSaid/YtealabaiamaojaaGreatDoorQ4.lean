/- The base of the walks: rules, contracts, plain laws, part 4. -/
import Derived.Test.YtealabaiamaojaaGreatDoorQ3
namespace Go.Proofs.YtealabaiamaojaaGreatDoor
open Go.JW Go.RowKit
theorem signX_len (c : UInt8) (sx : St) : (signX c sx).2.s.length ≤ sx.s.length ∧ ((signX c sx).1 = true → (signX c sx).2.s.length + 1 = sx.s.length) := by
  unfold signX
  split
  · exact ⟨Nat.le_refl _, fun h => by cases h⟩
  · exact signR_len c sx
theorem rowF_fuel (c : UInt8) : ∀ (f g : Nat) (sx : St), sx.s.length < f → sx.s.length < g → rowF c f sx = rowF c g sx := by
  intro f
  induction f with
  | zero => intro g sx h; omega
  | succ f ih =>
    intro g sx hf hg
    obtain ⟨g, rfl⟩ : ∃ k, g = k + 1 := ⟨g - 1, by omega⟩
    obtain ⟨h1, h2⟩ := signX_len c sx
    simp only [rowF]
    generalize hq : signX c sx = q at *
    obtain ⟨is, s1⟩ := q
    cases is with
    | false => rfl
    | true =>
      simp only
      have h3 : s1.s.length + 1 = sx.s.length := h2 rfl
      have h4 := nameR_len s1
      rw [ih g _ (by omega) (by omega)]
theorem rowX_on {c : UInt8} {sx : St} (h : (signX c sx).1 = true) : rowX c sx = ((nameR (signX c sx).2).1 :: (rowX c (nameR (signX c sx).2).2).1, (rowX c (nameR (signX c sx).2).2).2) := by
  have h3 := (signX_len c sx).2 h
  have h4 := nameR_len (signX c sx).2
  unfold rowX
  rw [rowF_fuel c ((nameR (signX c sx).2).2.s.length + 1) sx.s.length _ (by omega) (by omega)]
  simp only [rowF]
  generalize hq : signX c sx = q at *
  obtain ⟨is, s1⟩ := q
  simp only at h
  subst h
  rfl
theorem rowX_off {c : UInt8} {sx : St} (h : (signX c sx).1 = false) : rowX c sx = ([], (signX c sx).2) := by
  unfold rowX
  simp only [rowF]
  generalize hq : signX c sx = q at *
  obtain ⟨is, s1⟩ := q
  simp only at h
  subst h
  rfl
section
variable {w0 : World} {M : Nat → Prop} {σ : PH} {K : List HP} {b : Nat}
theorem vec_x (S : Bs) (hS : S.length ≤ 100000) (sx : St) (hst : sx.s <:+ S) (w : World) (hw : Sat w0 M σ (xdB b S sx :: K) w) :
    Calls Tryz.prog 88 #[.pointer (some ⟨b, 0, none⟩), .int .i64 999999999999999] w fun e w' => ∃ v σ', PH.le σ σ' ∧ v = .agg (List.toArray [.int .i64 (vecX 999999999999999 sx).1.1, .int .i64 (vecX 999999999999999 sx).1.2]) ∧ e = .returned v ∧ Sat w0 M σ' (xdB b S (vecX 999999999999999 sx).2 :: K) w' := by
  refine RS.enterK Tryz.func88 Tryz.ntmps88 rfl rfl hw ?_
  obtain ⟨x1, h1⟩ : ∃ x, x = numX 999999999999999 sx := ⟨_, rfl⟩
  obtain ⟨y1, k1⟩ : ∃ x, x = (mustX 44 x1.2).2 := ⟨_, rfl⟩
  obtain ⟨x2, h2⟩ : ∃ x, x = numX 999999999999999 y1 := ⟨_, rfl⟩
  have hv : vecX 999999999999999 sx = ((x1.1, x2.1), x2.2) := by subst h2 k1 h1; rfl
  have s1 : x1.2.s <:+ S := by rw [h1]; exact numX_suf hst
  have s2 : y1.s <:+ S := by
    rw [k1]; unfold mustX; simp only
    split
    · exact signX_suf 44 s1
    · exact signX_suf 44 s1
  rw [hv]
  refine zN ?_; refine alloc_ (fun b4 => ?_); refine LS.done ?_
  refine zN ?_; refine mvP ?_; refine mvI ?_
  refine callQ (fun v _ => v = .int .i64 (numX 999999999999999 sx).1) (veB b4 0 0 :: xdB b S (numX 999999999999999 sx).2 :: K) (fun v σ1 hle1 hq1 => ?_) (hc := fun w' hw => (number_x (K := _ :: K) S hS sx hst w' (hw.front [_] [xdB b S sx])).mono fun _ _ ⟨v, σ', h1, h2, h3, h4⟩ => ⟨v, σ', h1, h2, h3, h4.front [_] [_]⟩)
  subst hq1
  rw [← h1]
  refine bld (vals := [(0, .int _ _)]) [_, _] ?_; refine alloc_ (fun b5 => ?_); refine st (.agg _) _ ?_; refine LS.done ?_
  refine zN ?_; refine mvP ?_
  refine callQ (fun v _ => v = .tuple #[]) (veB b5 x1.1 0 :: veB b4 0 0 :: xdB b S (mustX 44 x1.2).2 :: K) (fun v σ2 hle2 hq2 => ?_) (hc := fun w' hw => (must_x (K := _ :: _ :: K) 44 S hS x1.2 s1 w' (hw.front [_, _] [xdB b S x1.2])).mono fun _ _ ⟨v, σ', h1, h2, h3, h4⟩ => ⟨v, σ', h1, h2, h3, h4.front [_] [_, _]⟩)
  subst hq2
  rw [← k1]
  refine LS.done ?_
  refine zN ?_; refine mvP ?_; refine mvI ?_
  refine callQ (fun v _ => v = .int .i64 (numX 999999999999999 y1).1) (veB b5 x1.1 0 :: veB b4 0 0 :: xdB b S (numX 999999999999999 y1).2 :: K) (fun v σ3 hle3 hq3 => ?_) (hc := fun w' hw => (number_x (K := _ :: _ :: K) S hS y1 s2 w' (hw.front [_, _] [xdB b S y1])).mono fun _ _ ⟨v, σ', h1, h2, h3, h4⟩ => ⟨v, σ', h1, h2, h3, h4.front [_] [_, _]⟩)
  subst hq3
  rw [← h2]
  refine fld ?_; refine st (.int _ _) _ ?_; refine LS.done ?_
  refine zN ?_; refine ldA [_, _] ?_; refine st (.agg _) _ ?_; refine LS.done ?_
  refine zN ?_
  refine RS.retC (ty := 28) Tryz.func88 [.int .i64 x1.1, .int .i64 x2.1] (hb := FindB.tail (i := FindB.head)) fun w hw => ?_
  exact ⟨_, _, PH.le_trans hle1 (PH.le_trans hle2 hle3), rfl, rfl, hw.weak fun F h => h.tail.tail⟩
theorem row_x (c : UInt8) (S : Bs) (hS : S.length ≤ 100000) (sx : St) (hst : sx.s <:+ S) (w : World) (hw : Sat w0 M σ (xdB b S sx :: K) w) :
    Calls Tryz.prog 89 #[.pointer (some ⟨b, 0, none⟩), .int .u8 c.toNat] w fun e w' => ∃ v σ', PH.le σ σ' ∧ RepL σ' v ((rowX c sx).1.map B) ∧ e = .returned v ∧ Sat w0 M σ' (xdB b S (rowX c sx).2 :: K) w' := by
  have hl := suf_len hst
  refine RS.enterK Tryz.func89 Tryz.ntmps89 rfl rfl hw ?_
  refine zN ?_; refine asL ?_; refine LS.done ?_
  refine zN ?_; refine asL ?_; refine LS.done ?_
  refine zN ?_
  refine RS.nilD 0 ByteArray 9 ?_
  refine RS.loopF (X := Value × List Bs × St × PH) 5 14 (fun x => rowX c sx = (x.2.1 ++ (rowX c x.2.2.1).1, (rowX c x.2.2.1).2) ∧ x.2.1.length + x.2.2.1.s.length ≤ S.length ∧ x.2.2.1.s <:+ S ∧ PH.le σ x.2.2.2) (fun x => [(5, x.1)]) (fun x => x.2.2.2) (fun x => rowD 0 9 x.1 (x.2.1.map B) :: xdB b S x.2.2.1 :: K) (fun x => x.2.2.1.s.length) (.slice none 0 0, [], sx, σ) ⟨rfl, by simpa using hl, hst, PH.le_refl _⟩ ⟨rfl, trivial⟩ rfl ⟨fun h => h⟩ ?_
  rintro ⟨v5, l, q, σ1⟩ g ⟨h1, h2, h3, h4⟩ ih
  dsimp only at h1 h2 h3 h4
  obtain ⟨hl1, hl2⟩ := signX_len c q
  have hs1 := signX_suf c h3
  refine zN ?_; refine mvP ?_; refine mvI ?_
  refine callQ (fun v _ => v = .bool (signX c q).1) (rowD 0 9 v5 (l.map B) :: xdB b S (signX c q).2 :: K) (fun v8 σ2 hle2 hq2 => ?_) (hc := fun w' hw => (sign_x (K := _ :: K) c S hS q h3 w' (hw.front [_] [xdB b S q])).mono fun _ _ ⟨v, σ', h1, h2, h3, h4⟩ => ⟨v, σ', h1, h2, h3, h4.front [_] [_]⟩)
  subst hq2
  cases hc : (signX c q).1 with
  | true =>
    refine LS.done ?_
    refine zN ?_
    refine RS.condT ?_
    have hl3 := hl2 hc
    obtain ⟨q1, hq1⟩ : ∃ x, x = (signX c q).2 := ⟨_, rfl⟩
    have hn := nameR_len q1
    have hn1 := nameR_len1 q1
    rw [rowX_on hc] at h1
    rw [← hq1] at h1 hl3 hs1 ⊢
    have hcell := strCells (x := B (nameR q1).1) (by rw [B_size]; omega)
    refine zN ?_; refine mv (v := v5) ?_; refine mvP ?_
    refine callQ (fun v _ => v = .string (B (nameR q1).1)) (rowD 0 9 v5 (l.map B) :: xdB b S (nameR q1).2 :: K) (fun v11 σ3 hle3 hq3 => ?_) (hc := fun w' hw => (name_x (K := _ :: K) S hS q1 hs1 w' (hw.front [_] [xdB b S q1])).mono fun _ _ ⟨v, σ', h1, h2, h3, h4⟩ => ⟨v, σ', h1, h2, h3, h4.front [_] [_]⟩)
    subst hq3
    refine bldS [.string (B (nameR q1).1)] [.string (B (nameR q1).1)] (fun b12 => ?_); refine appD (v := v5) (l' := [B (nameR q1).1]) (vy := .slice (some ⟨b12, 0, none⟩) 1 1) (fun w' hw => ⟨_, srcB hw TSlice.eq, hcell _⟩) (fun v13 => ?_) (hb := by simp; omega) (hm := by simp; omega); refine as_ (v := v13) ?_; refine LS.done ?_
    refine zN ?_
    refine ih (v13, l ++ [(nameR q1).1], (nameR q1).2, σ3) ⟨by rw [h1]; simp, by simp; omega, nameR_suf hs1, PH.le_trans h4 (PH.le_trans hle2 hle3)⟩ (by dsimp only; omega) ⟨rfl, trivial⟩ (by repeat (first | with_reducible exact Out.refl _ _ _ | exact Out.hv | refine Out.upd ?_ | refine Out.hvIn ?_)) ⟨fun h => ?_⟩ rfl
    simp only [List.map_append, List.map_cons, List.map_nil]
    exact h.tail
  | false =>
    refine LS.done ?_
    refine zN ?_
    refine RS.condF ?_
    rw [rowX_off hc] at h1
    simp only [List.append_nil] at h1
    rw [h1]
    refine zN ?_
    refine LS.freeze0 (l := l.map B) v5 (fun σ3 hle3 hr1 => ?_) (hl := by rw [List.length_map]; omega)
    obtain ⟨a5, c5, rfl⟩ := hr1.form
    refine mvL ?_; refine asL ?_; refine LS.done ?_
    refine zN ?_; refine RS.ret1 (v := .slice _ _ _) Tryz.func89 fun w hw => ?_
    exact ⟨_, σ3, PH.le_trans h4 (PH.le_trans hle2 hle3), hr1, rfl, hw⟩
end
end Go.Proofs.YtealabaiamaojaaGreatDoor
namespace Go.Proofs.YtealabaiamaojaaGreatDoor
open Go.JW Go.RowKit
theorem endX {S : Bs} {sx : St} (h : sx.s <:+ S) : decide (((posX S sx : Nat) : Int) = (B S).size) = sx.s.isEmpty := by
  have := suf_len h
  rw [Bool.eq_iff_iff, decide_eq_true_eq, List.isEmpty_iff, ← List.length_eq_zero_iff, B_size]
  unfold posX; omega
theorem mustX_suf {S : Bs} {sx : St} (c : UInt8) (h : sx.s <:+ S) : (mustX c sx).2.s <:+ S := by
  unfold mustX; simp only
  split
  · exact signX_suf c h
  · exact signX_suf c h
theorem vecX_suf {S : Bs} {sx : St} {most : Nat} (h : sx.s <:+ S) : (vecX most sx).2.s <:+ S :=
  numX_suf (mustX_suf 44 (numX_suf h))
theorem rowX_suf {S : Bs} (c : UInt8) : ∀ (n : Nat) (sx : St), sx.s.length ≤ n → sx.s <:+ S → (rowX c sx).2.s <:+ S := by
  intro n
  induction n with
  | zero =>
    intro sx h hs
    have h1 := signX_len c sx
    cases hc : (signX c sx).1 with
    | true => have := h1.2 hc; omega
    | false => rw [rowX_off hc]; exact signX_suf c hs
  | succ n ih =>
    intro sx h hs
    have h1 := signX_len c sx
    cases hc : (signX c sx).1 with
    | true =>
      have h2 := h1.2 hc
      have h3 := nameR_len (signX c sx).2
      rw [rowX_on hc]
      exact ih (nameR (signX c sx).2).2 (by omega) (nameR_suf (signX_suf c hs))
    | false => rw [rowX_off hc]; exact signX_suf c hs
theorem numL_le : ∀ (s : Bs) (n : Nat), n ≤ 999999999999999 → (numL 999999999999999 s n).1 ≤ 9999999999999999 := by
  intro s
  induction s with
  | nil => intro n h; show n ≤ _; omega
  | cons c t ih =>
    intro n h
    simp only [numL]
    split
    · rename_i hd
      have := isD_val hd
      split
      · show n * 10 + (c.toNat - 48) ≤ _; omega
      · exact ih _ (by omega)
    · show n ≤ _; omega
theorem numX_in (sx : St) : I64 (numX 999999999999999 sx).1 := by
  have z : I64 0 := ⟨by decide, by decide⟩
  have h := numL_le sx.s 0 (by omega)
  unfold numX
  split
  · exact z
  · split
    · exact z
    · exact ⟨by show (-9223372036854775808 : Int) ≤ ((numL 999999999999999 sx.s 0).1 : Int); omega, by show ((numL 999999999999999 sx.s 0).1 : Int) ≤ _; omega⟩
theorem vecX_in (sx : St) : I64 (vecX 999999999999999 sx).1.1 ∧ I64 (vecX 999999999999999 sx).1.2 := ⟨numX_in sx, numX_in _⟩
section
variable {w0 : World} {M : Nat → Prop} {σ : PH} {K : List HP}
theorem readName_x (S : Bs) (hS : S.length ≤ 100000) (w : World) (hw : Sat w0 M σ K w) :
    Calls Tryz.prog 68 #[.string (B S)] w fun e w' => ∃ v σ', PH.le σ σ' ∧ v = .tuple (List.toArray [.string (B (nameR ⟨S, false⟩).1), .bool (endR (nameR ⟨S, false⟩).2)]) ∧ e = .returned v ∧ Sat w0 M σ' K w' := by
  have hp0 : posX S ⟨S, false⟩ = 0 := Nat.sub_self _
  refine RS.enterK Tryz.func68 Tryz.ntmps68 rfl rfl hw ?_
  refine zN ?_; refine asS ?_; refine asB ?_; refine LS.done ?_
  refine zN ?_; refine mvS ?_; refine bld (vals := [(0, .string _)]) [_, _, _] ?_; refine box_ (v := .agg _) (cs := [_, _, _]) (fun b8 => ?_); refine asP ?_; refine LS.done ?_
  refine RS.to (K' := xdB b8 S ⟨S, false⟩ :: K) ?_ ⟨fun h => by unfold xdB; rw [hp0]; exact h⟩
  refine zN ?_; refine mvP ?_
  refine callQ (fun v _ => v = .string (B (nameR ⟨S, false⟩).1)) (xdB b8 S (nameR ⟨S, false⟩).2 :: K) (fun v σ1 hle1 hq => ?_) (hc := fun w' hw => name_x S hS ⟨S, false⟩ (List.suffix_refl S) w' hw)
  subst hq
  have hs := nameR_suf (S := S) (sx := ⟨S, false⟩) (List.suffix_refl S)
  obtain ⟨x, hx⟩ : ∃ x, x = nameR ⟨S, false⟩ := ⟨_, rfl⟩
  rw [← hx] at hs ⊢
  have k0 := hle1
  refine asS ?_; refine LS.done ?_
  obtain ⟨x1, s, no⟩ := x
  have he := endX hs
  cases no with
  | true =>
    refine zD ?_; refine RS.drawG [(17, some false)] [.free, .free, .free, .free, .ex, .free, .free, .free, .free, .free, .free, .free, .free, .free, .free, .free, .free] (xdB b8 S ⟨s, true⟩ :: K) ?_ (by kernel_rfl) (by kernel_rfl) (by kernel_rfl) ⟨fun h => h⟩; simp only [ers, ersO, onOff, glook, nthO, List.map_cons, List.map_nil, Option.bind_some, Option.map_some, Nat.beq, cond_true, BEq.beq]; refine D.mvS ?_; refine D.mvP ?_; refine D.nilck ?_; refine D.fld ?_; refine D.ld1 (v := .bool _) ?_; refine D.not_ ?_; refine D.mvB ?_; refine D.as_ (v := undef) ?_; refine D.as_ (v := undef) ?_; refine D.as_ (v := undef) ?_; refine D.as_ (v := undef) ?_; refine D.as_ (v := undef) ?_; refine D.as_ (v := undef) ?_; refine D.as_ (v := undef) ?_; refine D.pk (v := .bool _) ?_; refine D.asS ?_; refine D.asB ?_; refine D.doneG [(17, some false)] ⟨⟨rfl, rfl⟩, trivial⟩ (fun us σ1 hle1 hfs => ?_)
    have k1 := hle1
    refine zN ?_; refine RS.ret2 (v := .string _) (v' := .bool _) Tryz.func68 fun w hw => ?_
    exact ⟨_, _, PH.le_trans k0 k1, rfl, rfl, hw.weak fun F h => h.tail⟩
  | false =>
    refine zD ?_; refine RS.drawG [(17, some true)] [.free, .free, .free, .free, .ex, .free, .free, .free, .free, .free, .ex, .free, .free, .free, .free, .free, .free] (xdB b8 S ⟨s, false⟩ :: K) ?_ (by kernel_rfl) (by kernel_rfl) (by kernel_rfl) ⟨fun h => h⟩; simp only [ers, ersO, onOff, glook, nthO, List.map_cons, List.map_nil, Option.bind_some, Option.map_some, Nat.beq, cond_true, BEq.beq]; refine D.mvS ?_; refine D.mvP ?_; refine D.nilck ?_; refine D.fld ?_; refine D.ld1 (v := .bool _) ?_; refine D.not_ ?_; refine D.mvB ?_; refine D.mvP ?_; refine D.nilck ?_; refine D.fld ?_; refine D.ld1 (v := .int _ _) ?_; refine D.mvS ?_; refine D.lenS ?_; refine D.eqI ?_; rw [he]; refine D.pk (v := .bool _) ?_; refine D.asS ?_; refine D.asB ?_; refine D.doneG [(17, some true)] ⟨⟨rfl, rfl⟩, trivial⟩ (fun us σ1 hle1 hfs => ?_)
    have k1 := hle1
    refine zN ?_; refine RS.ret2 (v := .string _) (v' := .bool _) Tryz.func68 fun w hw => ?_
    exact ⟨_, _, PH.le_trans k0 k1, rfl, rfl, hw.weak fun F h => h.tail⟩
theorem readNumber_x (S : Bs) (hS : S.length ≤ 100000) (w : World) (hw : Sat w0 M σ K w) :
    Calls Tryz.prog 69 #[.string (B S), .int .i64 999999999999999] w fun e w' => ∃ v σ', PH.le σ σ' ∧ v = .tuple (List.toArray [.int .i64 (numX 999999999999999 ⟨S, false⟩).1, .bool (endR (numX 999999999999999 ⟨S, false⟩).2)]) ∧ e = .returned v ∧ Sat w0 M σ' K w' := by
  have hp0 : posX S ⟨S, false⟩ = 0 := Nat.sub_self _
  refine RS.enterK Tryz.func69 Tryz.ntmps69 rfl rfl hw ?_
  refine zN ?_; refine asI ?_; refine asB ?_; refine LS.done ?_
  refine zN ?_; refine mvS ?_; refine bld (vals := [(0, .string _)]) [_, _, _] ?_; refine box_ (v := .agg _) (cs := [_, _, _]) (fun b10 => ?_); refine asP ?_; refine LS.done ?_
  refine RS.to (K' := xdB b10 S ⟨S, false⟩ :: K) ?_ ⟨fun h => by unfold xdB; rw [hp0]; exact h⟩
  refine zN ?_; refine mvP ?_; refine mvI ?_
  refine callQ (fun v _ => v = .int .i64 (numX 999999999999999 ⟨S, false⟩).1) (xdB b10 S (numX 999999999999999 ⟨S, false⟩).2 :: K) (fun v σ1 hle1 hq => ?_) (hc := fun w' hw => number_x S hS ⟨S, false⟩ (List.suffix_refl S) w' hw)
  subst hq
  have hs := numX_suf (S := S) (most := 999999999999999) (sx := ⟨S, false⟩) (List.suffix_refl S)
  obtain ⟨x, hx⟩ : ∃ x, x = numX 999999999999999 ⟨S, false⟩ := ⟨_, rfl⟩
  rw [← hx] at hs ⊢
  have k0 := hle1
  refine asI ?_; refine LS.done ?_
  obtain ⟨x1, s, no⟩ := x
  have he := endX hs
  cases no with
  | true =>
    refine zD ?_; refine RS.drawG [(20, some false)] [.free, .free, .free, .free, .ex, .free, .free, .free, .free, .free, .free, .free, .free, .free, .free, .free, .free] (xdB b10 S ⟨s, true⟩ :: K) ?_ (by kernel_rfl) (by kernel_rfl) (by kernel_rfl) ⟨fun h => h⟩; simp only [ers, ersO, onOff, glook, nthO, List.map_cons, List.map_nil, Option.bind_some, Option.map_some, Nat.beq, cond_true, BEq.beq]; refine D.mvI ?_; refine D.mvP ?_; refine D.nilck ?_; refine D.fld ?_; refine D.ld1 (v := .bool _) ?_; refine D.not_ ?_; refine D.mvB ?_; refine D.as_ (v := undef) ?_; refine D.as_ (v := undef) ?_; refine D.as_ (v := undef) ?_; refine D.as_ (v := undef) ?_; refine D.as_ (v := undef) ?_; refine D.as_ (v := undef) ?_; refine D.as_ (v := undef) ?_; refine D.pk (v := .bool _) ?_; refine D.asI ?_; refine D.asB ?_; refine D.doneG [(20, some false)] ⟨⟨rfl, rfl⟩, trivial⟩ (fun us σ1 hle1 hfs => ?_)
    have k1 := hle1
    refine zN ?_; refine RS.ret2 (v := .int _ _) (v' := .bool _) Tryz.func69 fun w hw => ?_
    exact ⟨_, _, PH.le_trans k0 k1, rfl, rfl, hw.weak fun F h => h.tail⟩
  | false =>
    refine zD ?_; refine RS.drawG [(20, some true)] [.free, .free, .free, .free, .ex, .free, .free, .free, .free, .free, .ex, .free, .free, .free, .free, .free, .free] (xdB b10 S ⟨s, false⟩ :: K) ?_ (by kernel_rfl) (by kernel_rfl) (by kernel_rfl) ⟨fun h => h⟩; simp only [ers, ersO, onOff, glook, nthO, List.map_cons, List.map_nil, Option.bind_some, Option.map_some, Nat.beq, cond_true, BEq.beq]; refine D.mvI ?_; refine D.mvP ?_; refine D.nilck ?_; refine D.fld ?_; refine D.ld1 (v := .bool _) ?_; refine D.not_ ?_; refine D.mvB ?_; refine D.mvP ?_; refine D.nilck ?_; refine D.fld ?_; refine D.ld1 (v := .int _ _) ?_; refine D.mvS ?_; refine D.lenS ?_; refine D.eqI ?_; rw [he]; refine D.pk (v := .bool _) ?_; refine D.asI ?_; refine D.asB ?_; refine D.doneG [(20, some true)] ⟨⟨rfl, rfl⟩, trivial⟩ (fun us σ1 hle1 hfs => ?_)
    have k1 := hle1
    refine zN ?_; refine RS.ret2 (v := .int _ _) (v' := .bool _) Tryz.func69 fun w hw => ?_
    exact ⟨_, _, PH.le_trans k0 k1, rfl, rfl, hw.weak fun F h => h.tail⟩
theorem place_x (S : Bs) (hS : S.length ≤ 100000) (w : World) (hw : Sat w0 M σ K w) :
    Calls Tryz.prog 71 #[.string (B S)] w fun e w' => ∃ v σ', PH.le σ σ' ∧ (∃ cs, Rep.rep σ' cs (placeX ⟨S, false⟩).1 ∧ v = .tuple (List.toArray [.agg (List.toArray cs), .bool (endR (placeX ⟨S, false⟩).2)])) ∧ e = .returned v ∧ Sat w0 M σ' K w' := by
  have hp0 : posX S ⟨S, false⟩ = 0 := Nat.sub_self _
  refine RS.enterK Tryz.func71 Tryz.ntmps71 rfl rfl hw ?_
  obtain ⟨x1, h1⟩ : ∃ x, x = nameR ⟨S, false⟩ := ⟨_, rfl⟩
  obtain ⟨y1, k1⟩ : ∃ x, x = (mustX 62 x1.2).2 := ⟨_, rfl⟩
  obtain ⟨x2, h2⟩ : ∃ x, x = nameR y1 := ⟨_, rfl⟩
  obtain ⟨y2, k2⟩ : ∃ x, x = (mustX 58 x2.2).2 := ⟨_, rfl⟩
  obtain ⟨x3, h3⟩ : ∃ x, x = vecX 999999999999999 y2 := ⟨_, rfl⟩
  obtain ⟨x4, h4⟩ : ∃ x, x = signX 33 x3.2 := ⟨_, rfl⟩
  have hp : placeX ⟨S, false⟩ = (⟨B x1.1, B x2.1, x3.1.1, x3.1.2, x4.1⟩, x4.2) := by subst h4 h3 k2 h2 k1 h1; rfl
  have s0 : (⟨S, false⟩ : St).s <:+ S := List.suffix_refl S
  have s1 : x1.2.s <:+ S := by rw [h1]; exact nameR_suf s0
  have s2 : y1.s <:+ S := by rw [k1]; exact mustX_suf 62 s1
  have s3 : x2.2.s <:+ S := by rw [h2]; exact nameR_suf s2
  have s4 : y2.s <:+ S := by rw [k2]; exact mustX_suf 58 s3
  have s5 : x3.2.s <:+ S := by rw [h3]; exact vecX_suf s4
  have s6 : x4.2.s <:+ S := by rw [h4]; exact signX_suf 33 s5
  rw [hp]
  refine zN ?_; refine alloc_ (fun b2 => ?_); refine asB ?_; refine LS.done ?_
  refine zN ?_; refine mvS ?_; refine bld (vals := [(0, .string _)]) [_, _, _] ?_; refine box_ (v := .agg _) (cs := [_, _, _]) (fun b8 => ?_); refine asP ?_; refine LS.done ?_
  refine RS.to (K' := xdB b8 S ⟨S, false⟩ :: plB b2 [] [] 0 0 false :: K) ?_ ⟨fun h => by unfold xdB; rw [hp0]; exact h⟩
  refine zN ?_; refine mvP ?_
  refine callQ (fun v _ => v = .string (B (nameR ⟨S, false⟩).1)) (xdB b8 S (nameR ⟨S, false⟩).2 :: plB b2 [] [] 0 0 false :: K) (fun v σ1 hle1 hq1 => ?_) (hc := fun w' hw => (name_x (K := _ :: K) S hS ⟨S, false⟩ s0 w' (hw.front [] [xdB b8 S ⟨S, false⟩])).mono fun _ _ ⟨v, σ', h1, h2, h3, h4⟩ => ⟨v, σ', h1, h2, h3, h4.front [_] []⟩)
  subst hq1
  rw [← h1]
  refine bld (vals := [(0, .string _)]) [_, _, _, _, _] ?_; refine alloc_ (fun b5 => ?_); refine st (.agg _) _ ?_; refine LS.done ?_
  refine zN ?_; refine mvP ?_
  refine callQ (fun v _ => v = .tuple #[]) (plB b5 x1.1 [] 0 0 false :: xdB b8 S (mustX 62 x1.2).2 :: plB b2 [] [] 0 0 false :: K) (fun v σ2 hle2 hq2 => ?_) (hc := fun w' hw => (must_x (K := _ :: _ :: K) 62 S hS x1.2 s1 w' (hw.front [_] [xdB b8 S x1.2])).mono fun _ _ ⟨v, σ', h1, h2, h3, h4⟩ => ⟨v, σ', h1, h2, h3, h4.front [_] [_]⟩)
  subst hq2
  rw [← k1]
  refine LS.done ?_
  refine zN ?_; refine mvP ?_
  refine callQ (fun v _ => v = .string (B (nameR y1).1)) (plB b5 x1.1 [] 0 0 false :: xdB b8 S (nameR y1).2 :: plB b2 [] [] 0 0 false :: K) (fun v σ3 hle3 hq3 => ?_) (hc := fun w' hw => (name_x (K := _ :: _ :: K) S hS y1 s2 w' (hw.front [_] [xdB b8 S y1])).mono fun _ _ ⟨v, σ', h1, h2, h3, h4⟩ => ⟨v, σ', h1, h2, h3, h4.front [_] [_]⟩)
  subst hq3
  rw [← h2]
  refine fld ?_; refine st (.string _) _ ?_; refine LS.done ?_
  refine zN ?_; refine mvP ?_
  refine callQ (fun v _ => v = .tuple #[]) (plB b5 x1.1 x2.1 0 0 false :: xdB b8 S (mustX 58 x2.2).2 :: plB b2 [] [] 0 0 false :: K) (fun v σ4 hle4 hq4 => ?_) (hc := fun w' hw => (must_x (K := _ :: _ :: K) 58 S hS x2.2 s3 w' (hw.front [_] [xdB b8 S x2.2])).mono fun _ _ ⟨v, σ', h1, h2, h3, h4⟩ => ⟨v, σ', h1, h2, h3, h4.front [_] [_]⟩)
  subst hq4
  rw [← k2]
  refine LS.done ?_
  refine zN ?_; refine mvP ?_
  refine callQ (fun v _ => v = .agg (List.toArray [.int .i64 (vecX 999999999999999 y2).1.1, .int .i64 (vecX 999999999999999 y2).1.2])) (plB b5 x1.1 x2.1 0 0 false :: xdB b8 S (vecX 999999999999999 y2).2 :: plB b2 [] [] 0 0 false :: K) (fun v σ5 hle5 hq5 => ?_) (hc := fun w' hw => (vec_x (K := _ :: _ :: K) S hS y2 s4 w' (hw.front [_] [xdB b8 S y2])).mono fun _ _ ⟨v, σ', h1, h2, h3, h4⟩ => ⟨v, σ', h1, h2, h3, h4.front [_] [_]⟩)
  subst hq5
  rw [← h3]
  refine fld ?_; refine st (.agg _) _ ?_; refine LS.done ?_
  refine zN ?_; refine mvP ?_
  refine callQ (fun v _ => v = .bool (signX 33 x3.2).1) (plB b5 x1.1 x2.1 x3.1.1 x3.1.2 false :: xdB b8 S (signX 33 x3.2).2 :: plB b2 [] [] 0 0 false :: K) (fun v σ6 hle6 hq6 => ?_) (hc := fun w' hw => (sign_x (K := _ :: _ :: K) 33 S hS x3.2 s5 w' (hw.front [_] [xdB b8 S x3.2])).mono fun _ _ ⟨v, σ', h1, h2, h3, h4⟩ => ⟨v, σ', h1, h2, h3, h4.front [_] [_]⟩)
  subst hq6
  rw [← h4]
  refine fld ?_; refine st (.bool _) _ ?_; refine LS.done ?_
  have k6 := PH.le_trans hle1 (PH.le_trans hle2 (PH.le_trans hle3 (PH.le_trans hle4 (PH.le_trans hle5 hle6))))
  obtain ⟨x5, s, no⟩ := x4
  have he := endX s6
  refine RS.to (K' := xdB b8 S ⟨s, no⟩ :: plB b5 x1.1 x2.1 x3.1.1 x3.1.2 x5 :: plB b2 [] [] 0 0 false :: K) ?_ ⟨fun h => h.swap⟩
  refine RS.freeze (b := b8) FindB.head (fun σ7 hle7 hb8 => ?_)
  have hb8' : σ7 b8 = some (.cells (List.toArray [.string (B S), .int .i64 (posX S ⟨s, no⟩), .bool no]) 132 (0, 0)) := hb8
  have hc1 : σ7.cell b8 (0 + 1) = some (.int .i64 (posX S ⟨s, no⟩)) := by simp [PH.cell, hb8']
  have hc2 : σ7.cell b8 (0 + 2) = some (.bool no) := by simp [PH.cell, hb8']
  have e5 : I64 x3.1.1 ∧ I64 x3.1.2 := by rw [h3]; exact vecX_in _
  have e1 : x1.1.length ≤ S.length := by rw [h1]; exact nameR_len1 _
  have e2 : x2.1.length ≤ S.length := by rw [h2]; exact Nat.le_trans (nameR_len1 _) (suf_len s2)
  have hrep : ∀ τ : PH, Rep.rep τ (placeC ⟨B x1.1, B x2.1, x3.1.1, x3.1.2, x5⟩) (⟨B x1.1, B x2.1, x3.1.1, x3.1.2, x5⟩ : PlaceD) := fun τ => ⟨rfl, by show (B x1.1).size ≤ _; rw [B_size]; omega, by show (B x2.1).size ≤ _; rw [B_size]; omega, e5.1, e5.2⟩
  cases no with
  | true =>
    refine zD ?_; refine RS.drawG [(31, some false)] [.ex, .free, .free, .free, .free, .free, .free, .free, .free, .free, .free, .free, .free, .free, .free, .st, .free] (plB b5 x1.1 x2.1 x3.1.1 x3.1.2 x5 :: plB b2 [] [] 0 0 false :: K) ?_ (by kernel_rfl) (by kernel_rfl) (by kernel_rfl) ⟨fun h => h⟩; simp only [ers, ersO, onOff, glook, nthO, List.map_cons, List.map_nil, Option.bind_some, Option.map_some, Nat.beq, cond_true, BEq.beq]; refine D.ldA (placeC ⟨B x1.1, B x2.1, x3.1.1, x3.1.2, x5⟩) ?_; refine D.mvP ?_; refine D.nilck ?_; refine D.fld ?_; refine D.ldSf hc2 ?_; refine D.not_ ?_; refine D.mvB ?_; refine D.as_ (v := undef) ?_; refine D.as_ (v := undef) ?_; refine D.as_ (v := undef) ?_; refine D.as_ (v := undef) ?_; refine D.as_ (v := undef) ?_; refine D.as_ (v := undef) ?_; refine D.as_ (v := undef) ?_; refine D.pk (v := .bool _) ?_
    refine D.stB (.agg (List.toArray (placeC ⟨B x1.1, B x2.1, x3.1.1, x3.1.2, x5⟩))) (placeC ⟨B x1.1, B x2.1, x3.1.1, x3.1.2, x5⟩) ?_
    refine D.asB ?_; refine D.doneG [(31, some false)] ⟨⟨rfl, rfl⟩, trivial⟩ (fun us σ1 hle1 hfs => ?_)
    have k7 := hle1
    refine zN ?_
    refine RS.retCT (ty := 37) Tryz.func71 (placeC ⟨B x1.1, B x2.1, x3.1.1, x3.1.2, x5⟩) (hb := FindB.tail (i := FindB.head)) fun w hw => ?_
    exact ⟨_, _, PH.le_trans k6 (PH.le_trans hle7 k7), ⟨_, hrep _, rfl⟩, rfl, hw.weak fun F h => h.tail.tail⟩
  | false =>
    refine zD ?_; refine RS.drawG [(31, some true)] [.ex, .free, .free, .free, .free, .free, .free, .free, .free, .free, .free, .free, .free, .free, .free, .st, .free] (plB b5 x1.1 x2.1 x3.1.1 x3.1.2 x5 :: plB b2 [] [] 0 0 false :: K) ?_ (by kernel_rfl) (by kernel_rfl) (by kernel_rfl) ⟨fun h => h⟩; simp only [ers, ersO, onOff, glook, nthO, List.map_cons, List.map_nil, Option.bind_some, Option.map_some, Nat.beq, cond_true, BEq.beq]; refine D.ldA (placeC ⟨B x1.1, B x2.1, x3.1.1, x3.1.2, x5⟩) ?_; refine D.mvP ?_; refine D.nilck ?_; refine D.fld ?_; refine D.ldSf hc2 ?_; refine D.not_ ?_; refine D.mvB ?_; refine D.mvP ?_; refine D.nilck ?_; refine D.fld ?_; refine D.ldSf hc1 ?_; refine D.mvS ?_; refine D.lenS ?_; refine D.eqI ?_; rw [he]; refine D.pk (v := .bool _) ?_
    refine D.stB (.agg (List.toArray (placeC ⟨B x1.1, B x2.1, x3.1.1, x3.1.2, x5⟩))) (placeC ⟨B x1.1, B x2.1, x3.1.1, x3.1.2, x5⟩) ?_
    refine D.asB ?_; refine D.doneG [(31, some true)] ⟨⟨rfl, rfl⟩, trivial⟩ (fun us σ1 hle1 hfs => ?_)
    have k7 := hle1
    refine zN ?_
    refine RS.retCT (ty := 37) Tryz.func71 (placeC ⟨B x1.1, B x2.1, x3.1.1, x3.1.2, x5⟩) (hb := FindB.tail (i := FindB.head)) fun w hw => ?_
    exact ⟨_, _, PH.le_trans k6 (PH.le_trans hle7 k7), ⟨_, hrep _, rfl⟩, rfl, hw.weak fun F h => h.tail.tail⟩
theorem node_x (S : Bs) (hS : S.length ≤ 100000) (w : World) (hw : Sat w0 M σ K w) :
    Calls Tryz.prog 67 #[.string (B S)] w fun e w' => ∃ v σ', PH.le σ σ' ∧ (∃ cs, Rep.rep σ' cs (nodeX ⟨S, false⟩).1 ∧ v = .tuple (List.toArray [.agg (List.toArray cs), .bool (endR (nodeX ⟨S, false⟩).2)])) ∧ e = .returned v ∧ Sat w0 M σ' K w' := by
  have hp0 : posX S ⟨S, false⟩ = 0 := Nat.sub_self _
  refine RS.enterK Tryz.func67 Tryz.ntmps67 rfl rfl hw ?_
  obtain ⟨x1, h1⟩ : ∃ x, x = nameR ⟨S, false⟩ := ⟨_, rfl⟩
  obtain ⟨y1, k1⟩ : ∃ x, x = (mustX 58 x1.2).2 := ⟨_, rfl⟩
  obtain ⟨x2, h2⟩ : ∃ x, x = vecX 999999999999999 y1 := ⟨_, rfl⟩
  obtain ⟨x3, h3⟩ : ∃ x, x = rowX 43 x2.2 := ⟨_, rfl⟩
  obtain ⟨x4, h4⟩ : ∃ x, x = rowX 126 x3.2 := ⟨_, rfl⟩
  obtain ⟨x6, h6⟩ : ∃ x, x = signX 33 x4.2 := ⟨_, rfl⟩
  have hp : nodeX ⟨S, false⟩ = (⟨B x1.1, x2.1.1, x2.1.2, x3.1.map B, x4.1.map B, x6.1⟩, x6.2) := by subst h6 h4 h3 h2 k1 h1; rfl
  have s0 : (⟨S, false⟩ : St).s <:+ S := List.suffix_refl S
  have s1 : x1.2.s <:+ S := by rw [h1]; exact nameR_suf s0
  have s2 : y1.s <:+ S := by rw [k1]; exact mustX_suf 58 s1
  have s3 : x2.2.s <:+ S := by rw [h2]; exact vecX_suf s2
  have s4 : x3.2.s <:+ S := by rw [h3]; exact rowX_suf 43 _ _ (Nat.le_refl _) s3
  have s5 : x4.2.s <:+ S := by rw [h4]; exact rowX_suf 126 _ _ (Nat.le_refl _) s4
  have s6 : x6.2.s <:+ S := by rw [h6]; exact signX_suf 33 s5
  rw [hp]
  refine zN ?_; refine alloc_ (fun b2 => ?_); refine asB ?_; refine LS.done ?_
  refine zN ?_; refine mvS ?_; refine bld (vals := [(0, .string _)]) [_, _, _] ?_; refine box_ (v := .agg _) (cs := [_, _, _]) (fun b8 => ?_); refine asP ?_; refine LS.done ?_
  refine RS.to (K' := xdB b8 S ⟨S, false⟩ :: ndB b2 [] 0 0 (.slice none 0 0) (.slice none 0 0) false :: K) ?_ ⟨fun h => by unfold xdB; rw [hp0]; exact h⟩
  refine zN ?_; refine mvP ?_
  refine callQ (fun v _ => v = .string (B (nameR ⟨S, false⟩).1)) (xdB b8 S (nameR ⟨S, false⟩).2 :: ndB b2 [] 0 0 (.slice none 0 0) (.slice none 0 0) false :: K) (fun v σ1 hle1 hq1 => ?_) (hc := fun w' hw => (name_x (K := _ :: K) S hS ⟨S, false⟩ s0 w' (hw.front [] [xdB b8 S ⟨S, false⟩])).mono fun _ _ ⟨v, σ', h1, h2, h3, h4⟩ => ⟨v, σ', h1, h2, h3, h4.front [_] []⟩)
  subst hq1
  rw [← h1]
  refine bld (vals := [(0, .string _)]) [_, _, _, _, _, _] ?_; refine alloc_ (fun b5 => ?_); refine st (.agg _) _ ?_; refine LS.done ?_
  refine zN ?_; refine mvP ?_
  refine callQ (fun v _ => v = .tuple #[]) (ndB b5 x1.1 0 0 (.slice none 0 0) (.slice none 0 0) false :: xdB b8 S (mustX 58 x1.2).2 :: ndB b2 [] 0 0 (.slice none 0 0) (.slice none 0 0) false :: K) (fun v σ2 hle2 hq2 => ?_) (hc := fun w' hw => (must_x (K := _ :: _ :: K) 58 S hS x1.2 s1 w' (hw.front [_] [xdB b8 S x1.2])).mono fun _ _ ⟨v, σ', h1, h2, h3, h4⟩ => ⟨v, σ', h1, h2, h3, h4.front [_] [_]⟩)
  subst hq2
  rw [← k1]
  refine LS.done ?_
  refine zN ?_; refine mvP ?_
  refine callQ (fun v _ => v = .agg (List.toArray [.int .i64 (vecX 999999999999999 y1).1.1, .int .i64 (vecX 999999999999999 y1).1.2])) (ndB b5 x1.1 0 0 (.slice none 0 0) (.slice none 0 0) false :: xdB b8 S (vecX 999999999999999 y1).2 :: ndB b2 [] 0 0 (.slice none 0 0) (.slice none 0 0) false :: K) (fun v σ3 hle3 hq3 => ?_) (hc := fun w' hw => (vec_x (K := _ :: _ :: K) S hS y1 s2 w' (hw.front [_] [xdB b8 S y1])).mono fun _ _ ⟨v, σ', h1, h2, h3, h4⟩ => ⟨v, σ', h1, h2, h3, h4.front [_] [_]⟩)
  subst hq3
  rw [← h2]
  refine fld ?_; refine st (.agg _) _ ?_; refine LS.done ?_
  refine zN ?_; refine mvP ?_
  refine callQ (fun v σ' => RepL σ' v ((rowX 43 x2.2).1.map B)) (ndB b5 x1.1 x2.1.1 x2.1.2 (.slice none 0 0) (.slice none 0 0) false :: xdB b8 S (rowX 43 x2.2).2 :: ndB b2 [] 0 0 (.slice none 0 0) (.slice none 0 0) false :: K) (fun v3 σ4 hle4 hq4 => ?_) (hc := fun w' hw => (row_x (K := _ :: _ :: K) 43 S hS x2.2 s3 w' (hw.front [_] [xdB b8 S x2.2])).mono fun _ _ ⟨v, σ', h1, h2, h3, h4⟩ => ⟨v, σ', h1, h2, h3, h4.front [_] [_]⟩)
  rw [← h3] at hq4 ⊢
  obtain ⟨a3, c3, rfl⟩ := hq4.form
  refine fld ?_; refine st (.slice _ _ _) _ ?_; refine LS.done ?_
  refine zN ?_; refine mvP ?_
  refine callQ (fun v σ' => RepL σ' v ((rowX 126 x3.2).1.map B)) (ndB b5 x1.1 x2.1.1 x2.1.2 (.slice a3 (x3.1.map B).length c3) (.slice none 0 0) false :: xdB b8 S (rowX 126 x3.2).2 :: ndB b2 [] 0 0 (.slice none 0 0) (.slice none 0 0) false :: K) (fun v4 σ5 hle5 hq5 => ?_) (hc := fun w' hw => (row_x (K := _ :: _ :: K) 126 S hS x3.2 s4 w' (hw.front [_] [xdB b8 S x3.2])).mono fun _ _ ⟨v, σ', h1, h2, h3, h4⟩ => ⟨v, σ', h1, h2, h3, h4.front [_] [_]⟩)
  rw [← h4] at hq5 ⊢
  obtain ⟨a4, c4, rfl⟩ := hq5.form
  refine fld ?_; refine st (.slice _ _ _) _ ?_; refine LS.done ?_
  refine zN ?_; refine mvP ?_
  refine callQ (fun v _ => v = .bool (signX 33 x4.2).1) (ndB b5 x1.1 x2.1.1 x2.1.2 (.slice a3 (x3.1.map B).length c3) (.slice a4 (x4.1.map B).length c4) false :: xdB b8 S (signX 33 x4.2).2 :: ndB b2 [] 0 0 (.slice none 0 0) (.slice none 0 0) false :: K) (fun v σ6 hle6 hq6 => ?_) (hc := fun w' hw => (sign_x (K := _ :: _ :: K) 33 S hS x4.2 s5 w' (hw.front [_] [xdB b8 S x4.2])).mono fun _ _ ⟨v, σ', h1, h2, h3, h4⟩ => ⟨v, σ', h1, h2, h3, h4.front [_] [_]⟩)
  subst hq6
  rw [← h6]
  refine fld ?_; refine st (.bool _) _ ?_; refine LS.done ?_
  have k6 := PH.le_trans hle1 (PH.le_trans hle2 (PH.le_trans hle3 (PH.le_trans hle4 (PH.le_trans hle5 hle6))))
  obtain ⟨x5, s, no⟩ := x6
  have he := endX s6
  refine RS.to (K' := xdB b8 S ⟨s, no⟩ :: ndB b5 x1.1 x2.1.1 x2.1.2 (.slice a3 (x3.1.map B).length c3) (.slice a4 (x4.1.map B).length c4) x5 :: ndB b2 [] 0 0 (.slice none 0 0) (.slice none 0 0) false :: K) ?_ ⟨fun h => h.swap⟩
  refine RS.freeze (b := b8) FindB.head (fun σ7 hle7 hb8 => ?_)
  have hb8' : σ7 b8 = some (.cells (List.toArray [.string (B S), .int .i64 (posX S ⟨s, no⟩), .bool no]) 132 (0, 0)) := hb8
  have hc1 : σ7.cell b8 (0 + 1) = some (.int .i64 (posX S ⟨s, no⟩)) := by simp [PH.cell, hb8']
  have hc2 : σ7.cell b8 (0 + 2) = some (.bool no) := by simp [PH.cell, hb8']
  have e5 : I64 x2.1.1 ∧ I64 x2.1.2 := by rw [h2]; exact vecX_in _
  have e1 : x1.1.length ≤ S.length := by rw [h1]; exact nameR_len1 _
  have hrep : ∀ τ : PH, PH.le σ7 τ → Rep.rep τ (nodeC ⟨B x1.1, x2.1.1, x2.1.2, x3.1.map B, x4.1.map B, x5⟩ (.slice a3 (x3.1.map B).length c3) (.slice a4 (x4.1.map B).length c4)) (⟨B x1.1, x2.1.1, x2.1.2, x3.1.map B, x4.1.map B, x5⟩ : NodeD) := fun τ hτ => ⟨_, _, rfl, by show (B x1.1).size ≤ _; rw [B_size]; omega, e5.1, e5.2, hq4.mono (PH.le_trans hle5 (PH.le_trans hle6 (PH.le_trans hle7 hτ))), hq5.mono (PH.le_trans hle6 (PH.le_trans hle7 hτ))⟩
  cases no with
  | true =>
    refine zD ?_; refine RS.drawG [(32, some false)] [.ex, .free, .free, .free, .free, .free, .free, .free, .free, .free, .free, .free, .free, .free, .free, .st, .free] (ndB b5 x1.1 x2.1.1 x2.1.2 (.slice a3 (x3.1.map B).length c3) (.slice a4 (x4.1.map B).length c4) x5 :: ndB b2 [] 0 0 (.slice none 0 0) (.slice none 0 0) false :: K) ?_ (by kernel_rfl) (by kernel_rfl) (by kernel_rfl) ⟨fun h => h⟩; simp only [ers, ersO, onOff, glook, nthO, List.map_cons, List.map_nil, Option.bind_some, Option.map_some, Nat.beq, cond_true, BEq.beq]; refine D.ldA (nodeC ⟨B x1.1, x2.1.1, x2.1.2, x3.1.map B, x4.1.map B, x5⟩ (.slice a3 (x3.1.map B).length c3) (.slice a4 (x4.1.map B).length c4)) ?_; refine D.mvP ?_; refine D.nilck ?_; refine D.fld ?_; refine D.ldSf hc2 ?_; refine D.not_ ?_; refine D.mvB ?_; refine D.as_ (v := undef) ?_; refine D.as_ (v := undef) ?_; refine D.as_ (v := undef) ?_; refine D.as_ (v := undef) ?_; refine D.as_ (v := undef) ?_; refine D.as_ (v := undef) ?_; refine D.as_ (v := undef) ?_; refine D.pk (v := .bool _) ?_
    refine D.stB (.agg (List.toArray (nodeC ⟨B x1.1, x2.1.1, x2.1.2, x3.1.map B, x4.1.map B, x5⟩ (.slice a3 (x3.1.map B).length c3) (.slice a4 (x4.1.map B).length c4)))) (nodeC ⟨B x1.1, x2.1.1, x2.1.2, x3.1.map B, x4.1.map B, x5⟩ (.slice a3 (x3.1.map B).length c3) (.slice a4 (x4.1.map B).length c4)) ?_
    refine D.asB ?_; refine D.doneG [(32, some false)] ⟨⟨rfl, rfl⟩, trivial⟩ (fun us σ1 hle1 hfs => ?_)
    have k7 := hle1
    refine zN ?_
    refine RS.retCT (ty := 31) Tryz.func67 (nodeC ⟨B x1.1, x2.1.1, x2.1.2, x3.1.map B, x4.1.map B, x5⟩ (.slice a3 (x3.1.map B).length c3) (.slice a4 (x4.1.map B).length c4)) (hb := FindB.tail (i := FindB.head)) fun w hw => ?_
    exact ⟨_, _, PH.le_trans k6 (PH.le_trans hle7 k7), ⟨_, hrep _ k7, rfl⟩, rfl, hw.weak fun F h => h.tail.tail⟩
  | false =>
    refine zD ?_; refine RS.drawG [(32, some true)] [.ex, .free, .free, .free, .free, .free, .free, .free, .free, .free, .free, .free, .free, .free, .free, .st, .free] (ndB b5 x1.1 x2.1.1 x2.1.2 (.slice a3 (x3.1.map B).length c3) (.slice a4 (x4.1.map B).length c4) x5 :: ndB b2 [] 0 0 (.slice none 0 0) (.slice none 0 0) false :: K) ?_ (by kernel_rfl) (by kernel_rfl) (by kernel_rfl) ⟨fun h => h⟩; simp only [ers, ersO, onOff, glook, nthO, List.map_cons, List.map_nil, Option.bind_some, Option.map_some, Nat.beq, cond_true, BEq.beq]; refine D.ldA (nodeC ⟨B x1.1, x2.1.1, x2.1.2, x3.1.map B, x4.1.map B, x5⟩ (.slice a3 (x3.1.map B).length c3) (.slice a4 (x4.1.map B).length c4)) ?_; refine D.mvP ?_; refine D.nilck ?_; refine D.fld ?_; refine D.ldSf hc2 ?_; refine D.not_ ?_; refine D.mvB ?_; refine D.mvP ?_; refine D.nilck ?_; refine D.fld ?_; refine D.ldSf hc1 ?_; refine D.mvS ?_; refine D.lenS ?_; refine D.eqI ?_; rw [he]; refine D.pk (v := .bool _) ?_
    refine D.stB (.agg (List.toArray (nodeC ⟨B x1.1, x2.1.1, x2.1.2, x3.1.map B, x4.1.map B, x5⟩ (.slice a3 (x3.1.map B).length c3) (.slice a4 (x4.1.map B).length c4)))) (nodeC ⟨B x1.1, x2.1.1, x2.1.2, x3.1.map B, x4.1.map B, x5⟩ (.slice a3 (x3.1.map B).length c3) (.slice a4 (x4.1.map B).length c4)) ?_
    refine D.asB ?_; refine D.doneG [(32, some true)] ⟨⟨rfl, rfl⟩, trivial⟩ (fun us σ1 hle1 hfs => ?_)
    have k7 := hle1
    refine zN ?_
    refine RS.retCT (ty := 31) Tryz.func67 (nodeC ⟨B x1.1, x2.1.1, x2.1.2, x3.1.map B, x4.1.map B, x5⟩ (.slice a3 (x3.1.map B).length c3) (.slice a4 (x4.1.map B).length c4)) (hb := FindB.tail (i := FindB.head)) fun w hw => ?_
    exact ⟨_, _, PH.le_trans k6 (PH.le_trans hle7 k7), ⟨_, hrep _ k7, rfl⟩, rfl, hw.weak fun F h => h.tail.tail⟩
end
theorem intsF_fuel : ∀ (f g : Nat) (sx : St), sx.s.length < f → sx.s.length < g → intsF f sx = intsF g sx := by
  intro f
  induction f with
  | zero => intro g sx h; omega
  | succ f ih =>
    intro g sx hf hg
    obtain ⟨g, rfl⟩ : ∃ k, g = k + 1 := ⟨g - 1, by omega⟩
    obtain ⟨h1, h2⟩ := signX_len 44 sx
    simp only [intsF]
    generalize hq : signX 44 sx = q at *
    obtain ⟨is, s1⟩ := q
    cases is with
    | false => rfl
    | true =>
      simp only
      have h3 : s1.s.length + 1 = sx.s.length := h2 rfl
      have h4 : (numX 999999999999999 s1).2.s.length ≤ s1.s.length := suf_len (numX_suf (List.suffix_refl _))
      rw [ih g _ (by omega) (by omega)]
theorem intsG_on {sx : St} (h : (signX 44 sx).1 = true) : intsG sx = ((numX 999999999999999 (signX 44 sx).2).1 :: (intsG (numX 999999999999999 (signX 44 sx).2).2).1, (intsG (numX 999999999999999 (signX 44 sx).2).2).2) := by
  have h3 := (signX_len 44 sx).2 h
  have h4 : (numX 999999999999999 (signX 44 sx).2).2.s.length ≤ (signX 44 sx).2.s.length := suf_len (numX_suf (List.suffix_refl _))
  unfold intsG
  rw [intsF_fuel ((numX 999999999999999 (signX 44 sx).2).2.s.length + 1) sx.s.length _ (by omega) (by omega)]
  simp only [intsF]
  generalize hq : signX 44 sx = q at *
  obtain ⟨is, s1⟩ := q
  simp only at h
  subst h
  rfl
theorem intsG_off {sx : St} (h : (signX 44 sx).1 = false) : intsG sx = ([], (signX 44 sx).2) := by
  unfold intsG
  simp only [intsF]
  generalize hq : signX 44 sx = q at *
  obtain ⟨is, s1⟩ := q
  simp only at h
  subst h
  rfl
theorem intsX_eq (sx : St) : intsX sx = ((numX 999999999999999 sx).1 :: (intsG (numX 999999999999999 sx).2).1, (intsG (numX 999999999999999 sx).2).2) := rfl
section
variable {w0 : World} {M : Nat → Prop} {σ : PH} {K : List HP}
theorem ints_x (S : Bs) (hS : S.length ≤ 100000) (w : World) (hw : Sat w0 M σ K w) :
    Calls Tryz.prog 70 #[.string (B S)] w fun e w' => ∃ v σ', PH.le σ σ' ∧ (∃ v1, RepL σ' v1 (intsX ⟨S, false⟩).1 ∧ v = .tuple (List.toArray [v1, .bool (endR (intsX ⟨S, false⟩).2)])) ∧ e = .returned v ∧ Sat w0 M σ' K w' := by
  have hp0 : posX S ⟨S, false⟩ = 0 := Nat.sub_self _
  have s0 : (⟨S, false⟩ : St).s <:+ S := List.suffix_refl S
  rw [intsX_eq]
  refine RS.enterK Tryz.func70 Tryz.ntmps70 rfl rfl hw ?_
  refine zN ?_; refine asL ?_; refine asB ?_; refine LS.done ?_
  refine zN ?_; refine mvS ?_; refine bld (vals := [(0, .string _)]) [_, _, _] ?_; refine box_ (v := .agg _) (cs := [_, _, _]) (fun b8 => ?_); refine asP ?_; refine LS.done ?_
  refine RS.to (K' := xdB b8 S ⟨S, false⟩ :: K) ?_ ⟨fun h => by unfold xdB; rw [hp0]; exact h⟩
  refine zN ?_; refine mvP ?_
  refine callQ (fun v _ => v = .int .i64 (numX 999999999999999 ⟨S, false⟩).1) (xdB b8 S (numX 999999999999999 ⟨S, false⟩).2 :: K) (fun v σ1 hle1 hq => ?_) (hc := fun w' hw => number_x S hS ⟨S, false⟩ s0 w' hw)
  subst hq
  have i0 := numX_in ⟨S, false⟩
  have s1 := numX_suf (S := S) (most := 999999999999999) (sx := ⟨S, false⟩) s0
  obtain ⟨x, hx⟩ : ∃ x, x = numX 999999999999999 ⟨S, false⟩ := ⟨_, rfl⟩
  rw [← hx] at i0 s1 ⊢
  have k0 := hle1
  refine bldS [.int .i64 x.1] [.int .i64 x.1] (fun b11 => ?_); refine LS.asRow (b := b11) (m := 1) (s := 1) inferInstance (fun h => h) rfl rfl (by omega) ?_; refine asL ?_; refine LS.done ?_
  refine RS.closeD 0 [x.1] FindR.head (CellsL.one_ (show Rep.rep _ [Value.int .i64 x.1] x.1 from ⟨rfl, i0⟩)) ?_
  have hl1 := suf_len s1
  refine zN ?_
  refine RS.loopF (X := Value × List Int × St × PH) 5 19 (fun z => (x.1 :: (intsG x.2).1, (intsG x.2).2) = (z.2.1 ++ (intsG z.2.2.1).1, (intsG z.2.2.1).2) ∧ z.2.1.length + z.2.2.1.s.length ≤ S.length + 1 ∧ z.2.2.1.s <:+ S ∧ PH.le σ1 z.2.2.2) (fun z => [(5, z.1)]) (fun z => z.2.2.2) (fun z => rowD 0 3 z.1 z.2.1 :: xdB b8 S z.2.2.1 :: K) (fun z => z.2.2.1.s.length) (.slice (some ⟨b11, 0, none⟩) 1 1, [x.1], x.2, σ1) ⟨rfl, by simp; omega, s1, PH.le_refl _⟩ ⟨rfl, trivial⟩ rfl ⟨fun h => h⟩ ?_
  rintro ⟨v5, l, q, σ2⟩ g ⟨h1, h2, h3, h4⟩ ih
  dsimp only at h1 h2 h3 h4
  obtain ⟨hl1, hl2⟩ := signX_len 44 q
  have hs1 := signX_suf 44 h3
  refine zN ?_; refine mvP ?_
  refine callQ (fun v _ => v = .bool (signX 44 q).1) (rowD 0 3 v5 l :: xdB b8 S (signX 44 q).2 :: K) (fun v8 σ3 hle3 hq3 => ?_) (hc := fun w' hw => (sign_x (K := _ :: K) 44 S hS q h3 w' (hw.front [_] [xdB b8 S q])).mono fun _ _ ⟨v, σ', h1, h2, h3, h4⟩ => ⟨v, σ', h1, h2, h3, h4.front [_] [_]⟩)
  subst hq3
  cases hc : (signX 44 q).1 with
  | true =>
    refine LS.done ?_
    refine zN ?_
    refine RS.condT ?_
    have hl3 := hl2 hc
    obtain ⟨q1, hq1⟩ : ∃ x, x = (signX 44 q).2 := ⟨_, rfl⟩
    have hn : (numX 999999999999999 q1).2.s.length ≤ q1.s.length := suf_len (numX_suf (List.suffix_refl _))
    have hn1 := numX_in q1
    have hcell : ∀ τ : PH, CellsL τ [Value.int .i64 (numX 999999999999999 q1).1] [(numX 999999999999999 q1).1] := fun τ => CellsL.one_ (show Rep.rep τ [Value.int .i64 (numX 999999999999999 q1).1] (numX 999999999999999 q1).1 from ⟨rfl, hn1⟩)
    rw [intsG_on hc] at h1
    rw [← hq1] at h1 hl3 hs1 ⊢
    refine zN ?_; refine mv (v := v5) ?_; refine mvP ?_
    refine callQ (fun v _ => v = .int .i64 (numX 999999999999999 q1).1) (rowD 0 3 v5 l :: xdB b8 S (numX 999999999999999 q1).2 :: K) (fun v16 σ4 hle4 hq4 => ?_) (hc := fun w' hw => (number_x (K := _ :: K) S hS q1 hs1 w' (hw.front [_] [xdB b8 S q1])).mono fun _ _ ⟨v, σ', h1, h2, h3, h4⟩ => ⟨v, σ', h1, h2, h3, h4.front [_] [_]⟩)
    subst hq4
    refine bldS [.int .i64 (numX 999999999999999 q1).1] [.int .i64 (numX 999999999999999 q1).1] (fun b17 => ?_); refine appD (v := v5) (l' := [(numX 999999999999999 q1).1]) (vy := .slice (some ⟨b17, 0, none⟩) 1 1) (fun w' hw => ⟨_, srcB hw TSlice.eq, hcell _⟩) (fun v18 => ?_) (hb := by simp; omega) (hm := by simp; omega); refine as_ (v := v18) ?_; refine LS.done ?_
    refine zN ?_
    exact ih (v18, l ++ [(numX 999999999999999 q1).1], (numX 999999999999999 q1).2, σ4) ⟨by rw [h1]; simp, by simp; omega, numX_suf hs1, PH.le_trans h4 (PH.le_trans hle3 hle4)⟩ (by dsimp only; omega) ⟨rfl, trivial⟩ (by repeat (first | with_reducible exact Out.refl _ _ _ | exact Out.hv | refine Out.upd ?_ | refine Out.hvIn ?_)) ⟨fun h => h.tail⟩ rfl
  | false =>
    refine LS.done ?_
    refine zN ?_
    refine RS.condF ?_
    rw [intsG_off hc] at h1
    simp only [List.append_nil, Prod.mk.injEq] at h1
    rw [h1.1, h1.2]
    refine RS.exit ?_
    refine RS.freeze0 (l := l) v5 (fun σ4 hle4 hr1 => ?_) (hl := by omega)
    obtain ⟨a5, c5, rfl⟩ := hr1.form
    have k4 := PH.le_trans k0 (PH.le_trans h4 (PH.le_trans hle3 hle4))
    obtain ⟨q1, hq1⟩ : ∃ x, x = (signX 44 q).2 := ⟨_, rfl⟩
    rw [← hq1] at hs1 ⊢
    obtain ⟨s, no⟩ := q1
    have he := endX hs1
    cases no with
    | true =>
      refine zD ?_; refine RS.drawG [(25, some false)] [.free, .free, .free, .free, .ex, .free, .free, .free, .free, .free, .free, .free, .free, .free, .free, .free, .free] (xdB b8 S ⟨s, true⟩ :: K) ?_ (by kernel_rfl) (by kernel_rfl) (by kernel_rfl) ⟨fun h => h⟩; simp only [ers, ersO, onOff, glook, nthO, List.map_cons, List.map_nil, Option.bind_some, Option.map_some, Nat.beq, cond_true, BEq.beq]; refine D.mvL ?_; refine D.mvP ?_; refine D.nilck ?_; refine D.fld ?_; refine D.ld1 (v := .bool _) ?_; refine D.not_ ?_; refine D.mvB ?_; refine D.as_ (v := undef) ?_; refine D.as_ (v := undef) ?_; refine D.as_ (v := undef) ?_; refine D.as_ (v := undef) ?_; refine D.as_ (v := undef) ?_; refine D.as_ (v := undef) ?_; refine D.as_ (v := undef) ?_; refine D.pk (v := .bool _) ?_; refine D.asL ?_; refine D.asB ?_; refine D.doneG [(25, some false)] ⟨⟨rfl, rfl⟩, trivial⟩ (fun us σ1 hle1 hfs => ?_)
      have k1 := hle1
      refine zN ?_; refine RS.ret2 (v := .slice _ _ _) (v' := .bool _) Tryz.func70 fun w hw => ?_
      exact ⟨_, _, PH.le_trans k4 k1, ⟨_, hr1.mono k1, rfl⟩, rfl, hw.weak fun F h => h.tail⟩
    | false =>
      refine zD ?_; refine RS.drawG [(25, some true)] [.free, .free, .free, .free, .ex, .free, .free, .free, .free, .free, .ex, .free, .free, .free, .free, .free, .free] (xdB b8 S ⟨s, false⟩ :: K) ?_ (by kernel_rfl) (by kernel_rfl) (by kernel_rfl) ⟨fun h => h⟩; simp only [ers, ersO, onOff, glook, nthO, List.map_cons, List.map_nil, Option.bind_some, Option.map_some, Nat.beq, cond_true, BEq.beq]; refine D.mvL ?_; refine D.mvP ?_; refine D.nilck ?_; refine D.fld ?_; refine D.ld1 (v := .bool _) ?_; refine D.not_ ?_; refine D.mvB ?_; refine D.mvP ?_; refine D.nilck ?_; refine D.fld ?_; refine D.ld1 (v := .int _ _) ?_; refine D.mvS ?_; refine D.lenS ?_; refine D.eqI ?_; rw [he]; refine D.pk (v := .bool _) ?_; refine D.asL ?_; refine D.asB ?_; refine D.doneG [(25, some true)] ⟨⟨rfl, rfl⟩, trivial⟩ (fun us σ1 hle1 hfs => ?_)
      have k1 := hle1
      refine zN ?_; refine RS.ret2 (v := .slice _ _ _) (v' := .bool _) Tryz.func70 fun w hw => ?_
      exact ⟨_, _, PH.le_trans k4 k1, ⟨_, hr1.mono k1, rfl⟩, rfl, hw.weak fun F h => h.tail⟩
end
end Go.Proofs.YtealabaiamaojaaGreatDoor
namespace Go.Proofs.YtealabaiamaojaaGreatDoor
open Go.JW Go.RowKit
def kinds8 : List ByteArray := [B [], B (verbT 1), B (verbT 2), B (verbT 3), B (verbT 4), B (verbT 5), B (verbT 6), B (verbT 7)]
theorem nth_kind (i : Nat) (h : i < 8) : nth (kinds8.map Value.string) (0 + i * 1) = some (.string (B (verbT i))) := by
  have : ∀ i : Fin 8, nth (kinds8.map Value.string) (0 + i.val * 1) = some (.string (B (verbT i.val))) := fun i => by
    match i with
    | ⟨0, _⟩ => rfl
    | ⟨1, _⟩ => rfl
    | ⟨2, _⟩ => rfl
    | ⟨3, _⟩ => rfl
    | ⟨4, _⟩ => rfl
    | ⟨5, _⟩ => rfl
    | ⟨6, _⟩ => rfl
    | ⟨7, _⟩ => rfl
  exact this ⟨i, h⟩
theorem kind_is {s : Bs} {k : Nat} (h1 : 1 ≤ k) (h8 : k < 8) (h : verbT k = s) : kindP s = k := by
  subst h; exact kind_verb ⟨k, h8⟩ (by show k ≠ 0; omega)
theorem kind_no {s : Bs} (h : ∀ k : Nat, 1 ≤ k → k < 8 → verbT k ≠ s) : kindP s = 0 := by
  have h1 := kindP_in s
  by_cases h0 : kindP s = 0
  · exact h0
  · obtain ⟨e, h2, h3⟩ := kind_back rfl h0
    have := h (kindP s).toNat (by omega) (by omega)
    rw [show (((kindP s).toNat : Nat) : Int) = kindP s by omega] at this
    exact absurd e.symm this
theorem kind_x (s : Bs) (w : World) : Calls Tryz.prog 66 #[.string (B s)] w fun e w' => e = .returned (.int .i64 (kindP s)) ∧ Below w.heap.size w w' := by
  refine RS.enter Tryz.func66 Tryz.ntmps66 rfl rfl ?_
  refine zN ?_; refine asI ?_; refine LS.done ?_
  refine zN ?_; refine bldS [.string _, .string _, .string _, .string _, .string _, .string _, .string _, .string _] [.string _, .string _, .string _, .string _, .string _, .string _, .string _, .string _] (fun b5 => ?_); refine asL ?_; refine LS.done ?_
  refine zN ?_; refine asI ?_; refine LS.done ?_
  refine zN ?_
  refine RS.loopF (X := Nat) 4 19 (fun k => 1 ≤ k ∧ k ≤ 8 ∧ ∀ i : Nat, 1 ≤ i → i < k → verbT i ≠ s) (fun k => [(4, .int .i64 k)]) (fun _ => hp w) (fun _ => [blk b5 (.cells (List.toArray (kinds8.map Value.string)) 9 (0, 0))]) (fun k => 8 - k) 1 ⟨by omega, by omega, fun i h1 h2 => by omega⟩ ⟨rfl, trivial⟩ rfl ⟨fun h => h⟩ ?_
  rintro k g ⟨hk1, hk, hs⟩ ih
  refine zN ?_; refine mvI ?_; refine mvL ?_; refine lenL ?_; refine ltI ?_; refine LS.done ?_
  refine zN ?_
  by_cases hlt : k < 8
  · refine RS.condT ?_ (h := by simp; omega)
    refine zN ?_; refine mvL ?_; refine mvI ?_; refine idx (i := k) ?_; refine ld1 (v := .string (B (verbT k))) ?_ (hv := nth_kind k hlt); refine mvS ?_; refine eqS ?_; refine LS.done ?_
    refine zN ?_
    refine RS.cond (fun z => ?_) (fun z => ?_)
    · have z : verbT k = s := B_inj.1 (of_decide_eq_true z)
      refine zN ?_; refine mvI ?_; refine asI ?_; refine LS.done ?_; refine zN ?_; refine RS.ret1 (v := .int _ _) Tryz.func66 fun w hw => ?_
      exact ⟨by rw [kind_is hk1 hlt z], hw.below⟩
    · have z : ¬ verbT k = s := fun e => of_decide_eq_false z (B_inj.2 e)
      refine zN ?_; refine mvI ?_; (first | refine addN ?_ | refine addI ?_); refine asI ?_; refine LS.done ?_; refine zN ?_
      exact ih (k + 1) ⟨by omega, hlt, fun i h1 hi => (Nat.lt_or_ge i k).elim (hs i h1) fun h => by rw [show i = k by omega]; exact z⟩ (by omega) ⟨rfl, trivial⟩ (by repeat (first | with_reducible exact Out.refl _ _ _ | exact Out.hv | refine Out.upd ?_ | refine Out.hvIn ?_)) ⟨fun h => h⟩ rfl
  · refine RS.condF ?_ (h := by simp; omega)
    refine zN ?_; refine asI ?_; refine LS.done ?_; refine zN ?_; refine RS.ret1 (v := .int _ _) Tryz.func66 fun w hw => ?_
    exact ⟨by rw [kind_no fun i h1 h2 => hs i h1 (by omega)], hw.below⟩
end Go.Proofs.YtealabaiamaojaaGreatDoor
namespace Go.Proofs.YtealabaiamaojaaGreatDoor
open Go.JW Go.RowKit
def wd (s : Bs) (a i : Nat) : Bs := (s.take i).drop a
theorem wd_len {s : Bs} {a i : Nat} (hi : i ≤ s.length) : (wd s a i).length = i - a := by unfold wd; rw [List.length_drop, List.length_take]; omega
theorem wd_end {s : Bs} {a : Nat} : wd s a s.length = s.drop a := by unfold wd; rw [List.take_length]
theorem wd_next {s : Bs} {a i : Nat} (ha : a ≤ i) (hi : i < s.length) : wd s a (i + 1) = wd s a i ++ [s[i]] := by
  unfold wd; rw [take_snoc s i hi, List.drop_append_of_le_length (by rw [List.length_take]; omega)]
theorem wd_split {s : Bs} {a i : Nat} (ha : a ≤ i) (hi : i < s.length) (h : s[i] = 32) : s.drop a = wd s a i ++ 32 :: s.drop (i + 1) := by
  have e : s = s.take i ++ 32 :: s.drop (i + 1) := by rw [← h, ← List.drop_eq_getElem_cons hi, List.take_append_drop]
  conv => lhs; rw [e]
  rw [List.drop_append_of_le_length (by rw [List.length_take]; omega)]; rfl
theorem words_none {s : Bs} {l r : List Bs} (h : splitB s = l ++ [] :: r) : wordsP s = [] := by
  unfold wordsP; rw [h, if_pos (by simp)]
theorem words_all {s : Bs} {l : List Bs} (h : splitB s = l) (hn : ∀ w ∈ l, w ≠ []) : wordsP s = l := by
  unfold wordsP
  rw [h, if_neg]
  rw [Bool.not_eq_true, List.any_eq_false]
  intro w hw
  have := hn w hw
  cases w with
  | nil => exact absurd rfl this
  | cons _ _ => simp
theorem words_x {w0 : World} {M : Nat → Prop} {σ : PH} {K : List HP} (s : Bs) (hs : s.length ≤ 90000) (w : World) (hw : Sat w0 M σ K w) : Calls Tryz.prog 47 #[.string (B s)] w fun e w' => ∃ v σ', PH.le σ σ' ∧ RepL σ' v ((wordsP s).map B) ∧ e = .returned v ∧ Sat w0 M σ' K w' := by
  refine RS.enterK Tryz.func47 Tryz.ntmps47 rfl rfl hw ?_
  refine zN ?_; refine asL ?_; refine LS.done ?_
  refine zN ?_; refine asL ?_; refine LS.done ?_
  refine zN ?_; refine asI ?_; refine LS.done ?_
  refine zN ?_; refine asI ?_; refine LS.done ?_
  refine zN ?_
  refine RS.nilD 0 ByteArray 9 ?_
  refine RS.loopF (X := Nat × Nat × Value × List Bs) 3 34 (fun x => (∀ w ∈ x.2.2.2, w ≠ []) ∧ x.2.2.2.length ≤ x.2.1 ∧ ((x.1 ≤ x.2.1 ∧ x.2.1 ≤ s.length ∧ splitB s = x.2.2.2 ++ splitB (s.drop x.1) ∧ ns (wd s x.1 x.2.1)) ∨ (x.2.1 = s.length + 1 ∧ splitB s = x.2.2.2))) (fun x => [(3, x.2.2.1), (4, .int .i64 x.1), (5, .int .i64 x.2.1)]) (fun _ => σ) (fun x => rowD 0 9 x.2.2.1 (x.2.2.2.map B) :: K) (fun x => s.length + 1 - x.2.1) (0, 0, nilV, []) ⟨by simp, by simp, .inl ⟨Nat.le_refl _, Nat.zero_le _, rfl, fun c h => by simp [wd] at h⟩⟩ ⟨rfl, rfl, rfl, trivial⟩ rfl ⟨fun h => h⟩ ?_
  rintro ⟨a, i, v3, l⟩ g ⟨h1, h2, h3⟩ ih
  dsimp only at h1 h2 h3
  refine zN ?_; refine mvI ?_; refine mvS ?_; refine lenS ?_; refine leI ?_; refine LS.done ?_
  refine zN ?_
  by_cases hlt : i ≤ s.length
  · refine RS.condT ?_ (h := by rw [B_size]; simp; omega)
    obtain ⟨h4, h5, h6, h7⟩ : a ≤ i ∧ i ≤ s.length ∧ splitB s = l ++ splitB (s.drop a) ∧ ns (wd s a i) := by
      rcases h3 with h | h
      · exact h
      · omega
    have hwi : IntKind.i64.wrap ((i : Int) + 1) = ((i + 1 : Nat) : Int) := by rw [wrapEq (by omega) (by omega)]; rfl
    refine zN ?_; refine mvI ?_; refine mvS ?_; refine lenS ?_; refine eqI ?_; refine mvB ?_
    by_cases hend : i = s.length
    · refine LS.part 16 (fun y => ?_) (fun y => ?_)
      rotate_left
      · exact absurd (show (i : Int) = ((B s).size : Nat) by rw [B_size]; omega) (of_decide_eq_false y)
      refine LS.off ?_; refine LS.off ?_; refine LS.off ?_; refine LS.off ?_; refine pk (v := .bool _) ?_; refine LS.done ?_
      refine zN ?_
      refine RS.condT ?_
      have hsp : splitB (s.drop a) = [wd s a i] := by rw [hend] at h7 ⊢; rw [wd_end] at h7 ⊢; exact split_one h7
      refine zN ?_; refine mvI ?_; refine mvI ?_; refine eqI ?_; refine LS.done ?_
      refine zN ?_
      refine RS.cond (fun z => ?_) (fun z => ?_)
      · have z : i = a := Int.ofNat_inj.1 (of_decide_eq_true z)
        have e : wd s a i = [] := List.eq_nil_of_length_eq_zero (by rw [wd_len h5]; omega)
        refine zN ?_; refine asL ?_; refine LS.done ?_; refine zN ?_; refine RS.ret1 (v := .slice _ _ _) Tryz.func47 fun w hw => ?_
        rw [e] at hsp
        rw [words_none (h6.trans (congrArg (l ++ ·) hsp))]
        exact ⟨_, σ, PH.le_refl _, RepL.nil _ _ _, rfl, hw.weak fun F h => h.tail⟩
      have z : ¬ i = a := fun e => of_decide_eq_false z (congrArg Int.ofNat e)
      have hne : wd s a i ≠ [] := fun e => by have := congrArg List.length e; rw [wd_len h5] at this; simp at this; omega
      have hcell := strCells (x := B (wd s a i)) (by rw [B_size, wd_len h5]; omega)
      refine zN ?_; refine mv (v := v3) ?_; refine mvS ?_; refine mvI ?_; refine mvI ?_; refine slcMid (u := s) a i ?_; refine bldS [.string (B (wd s a i))] [.string (B (wd s a i))] (fun b30 => ?_); refine appD (v := v3) (l' := [B (wd s a i)]) (vy := .slice (some ⟨b30, 0, none⟩) 1 1) (fun w' hw => ⟨_, srcB hw TSlice.eq, hcell _⟩) (fun v31 => ?_) (hb := by simp; omega) (hm := by simp; omega); refine as_ (v := v31) ?_; refine LS.done ?_
      refine zN ?_; refine mvI ?_; (first | refine addN ?_ | refine addI ?_); refine asI ?_; refine LS.done ?_
      refine zN ?_; refine mvI ?_; (first | refine addN ?_ | refine addI ?_); refine asI ?_; refine LS.done ?_
      refine zN ?_
      have hn' : ∀ w ∈ l ++ [wd s a i], w ≠ [] := fun w hw => (List.mem_append.1 hw).elim (h1 w) fun h => by rw [List.mem_singleton.1 h]; exact hne
      exact ih (i + 1, i + 1, v31, l ++ [wd s a i]) ⟨hn', by simp; omega, .inr ⟨by show i + 1 = _; omega, by rw [h6, hsp]⟩⟩ (by (try dsimp only); omega) ⟨rfl, intV hwi, intV hwi, trivial⟩ (by repeat (first | with_reducible exact Out.refl _ _ _ | exact Out.hv | refine Out.upd ?_ | refine Out.hvIn ?_)) ⟨fun h => by simp only [List.map_append, List.map_cons, List.map_nil]; exact h.tail⟩ rfl
    · have hilt : i < s.length := by omega
      obtain ⟨c, hc⟩ : ∃ c, c = s[i] := ⟨_, rfl⟩
      have hd : s[i]? = some c := by rw [hc]; exact List.getElem?_eq_getElem hilt
      refine LS.part 16 (fun y => ?_) (fun y => ?_)
      · exact absurd (show (i : Int) = ((B s).size : Nat) from of_decide_eq_true y) (by rw [B_size]; omega)
      refine LS.on ?_; refine mvS ?_; refine LS.on ?_; refine mvI ?_; refine LS.on ?_; refine byteT (u := s) i c ?_ hd; refine LS.on ?_; refine eqI ?_; refine pk (v := .bool _) ?_; refine LS.done ?_
      refine zN ?_
      refine RS.cond (fun y2 => ?_) (fun y2 => ?_)
      · have y2 : c = 32 := UInt8.toNat_inj.1 (Int.ofNat_inj.1 (of_decide_eq_true y2))
        have hsp : splitB (s.drop a) = wd s a i :: splitB (s.drop (i + 1)) := by rw [wd_split h4 hilt (by rw [← hc]; exact y2)]; exact split_word h7
        refine zN ?_; refine mvI ?_; refine mvI ?_; refine eqI ?_; refine LS.done ?_
        refine zN ?_
        refine RS.cond (fun z => ?_) (fun z => ?_)
        · have z : i = a := Int.ofNat_inj.1 (of_decide_eq_true z)
          have e : wd s a i = [] := List.eq_nil_of_length_eq_zero (by rw [wd_len h5]; omega)
          refine zN ?_; refine asL ?_; refine LS.done ?_; refine zN ?_; refine RS.ret1 (v := .slice _ _ _) Tryz.func47 fun w hw => ?_
          rw [e] at hsp
          rw [words_none (h6.trans (congrArg (l ++ ·) hsp))]
          exact ⟨_, σ, PH.le_refl _, RepL.nil _ _ _, rfl, hw.weak fun F h => h.tail⟩
        have z : ¬ i = a := fun e => of_decide_eq_false z (congrArg Int.ofNat e)
        have hne : wd s a i ≠ [] := fun e => by have := congrArg List.length e; rw [wd_len h5] at this; simp at this; omega
        have hcell := strCells (x := B (wd s a i)) (by rw [B_size, wd_len h5]; omega)
        refine zN ?_; refine mv (v := v3) ?_; refine mvS ?_; refine mvI ?_; refine mvI ?_; refine slcMid (u := s) a i ?_; refine bldS [.string (B (wd s a i))] [.string (B (wd s a i))] (fun b30 => ?_); refine appD (v := v3) (l' := [B (wd s a i)]) (vy := .slice (some ⟨b30, 0, none⟩) 1 1) (fun w' hw => ⟨_, srcB hw TSlice.eq, hcell _⟩) (fun v31 => ?_) (hb := by simp; omega) (hm := by simp; omega); refine as_ (v := v31) ?_; refine LS.done ?_
        refine zN ?_; refine mvI ?_; (first | refine addN ?_ | refine addI ?_); refine asI ?_; refine LS.done ?_
        refine zN ?_; refine mvI ?_; (first | refine addN ?_ | refine addI ?_); refine asI ?_; refine LS.done ?_
        refine zN ?_
        have hn' : ∀ w ∈ l ++ [wd s a i], w ≠ [] := fun w hw => (List.mem_append.1 hw).elim (h1 w) fun h => by rw [List.mem_singleton.1 h]; exact hne
        exact ih (i + 1, i + 1, v31, l ++ [wd s a i]) ⟨hn', by simp; omega, .inl ⟨Nat.le_refl _, hilt, by rw [h6, hsp]; simp, fun d hd => by rw [show wd s (i + 1) (i + 1) = [] from List.eq_nil_of_length_eq_zero (by rw [wd_len hilt]; omega)] at hd; cases hd⟩⟩ (by (try dsimp only); omega) ⟨rfl, intV hwi, intV hwi, trivial⟩ (by repeat (first | with_reducible exact Out.refl _ _ _ | exact Out.hv | refine Out.upd ?_ | refine Out.hvIn ?_)) ⟨fun h => by simp only [List.map_append, List.map_cons, List.map_nil]; exact h.tail⟩ rfl
      · have y2 : ¬ c = 32 := fun e => by rw [e] at y2; simp at y2
        refine zN ?_; refine mvI ?_; (first | refine addN ?_ | refine addI ?_); refine asI ?_; refine LS.done ?_
        refine zN ?_
        exact ih (a, i + 1, v3, l) ⟨h1, by (try dsimp only); omega, .inl ⟨by (try dsimp only); omega, hilt, h6, fun d hd => by rw [wd_next h4 hilt] at hd; rcases List.mem_append.1 hd with hd | hd; exact h7 d hd; rw [List.mem_singleton.1 hd, ← hc]; exact y2⟩⟩ (by (try dsimp only); omega) ⟨rfl, rfl, intV hwi, trivial⟩ (by repeat (first | with_reducible exact Out.refl _ _ _ | exact Out.hv | refine Out.upd ?_ | refine Out.hvIn ?_)) ⟨fun h => h⟩ rfl
  · refine RS.condF ?_ (h := by rw [B_size]; simp; omega)
    have h6 : splitB s = l := by
      rcases h3 with h | h
      · omega
      · exact h.2
    rw [words_all h6 h1]
    refine zN ?_
    refine LS.freeze0 (l := l.map B) v3 (fun σ1 hle1 hr1 => ?_) (hl := by rw [List.length_map]; omega)
    obtain ⟨a5, c5, rfl⟩ := hr1.form
    refine mvL ?_; refine asL ?_; refine LS.done ?_; refine zN ?_; refine RS.ret1 (v := .slice _ _ _) Tryz.func47 fun w hw => ?_
    exact ⟨_, σ1, hle1, hr1, rfl, hw⟩
end Go.Proofs.YtealabaiamaojaaGreatDoor
namespace Go.Proofs.YtealabaiamaojaaGreatDoor
open Go.JW Go.RowKit
instance : DecidableEq PlaceD := fun a b => decidable_of_iff (a.pod = b.pod ∧ a.node = b.node ∧ a.cpu = b.cpu ∧ a.mem = b.mem ∧ a.alone = b.alone) (by
  obtain ⟨_, _, _, _, _⟩ := a
  obtain ⟨_, _, _, _, _⟩ := b
  simp)
instance : DecidableEq NodeD := fun a b => decidable_of_iff (a.name = b.name ∧ a.cpu = b.cpu ∧ a.mem = b.mem ∧ a.marks = b.marks ∧ a.taints = b.taints ∧ a.closed = b.closed) (by
  obtain ⟨_, _, _, _, _, _⟩ := a
  obtain ⟨_, _, _, _, _, _⟩ := b
  simp)
instance : DecidableEq RecD := fun a b => decidable_of_iff (a.kind = b.kind ∧ a.gang = b.gang ∧ a.peers = b.peers ∧ a.places = b.places ∧ a.node = b.node) (by
  obtain ⟨_, _, _, _, _⟩ := a
  obtain ⟨_, _, _, _, _⟩ := b
  simp)
theorem take_get {α : Type} {l l' : List α} {i : Nat} (h : i < l.length) (h' : i < l'.length) (e : l.take i = l'.take i) (he : l[i] = l'[i]) : l.take (i + 1) = l'.take (i + 1) := by
  rw [List.take_add_one, List.take_add_one, e, List.getElem?_eq_getElem h, List.getElem?_eq_getElem h', he]
theorem rowPlace {σ : PH} {b o : Nat} {l : List PlaceD} (h : RowAt σ b o l) (i : Nat) (hi : i < l.length) : (∀ j, j < 5 → σ.cell b (o + i * 5 + j) = (placeC l[i])[j]?) ∧ I64 l[i].cpu ∧ I64 l[i].mem := by
  obtain ⟨vs, h1, h2⟩ := h i hi
  obtain ⟨rfl, _, _, h3, h4⟩ := h2
  exact ⟨h1, h3, h4⟩
theorem strRow {σ : PH} {b o : Nat} {l : List ByteArray} (h : RowAt σ b o l) (i : Nat) (hi : i < l.length) : σ.cell b (o + i * 1) = some (.string l[i]) := (h.str i hi).1
theorem intRow {σ : PH} {b o : Nat} {l : List Int} (h : RowAt σ b o l) (i : Nat) (hi : i < l.length) : σ.cell b (o + i * 1) = some (.int .i64 l[i]) := (h.int i hi).1
theorem placeRow {σ : PH} {b o : Nat} {l : List PlaceD} (h : RowAt σ b o l) (i : Nat) (hi : i < l.length) : ∀ j, j < 5 → σ.cell b (o + i * 5 + j) = (placeC l[i])[j]? := (rowPlace h i hi).1
theorem eq_vecD (d : Nat) (c m c' m' : Int) (w : World) : (Op.equalIn (d + 2) 28 (.agg (List.toArray [.int .i64 c, .int .i64 m])) (.agg (List.toArray [.int .i64 c', .int .i64 m']))).run Tryz.prog w = .ok (c == c' && m == m') w := by
  have ht : Tryz.prog.underlying 28 = some (.struct (Tryz.prog.fieldsOf 28)) := by kernel_rfl
  have hf : (Tryz.prog.fieldsOf 28).toList = [⟨"Cpu", 3, 0, false, "", "", 0⟩, ⟨"Mem", 3, 1, false, "", "", 8⟩] := by kernel_rfl
  have hi : Tryz.prog.underlying 3 = some (.int .i64) := TInt.eq
  have hag := fun w => run_agg (P := Tryz.prog) (t := 3) w TOne.agg
  rw [run_equalIn_agg w (d + 1) _ _ _ ht (by kernel_rfl), hf]
  simp [Op.eqFields, part, hag, run_equalIn_int _ d 3 .i64 .i64 _ _ hi]
  by_cases h : c = c' <;> by_cases h2 : m = m' <;> simp [h, h2]
theorem eq_placeB (p q : PlaceD) (w : World) : (Op.equalIn 10000 37 (.agg (List.toArray (placeC p))) (.agg (List.toArray (placeC q)))).run Tryz.prog w = .ok (decide (p = q)) w := by
  have ht : Tryz.prog.underlying 37 = some (.struct (Tryz.prog.fieldsOf 37)) := by kernel_rfl
  have hf : (Tryz.prog.fieldsOf 37).toList = [⟨"Pod", 9, 0, false, "", "", 0⟩, ⟨"Node", 9, 1, false, "", "", 16⟩, ⟨"Need", 28, 2, false, "", "", 32⟩, ⟨"Alone", 4, 4, false, "", "", 48⟩] := by kernel_rfl
  have hs : Tryz.prog.underlying 9 = some .string := TStr.eq
  have hb : Tryz.prog.underlying 4 = some .bool := TBool.eq
  have hss : ∀ (a b : ByteArray) (w : World), (Op.equalIn 9999 9 (.string a) (.string b)).run Tryz.prog w = .ok (decide (a = b)) w := fun a b w => (run_equalIn_string w 9998 9 a b hs).trans (by rw [str_beq])
  have h1 := fun w => run_agg (P := Tryz.prog) (t := 9) w TOne.agg
  have h2 := fun w => run_agg (P := Tryz.prog) (t := 4) w TOne.agg
  have h3 := fun w => run_agg (P := Tryz.prog) (t := 28) w TAgg.agg
  have h4 := fun w => run_sz (P := Tryz.prog) (t := 28) w TSz.eq
  obtain ⟨p1, p2, p3, p4, p5⟩ := p
  obtain ⟨q1, q2, q3, q4, q5⟩ := q
  have h5 := eq_vecD 9997 p3 p4 q3 q4
  rw [run_equalIn_agg w 9999 _ _ _ ht (by kernel_rfl), hf]
  simp [Op.eqFields, part, h1, h2, h3, h4, placeC, hss, run_equalIn_bool' _ 9998 4 _ _ hb, h5]
  by_cases e1 : p1 = q1 <;> by_cases e2 : p2 = q2 <;> by_cases e3 : p3 = q3 <;> by_cases e4 : p4 = q4 <;> by_cases e5 : p5 = q5 <;> simp [e1, e2, e3, e4, e5]
theorem ints_b (v v' : Value) (l l' : List Int) (w : World) (h : RepL (hp w) v l) (h' : RepL (hp w) v' l') : Calls Tryz.prog 37 #[v, v'] w fun e w' => e = .returned (.bool (decide (l = l'))) ∧ Below w.heap.size w w' := by
  obtain ⟨a, c, rfl⟩ := h.form
  obtain ⟨a', c', rfl⟩ := h'.form
  have hlen : l.length ≤ 140737488355328 := h.1
  have hlen' : l'.length ≤ 140737488355328 := h'.1
  refine RS.enter Tryz.func37 Tryz.ntmps37 rfl rfl ?_
  refine zN ?_; refine asB ?_; refine LS.done ?_
  refine zN ?_; refine mvL ?_; refine lenL ?_; refine mvL ?_; refine lenL ?_; refine neI ?_; refine LS.done ?_
  refine zN ?_; refine RS.cond (fun z => ?_) (fun z => ?_)
  · have z : ¬ l = l' := fun e => by subst e; simp at z
    refine zN ?_; refine asB ?_; refine LS.done ?_; refine zN ?_; refine RS.ret1 (v := .bool _) Tryz.func37 fun w hw => ?_
    exact ⟨by rw [decide_eq_false z], hw.below⟩
  have hll : l.length = l'.length := by simp at z; omega
  refine zN ?_; refine asI ?_; refine LS.done ?_
  refine zN ?_
  refine RS.loopF (X := Nat) 5 99 (fun x => x ≤ l.length ∧ l.take x = l'.take x) (fun x => [(5, .int .i64 x)]) (fun _ => hp w) (fun _ => []) (fun x => l.length - x) 0 ⟨Nat.zero_le _, rfl⟩ ⟨rfl, trivial⟩ rfl ⟨fun _ => trivial⟩ ?_
  rintro i g ⟨hi, ht⟩ ih
  refine zN ?_; refine mvI ?_; refine mvL ?_; refine lenL ?_; refine ltI ?_; refine LS.done ?_
  refine zN ?_
  by_cases hlt : i < l.length
  · refine RS.condT ?_ (h := by simp; omega)
    have hlt' : i < l'.length := by omega
    obtain ⟨b, o, rfl, hrow⟩ := h.addr (List.ne_nil_of_length_pos (by omega))
    obtain ⟨b', o', rfl, hrow'⟩ := h'.addr (List.ne_nil_of_length_pos (by omega))
    have hc := intRow hrow i hlt
    have hc' := intRow hrow' i hlt'
    refine zN ?_; refine mvL ?_; refine mvI ?_; refine idx (i := i) ?_; refine ldS hc ?_; refine mvL ?_; refine mvI ?_; refine idx (i := i) ?_; refine ldS hc' ?_; refine neI ?_; refine LS.done ?_
    refine zN ?_; refine RS.cond (fun z => ?_) (fun z => ?_)
    · have z : ¬ l[i] = l'[i] := by simpa using z
      refine zN ?_; refine asB ?_; refine LS.done ?_; refine zN ?_; refine RS.ret1 (v := .bool _) Tryz.func37 fun w hw => ?_
      exact ⟨by rw [decide_eq_false (fun e => z (by simp only [e]))], hw.below⟩
    have z : l[i] = l'[i] := Classical.byContradiction fun hne => absurd z (by simp [hne])
    refine zN ?_; refine mvI ?_; (first | refine addN ?_ | refine addI ?_); refine asI ?_; refine LS.done ?_; refine zN ?_
    exact ih (i + 1) ⟨hlt, take_get hlt hlt' ht z⟩ (by omega) ⟨rfl, trivial⟩ (by repeat (first | with_reducible exact Out.refl _ _ _ | exact Out.hv | refine Out.upd ?_ | refine Out.hvIn ?_)) ⟨fun h => h⟩ rfl
  · refine RS.condF ?_ (h := by simp; omega)
    refine zN ?_; refine asB ?_; refine LS.done ?_; refine zN ?_; refine RS.ret1 (v := .bool _) Tryz.func37 fun w hw => ?_
    have e : l = l' := by
      rw [show i = l.length by omega, List.take_length, hll, List.take_length] at ht; exact ht
    exact ⟨by rw [decide_eq_true e], hw.below⟩
theorem strs_b (v v' : Value) (l l' : List ByteArray) (w : World) (h : RepL (hp w) v l) (h' : RepL (hp w) v' l') : Calls Tryz.prog 23 #[v, v'] w fun e w' => e = .returned (.bool (decide (l = l'))) ∧ Below w.heap.size w w' := by
  obtain ⟨a, c, rfl⟩ := h.form
  obtain ⟨a', c', rfl⟩ := h'.form
  have hlen : l.length ≤ 140737488355328 := h.1
  have hlen' : l'.length ≤ 140737488355328 := h'.1
  refine RS.enter Tryz.func23 Tryz.ntmps23 rfl rfl ?_
  refine zN ?_; refine asB ?_; refine LS.done ?_
  refine zN ?_; refine mvL ?_; refine lenL ?_; refine mvL ?_; refine lenL ?_; refine neI ?_; refine LS.done ?_
  refine zN ?_; refine RS.cond (fun z => ?_) (fun z => ?_)
  · have z : ¬ l = l' := fun e => by subst e; simp at z
    refine zN ?_; refine asB ?_; refine LS.done ?_; refine zN ?_; refine RS.ret1 (v := .bool _) Tryz.func23 fun w hw => ?_
    exact ⟨by rw [decide_eq_false z], hw.below⟩
  have hll : l.length = l'.length := by simp at z; omega
  refine zN ?_; refine asI ?_; refine LS.done ?_
  refine zN ?_
  refine RS.loopF (X := Nat) 5 99 (fun x => x ≤ l.length ∧ l.take x = l'.take x) (fun x => [(5, .int .i64 x)]) (fun _ => hp w) (fun _ => []) (fun x => l.length - x) 0 ⟨Nat.zero_le _, rfl⟩ ⟨rfl, trivial⟩ rfl ⟨fun _ => trivial⟩ ?_
  rintro i g ⟨hi, ht⟩ ih
  refine zN ?_; refine mvI ?_; refine mvL ?_; refine lenL ?_; refine ltI ?_; refine LS.done ?_
  refine zN ?_
  by_cases hlt : i < l.length
  · refine RS.condT ?_ (h := by simp; omega)
    have hlt' : i < l'.length := by omega
    obtain ⟨b, o, rfl, hrow⟩ := h.addr (List.ne_nil_of_length_pos (by omega))
    obtain ⟨b', o', rfl, hrow'⟩ := h'.addr (List.ne_nil_of_length_pos (by omega))
    have hc := strRow hrow i hlt
    have hc' := strRow hrow' i hlt'
    refine zN ?_; refine mvL ?_; refine mvI ?_; refine idx (i := i) ?_; refine ldS hc ?_; refine mvL ?_; refine mvI ?_; refine idx (i := i) ?_; refine ldS hc' ?_; refine neS ?_; refine LS.done ?_
    refine zN ?_; refine RS.cond (fun z => ?_) (fun z => ?_)
    · have z : ¬ l[i] = l'[i] := by simpa using z
      refine zN ?_; refine asB ?_; refine LS.done ?_; refine zN ?_; refine RS.ret1 (v := .bool _) Tryz.func23 fun w hw => ?_
      exact ⟨by rw [decide_eq_false (fun e => z (by simp only [e]))], hw.below⟩
    have z : l[i] = l'[i] := Classical.byContradiction fun hne => absurd z (by simp [hne])
    refine zN ?_; refine mvI ?_; (first | refine addN ?_ | refine addI ?_); refine asI ?_; refine LS.done ?_; refine zN ?_
    exact ih (i + 1) ⟨hlt, take_get hlt hlt' ht z⟩ (by omega) ⟨rfl, trivial⟩ (by repeat (first | with_reducible exact Out.refl _ _ _ | exact Out.hv | refine Out.upd ?_ | refine Out.hvIn ?_)) ⟨fun h => h⟩ rfl
  · refine RS.condF ?_ (h := by simp; omega)
    refine zN ?_; refine asB ?_; refine LS.done ?_; refine zN ?_; refine RS.ret1 (v := .bool _) Tryz.func23 fun w hw => ?_
    have e : l = l' := by
      rw [show i = l.length by omega, List.take_length, hll, List.take_length] at ht; exact ht
    exact ⟨by rw [decide_eq_true e], hw.below⟩
theorem places_b (v v' : Value) (l l' : List PlaceD) (w : World) (h : RepL (hp w) v l) (h' : RepL (hp w) v' l') : Calls Tryz.prog 38 #[v, v'] w fun e w' => e = .returned (.bool (decide (l = l'))) ∧ Below w.heap.size w w' := by
  obtain ⟨a, c, rfl⟩ := h.form
  obtain ⟨a', c', rfl⟩ := h'.form
  have hlen : l.length ≤ 140737488355328 := h.1
  have hlen' : l'.length ≤ 140737488355328 := h'.1
  refine RS.enter Tryz.func38 Tryz.ntmps38 rfl rfl ?_
  refine zN ?_; refine asB ?_; refine LS.done ?_
  refine zN ?_; refine mvL ?_; refine lenL ?_; refine mvL ?_; refine lenL ?_; refine neI ?_; refine LS.done ?_
  refine zN ?_; refine RS.cond (fun z => ?_) (fun z => ?_)
  · have z : ¬ l = l' := fun e => by subst e; simp at z
    refine zN ?_; refine asB ?_; refine LS.done ?_; refine zN ?_; refine RS.ret1 (v := .bool _) Tryz.func38 fun w hw => ?_
    exact ⟨by rw [decide_eq_false z], hw.below⟩
  have hll : l.length = l'.length := by simp at z; omega
  refine zN ?_; refine asI ?_; refine LS.done ?_
  refine zN ?_
  refine RS.loopF (X := Nat) 5 99 (fun x => x ≤ l.length ∧ l.take x = l'.take x) (fun x => [(5, .int .i64 x)]) (fun _ => hp w) (fun _ => []) (fun x => l.length - x) 0 ⟨Nat.zero_le _, rfl⟩ ⟨rfl, trivial⟩ rfl ⟨fun _ => trivial⟩ ?_
  rintro i g ⟨hi, ht⟩ ih
  refine zN ?_; refine mvI ?_; refine mvL ?_; refine lenL ?_; refine ltI ?_; refine LS.done ?_
  refine zN ?_
  by_cases hlt : i < l.length
  · refine RS.condT ?_ (h := by simp; omega)
    have hlt' : i < l'.length := by omega
    obtain ⟨b, o, rfl, hrow⟩ := h.addr (List.ne_nil_of_length_pos (by omega))
    obtain ⟨b', o', rfl, hrow'⟩ := h'.addr (List.ne_nil_of_length_pos (by omega))
    have hc := placeRow hrow i hlt
    have hc' := placeRow hrow' i hlt'
    refine zN ?_; refine mvL ?_; refine mvI ?_; refine idx (i := i) ?_; refine ldSA (vs := placeC _) rfl hc ?_; refine mvL ?_; refine mvI ?_; refine idx (i := i) ?_; refine ldSA (vs := placeC _) rfl hc' ?_; refine neqA (b := decide (l[i] = l'[i])) (us1 := placeC l[i]) (us2 := placeC l'[i]) (eq_placeB _ _) (by kernel_rfl) ?_; refine LS.done ?_
    refine zN ?_; refine RS.cond (fun z => ?_) (fun z => ?_)
    · have z : ¬ l[i] = l'[i] := by simpa using z
      refine zN ?_; refine asB ?_; refine LS.done ?_; refine zN ?_; refine RS.ret1 (v := .bool _) Tryz.func38 fun w hw => ?_
      exact ⟨by rw [decide_eq_false (fun e => z (by simp only [e]))], hw.below⟩
    have z : l[i] = l'[i] := Classical.byContradiction fun hne => absurd z (by simp [hne])
    refine zN ?_; refine mvI ?_; (first | refine addN ?_ | refine addI ?_); refine asI ?_; refine LS.done ?_; refine zN ?_
    exact ih (i + 1) ⟨hlt, take_get hlt hlt' ht z⟩ (by omega) ⟨rfl, trivial⟩ (by repeat (first | with_reducible exact Out.refl _ _ _ | exact Out.hv | refine Out.upd ?_ | refine Out.hvIn ?_)) ⟨fun h => h⟩ rfl
  · refine RS.condF ?_ (h := by simp; omega)
    refine zN ?_; refine asB ?_; refine LS.done ?_; refine zN ?_; refine RS.ret1 (v := .bool _) Tryz.func38 fun w hw => ?_
    have e : l = l' := by
      rw [show i = l.length by omega, List.take_length, hll, List.take_length] at ht; exact ht
    exact ⟨by rw [decide_eq_true e], hw.below⟩
theorem nsame_b (n m : NodeD) (a1 a2 a3 a4 : Option Addr) (c1 c2 c3 c4 : Nat) (w : World) (h : Rep.rep (hp w) (nodeC n (.slice a1 n.marks.length c1) (.slice a2 n.taints.length c2)) n) (h' : Rep.rep (hp w) (nodeC m (.slice a3 m.marks.length c3) (.slice a4 m.taints.length c4)) m) :
    Calls Tryz.prog 39 #[.agg (List.toArray (nodeC n (.slice a1 n.marks.length c1) (.slice a2 n.taints.length c2))), .agg (List.toArray (nodeC m (.slice a3 m.marks.length c3) (.slice a4 m.taints.length c4)))] w fun e w' => e = .returned (.bool (decide (n = m))) ∧ Below w.heap.size w w' := by
  obtain ⟨_, _, hcs, _, _, _, hm1, ht1⟩ := h
  simp only [nodeC, List.cons.injEq, true_and, and_true] at hcs
  obtain ⟨rfl, rfl, _⟩ := hcs
  obtain ⟨_, _, hcs, _, _, _, hm2, ht2⟩ := h'
  simp only [nodeC, List.cons.injEq, true_and, and_true] at hcs
  obtain ⟨rfl, rfl, _⟩ := hcs
  have key : ∀ z, (n = m ↔ z = true) → decide (n = m) = z := fun z h => by cases z <;> simp_all
  refine RS.enter Tryz.func39 Tryz.ntmps39 rfl rfl ?_
  refine zN ?_; refine box_ (v := .agg _) (cs := [_, _, _, _, _, _]) (fun b2 => ?_); refine box_ (v := .agg _) (cs := [_, _, _, _, _, _]) (fun b3 => ?_); refine asB ?_; refine LS.done ?_
  refine zN ?_
  by_cases e1 : n.name = m.name
  rotate_left
  · rw [decide_eq_false (fun e => e1 (by rw [e]))]
    refine fld ?_; refine ld1 (v := .string _) ?_; refine fld ?_; refine ld1 (v := .string _) ?_; refine eqS ?_; rw [decide_eq_false e1]; refine mvB ?_; refine LS.off ?_; refine LS.off ?_; refine LS.off ?_; refine LS.off ?_; refine LS.off ?_; refine pk (v := .bool _) ?_; refine mvB ?_; refine LS.off ?_; refine LS.off ?_; refine LS.off ?_; refine LS.off ?_; refine LS.off ?_; refine pk (v := .bool _) ?_; refine mvB ?_; refine LS.off ?_; refine LS.off ?_; refine LS.off ?_; refine LS.off ?_; refine LS.off ?_; refine pk (v := .bool _) ?_; refine mvB ?_; refine LS.off ?_; refine LS.off ?_; refine LS.off ?_; refine LS.off ?_; refine LS.off ?_; refine pk (v := .bool _) ?_; refine asB ?_; refine LS.done ?_
    refine zN ?_; refine RS.ret1 (v := .bool _) Tryz.func39 fun w hw => ?_
    exact ⟨rfl, hw.below⟩
  by_cases e2 : n.cpu = m.cpu ∧ n.mem = m.mem
  rotate_left
  · rw [decide_eq_false (fun e => e2 (by rw [e]; exact ⟨rfl, rfl⟩))]
    refine fld ?_; refine ld1 (v := .string _) ?_; refine fld ?_; refine ld1 (v := .string _) ?_; refine eqS ?_; rw [decide_eq_true e1]; refine mvB ?_; refine LS.on ?_; refine fld ?_; refine LS.on ?_; refine ldA [_, _] ?_; refine LS.on ?_; refine fld ?_; refine LS.on ?_; refine ldA [_, _] ?_; refine LS.on ?_; refine eqA (b := false) (us1 := [.int .i64 n.cpu, .int .i64 n.mem]) (us2 := [.int .i64 m.cpu, .int .i64 m.mem]) (fun w => by rw [eq_vec]; simp only [not_and] at e2; by_cases h : n.cpu = m.cpu <;> simp [h] <;> exact e2 h) (by kernel_rfl) ?_; refine pk (v := .bool _) ?_; refine mvB ?_; refine LS.off ?_; refine LS.off ?_; refine LS.off ?_; refine LS.off ?_; refine LS.off ?_; refine pk (v := .bool _) ?_; refine mvB ?_; refine LS.off ?_; refine LS.off ?_; refine LS.off ?_; refine LS.off ?_; refine LS.off ?_; refine pk (v := .bool _) ?_; refine mvB ?_; refine LS.off ?_; refine LS.off ?_; refine LS.off ?_; refine LS.off ?_; refine LS.off ?_; refine pk (v := .bool _) ?_; refine asB ?_; refine LS.done ?_
    refine zN ?_; refine RS.ret1 (v := .bool _) Tryz.func39 fun w hw => ?_
    exact ⟨rfl, hw.below⟩
  by_cases e3 : n.closed = m.closed
  rotate_left
  · rw [decide_eq_false (fun e => e3 (by rw [e]))]
    refine fld ?_; refine ld1 (v := .string _) ?_; refine fld ?_; refine ld1 (v := .string _) ?_; refine eqS ?_; rw [decide_eq_true e1]; refine mvB ?_; refine LS.on ?_; refine fld ?_; refine LS.on ?_; refine ldA [_, _] ?_; refine LS.on ?_; refine fld ?_; refine LS.on ?_; refine ldA [_, _] ?_; refine LS.on ?_; refine eqA (b := true) (us1 := [.int .i64 n.cpu, .int .i64 n.mem]) (us2 := [.int .i64 m.cpu, .int .i64 m.mem]) (fun w => by rw [eq_vec, e2.1, e2.2]; simp) (by kernel_rfl) ?_; refine pk (v := .bool _) ?_; refine mvB ?_; refine LS.on ?_; refine fld ?_; refine LS.on ?_; refine ld1 (v := .bool _) ?_; refine LS.on ?_; refine fld ?_; refine LS.on ?_; refine ld1 (v := .bool _) ?_; refine LS.on ?_; refine bin_eql_B ?_; rw [show (n.closed == m.closed) = false by simpa using e3]; refine pk (v := .bool _) ?_; refine mvB ?_; refine LS.off ?_; refine LS.off ?_; refine LS.off ?_; refine LS.off ?_; refine LS.off ?_; refine pk (v := .bool _) ?_; refine mvB ?_; refine LS.off ?_; refine LS.off ?_; refine LS.off ?_; refine LS.off ?_; refine LS.off ?_; refine pk (v := .bool _) ?_; refine asB ?_; refine LS.done ?_
    refine zN ?_; refine RS.ret1 (v := .bool _) Tryz.func39 fun w hw => ?_
    exact ⟨rfl, hw.below⟩
  by_cases e4 : n.marks = m.marks
  rotate_left
  · rw [decide_eq_false (fun e => e4 (by rw [e]))]
    refine fld ?_; refine ld1 (v := .string _) ?_; refine fld ?_; refine ld1 (v := .string _) ?_; refine eqS ?_; rw [decide_eq_true e1]; refine mvB ?_; refine LS.on ?_; refine fld ?_; refine LS.on ?_; refine ldA [_, _] ?_; refine LS.on ?_; refine fld ?_; refine LS.on ?_; refine ldA [_, _] ?_; refine LS.on ?_; refine eqA (b := true) (us1 := [.int .i64 n.cpu, .int .i64 n.mem]) (us2 := [.int .i64 m.cpu, .int .i64 m.mem]) (fun w => by rw [eq_vec, e2.1, e2.2]; simp) (by kernel_rfl) ?_; refine pk (v := .bool _) ?_; refine mvB ?_; refine LS.on ?_; refine fld ?_; refine LS.on ?_; refine ld1 (v := .bool _) ?_; refine LS.on ?_; refine fld ?_; refine LS.on ?_; refine ld1 (v := .bool _) ?_; refine LS.on ?_; refine bin_eql_B ?_; rw [show (n.closed == m.closed) = true by simpa using e3]; refine pk (v := .bool _) ?_; refine mvB ?_; refine LS.on ?_; refine fld ?_; refine LS.on ?_; refine ld1 (v := .slice _ _ _) ?_; refine LS.on ?_; refine fld ?_; refine LS.on ?_; refine ld1 (v := .slice _ _ _) ?_; refine LS.on ?_
    refine callP ?_ (hc := fun w' hw => strs_b _ _ n.marks m.marks w' (hm1.mono hw.imm) (hm2.mono hw.imm))
    rw [decide_eq_false e4]
    refine pk (v := .bool _) ?_; refine mvB ?_; refine LS.off ?_; refine LS.off ?_; refine LS.off ?_; refine LS.off ?_; refine LS.off ?_; refine pk (v := .bool _) ?_; refine asB ?_; refine LS.done ?_
    refine zN ?_; refine RS.ret1 (v := .bool _) Tryz.func39 fun w hw => ?_
    exact ⟨rfl, hw.below⟩
  refine fld ?_; refine ld1 (v := .string _) ?_; refine fld ?_; refine ld1 (v := .string _) ?_; refine eqS ?_; rw [decide_eq_true e1]; refine mvB ?_; refine LS.on ?_; refine fld ?_; refine LS.on ?_; refine ldA [_, _] ?_; refine LS.on ?_; refine fld ?_; refine LS.on ?_; refine ldA [_, _] ?_; refine LS.on ?_; refine eqA (b := true) (us1 := [.int .i64 n.cpu, .int .i64 n.mem]) (us2 := [.int .i64 m.cpu, .int .i64 m.mem]) (fun w => by rw [eq_vec, e2.1, e2.2]; simp) (by kernel_rfl) ?_; refine pk (v := .bool _) ?_; refine mvB ?_; refine LS.on ?_; refine fld ?_; refine LS.on ?_; refine ld1 (v := .bool _) ?_; refine LS.on ?_; refine fld ?_; refine LS.on ?_; refine ld1 (v := .bool _) ?_; refine LS.on ?_; refine bin_eql_B ?_; rw [show (n.closed == m.closed) = true by simpa using e3]; refine pk (v := .bool _) ?_; refine mvB ?_; refine LS.on ?_; refine fld ?_; refine LS.on ?_; refine ld1 (v := .slice _ _ _) ?_; refine LS.on ?_; refine fld ?_; refine LS.on ?_; refine ld1 (v := .slice _ _ _) ?_; refine LS.on ?_
  refine callP ?_ (hc := fun w' hw => strs_b _ _ n.marks m.marks w' (hm1.mono hw.imm) (hm2.mono hw.imm))
  rw [decide_eq_true e4]
  refine pk (v := .bool _) ?_; refine mvB ?_; refine LS.on ?_; refine fld ?_; refine LS.on ?_; refine ld1 (v := .slice _ _ _) ?_; refine LS.on ?_; refine fld ?_; refine LS.on ?_; refine ld1 (v := .slice _ _ _) ?_; refine LS.on ?_
  refine callP ?_ (hc := fun w' hw => strs_b _ _ n.taints m.taints w' (ht1.mono hw.imm) (ht2.mono hw.imm))
  refine pk (v := .bool _) ?_; refine asB ?_; refine LS.done ?_
  refine zN ?_; refine RS.ret1 (v := .bool _) Tryz.func39 fun w hw => ?_
  refine ⟨?_, hw.below⟩
  obtain ⟨n1, n2, n3, n4, n5, n6⟩ := n
  obtain ⟨m1, m2, m3, m4, m5, m6⟩ := m
  dsimp only at e1 e2 e3 e4
  obtain ⟨rfl, rfl⟩ := e2
  subst e1 e3 e4
  simp
end Go.Proofs.YtealabaiamaojaaGreatDoor
namespace Go.Proofs.YtealabaiamaojaaGreatDoor
open Go.JW Go.RowKit
def keptD (r : RecD) : RecD :=
  if r.kind = 1 then { rec0 with kind := r.kind, node := r.node }
  else if r.kind = 2 then { rec0 with kind := r.kind, node := { node0 with name := r.node.name } }
  else if r.kind = 3 then { rec0 with kind := r.kind, gang := r.gang, peers := r.peers, places := r.places }
  else if r.kind = 7 then { rec0 with kind := r.kind, gang := r.gang, peers := r.peers }
  else { rec0 with kind := r.kind, gang := r.gang }
theorem kept_more {r : RecD} (h1 : 1 ≤ r.kind) (h7 : r.kind ≤ 7) : decide (r = keptD r) = !moreP r := by
  have he : ByteArray.empty = ⟨⟨[]⟩⟩ := rfl
  have key : r = keptD r ↔ moreP r = false := by
    obtain ⟨k, g, p, l, ⟨n1, n2, n3, n4, n5, n6⟩⟩ := r
    have hk : k = 1 ∨ k = 2 ∨ k = 3 ∨ k = 4 ∨ k = 5 ∨ k = 6 ∨ k = 7 := by
      have h1 : 1 ≤ k := h1
      have h7 : k ≤ 7 := h7
      omega
    rcases hk with rfl | rfl | rfl | rfl | rfl | rfl | rfl <;> simp [keptD, moreP, gangsP, peeredP, bareP, rec0, node0, and_assoc]
    all_goals grind
  cases hm : moreP r with
  | true => rw [hm] at key; exact decide_eq_false fun e => by simp [← e] at key
  | false => rw [hm] at key; exact decide_eq_true (key.2 rfl)
theorem digF_up : ∀ (f n : Nat), 0 < f → n < 10 ^ f → digF (f + 1) n = digF f n := by
  intro f
  induction f with
  | zero => intro n h; omega
  | succ f ih =>
    intro n _ hn
    have e1 : digF (f + 2) n = if n < 10 then [UInt8.ofNat (48 + n)] else digF (f + 1) (n / 10) ++ [UInt8.ofNat (48 + n % 10)] := rfl
    have e2 : digF (f + 1) n = if n < 10 then [UInt8.ofNat (48 + n)] else digF f (n / 10) ++ [UInt8.ofNat (48 + n % 10)] := rfl
    rw [e1, e2]
    by_cases h : n < 10
    · rw [if_pos h, if_pos h]
    · rw [if_neg h, if_neg h]
      have hf : 0 < f := by
        rcases Nat.eq_zero_or_pos f with e | e
        · subst e; simp at hn; omega
        · exact e
      rw [ih (n / 10) hf (by rw [Nat.div_lt_iff_lt_mul (by omega), ← Nat.pow_succ]; exact hn)]
theorem digN_small {n : Nat} (h : n < 10) : digN n = [UInt8.ofNat (48 + n)] := by
  show (if n < 10 then [UInt8.ofNat (48 + n)] else digF 19 (n / 10) ++ [UInt8.ofNat (48 + n % 10)]) = _
  rw [if_pos h]
theorem digN_step {n : Nat} (h : 10 ≤ n) (hn : n < 10 ^ 19) : digN n = digN (n / 10) ++ digN (n % 10) := by
  have e : digN n = if n < 10 then [UInt8.ofNat (48 + n)] else digF 19 (n / 10) ++ [UInt8.ofNat (48 + n % 10)] := rfl
  rw [e, if_neg (by omega), digN_small (Nat.mod_lt _ (by omega))]
  have : digN (n / 10) = digF 19 (n / 10) := digF_up 19 _ (by omega) (by omega)
  rw [this]
theorem commaT_app (l : List Int) (x : Int) : commaT (l ++ [x]) = commaT l ++ 44 :: digN x.toNat := by
  induction l with
  | nil => simp [commaT]
  | cons y l ih => simp [commaT, ih]
theorem peersT_app (l : List Int) (x : Int) (h : l ≠ []) : peersT (l ++ [x]) = peersT l ++ 44 :: digN x.toNat := by
  cases l with
  | nil => exact absurd rfl h
  | cons y l => simp [peersT, commaT_app]
theorem joinB_app (l : List Bs) (x : Bs) (h : l ≠ []) : joinB (l ++ [x]) = joinB l ++ 32 :: x := by
  induction l with
  | nil => exact absurd rfl h
  | cons y l ih =>
    cases l with
    | nil => rfl
    | cons z l =>
      have := ih (by simp)
      simp only [List.cons_append, joinB] at this ⊢
      rw [this]; simp
theorem placeO_x (w : Bs) : placeO w = okO (placeX ⟨w, false⟩) := (sim_place.okO w).symm
theorem numO_x (w : Bs) : numO w = okO (numX 999999999999999 ⟨w, false⟩) := (sim_num.okO w).symm
theorem peersO_x (w : Bs) : peersO w = okO (intsX ⟨w, false⟩) := (sim_peers.okO w).symm
theorem nodeO_x (w : Bs) : nodeO w = okO (nodeX ⟨w, false⟩) := (sim_node.okO w).symm
def fineX (ws : List Bs) : Bool := ws.all fun u => endR (placeX ⟨u, false⟩).2
def tookX (ws : List Bs) : List PlaceD := ws.map fun u => (placeX ⟨u, false⟩).1
theorem placesO_x : ∀ ws : List Bs, placesO ws = if fineX ws = true then some (tookX ws) else none := by
  intro ws
  induction ws with
  | nil => rfl
  | cons u ws ih =>
    have e1 : fineX (u :: ws) = (endR (placeX ⟨u, false⟩).2 && fineX ws) := rfl
    have e2 : tookX (u :: ws) = (placeX ⟨u, false⟩).1 :: tookX ws := rfl
    rw [e1, e2, placesO, ih, placeO_x, okO]
    cases endR (placeX ⟨u, false⟩).2 with
    | false => simp
    | true =>
      cases fineX ws with
      | true => rfl
      | false => rfl
theorem three_x {u0 u1 u2 : Bs} {rest2 : List Bs} {x : Int × St} {y : List Int × St} (hk : kindP u0 = 3) (hx : numO u1 = okO x) (hy : peersO u2 = okO y) :
    ((readO (u0 :: u1 :: u2 :: rest2)).isSome = (endR x.2 && (endR y.2 && fineX rest2))) ∧ ∀ r, readO (u0 :: u1 :: u2 :: rest2) = some r → { rec0 with kind := 3, gang := x.1, peers := y.1, places := tookX rest2 } = r := by
  rw [read3 hk]
  simp only [hx, hy, okO, placesO_x]
  cases endR x.2 <;> cases endR y.2 <;> cases fineX rest2 <;> simp
theorem seven_x {u0 u1 u2 : Bs} {rest2 : List Bs} {x : Int × St} {y : List Int × St} (hk : kindP u0 = 7) (hx : numO u1 = okO x) (hy : peersO u2 = okO y) :
    ((readO (u0 :: u1 :: u2 :: rest2)).isSome = (endR x.2 && ((endR y.2 && fineX rest2) && decide (rest2.length = 0)))) ∧ ∀ r, readO (u0 :: u1 :: u2 :: rest2) = some r → { rec0 with kind := 7, gang := x.1, peers := y.1, places := tookX rest2 } = r := by
  rw [read7 hk]
  cases rest2 with
  | cons z l => simp
  | nil =>
    simp only [hx, hy, okO]
    cases endR x.2 <;> cases endR y.2 <;> simp [fineX, tookX, rec0]
theorem dup_at {l : List PlaceD} {i k : Nat} (hk : k < i) (hi : i < l.length) (h : l[i].pod = l[k].pod) : dupP l = true := by
  unfold dupP
  rw [Bool.not_eq_true', decide_eq_false_iff_not]
  intro hn
  have := (List.nodup_iff_pairwise_ne.1 hn)
  rw [List.pairwise_iff_getElem] at this
  have h2 := this k i (by simp; omega) (by simpa using hi) hk
  simp only [List.getElem_map] at h2
  exact h2 h.symm
theorem dup_not {l : List PlaceD} (h : ∀ i k, k < i → (hi : i < l.length) → (hk : k < l.length) → ¬ l[i].pod = l[k].pod) : dupP l = false := by
  unfold dupP
  rw [Bool.not_eq_false', decide_eq_true_eq, List.nodup_iff_pairwise_ne, List.pairwise_iff_getElem]
  intro i j hi hj hij
  rw [List.length_map] at hi hj
  simp only [List.getElem_map]
  exact fun e => h j i hij hj hi e.symm
end Go.Proofs.YtealabaiamaojaaGreatDoor
namespace Go.Proofs.YtealabaiamaojaaGreatDoor
open Go.JW Go.RowKit
theorem peers_x (l : List Int) (v : Value) (w : World) (h : RepL (hp w) v l) : Calls Tryz.prog 75 #[v] w fun e w' => e = .returned (.bool (risingP l)) ∧ Below w.heap.size w w' := by
  obtain ⟨a, cap, rfl⟩ := h.form
  have hlen : l.length ≤ 140737488355328 := h.1
  refine RS.enter Tryz.func75 Tryz.ntmps75 rfl rfl ?_
  refine zN ?_; refine asB ?_; refine LS.done ?_
  refine zN ?_; refine asI ?_; refine LS.done ?_
  refine zN ?_
  refine RS.loopF (X := Nat × PH) 3 38 (fun x => x.1 ≤ l.length ∧ (∀ i, i < x.1 → riseAt l i = true) ∧ PH.le (hp w) x.2) (fun x => [(3, .int .i64 x.1)]) (fun x => x.2) (fun _ => []) (fun x => l.length - x.1) (0, hp w) ⟨by simp, fun i h => by simp at h, PH.le_refl _⟩ ⟨rfl, trivial⟩ rfl ⟨fun h => h⟩ ?_
  rintro ⟨k, σ2⟩ g ⟨h1, h2, h3⟩ ih
  dsimp only at h1 h2 h3
  refine zN ?_; refine mvI ?_; refine mvL ?_; refine lenL ?_; refine ltI ?_; refine LS.done ?_
  refine zN ?_
  by_cases hlt : k < l.length
  · refine RS.condT ?_ (h := by simp; omega)
    obtain ⟨b, o, rfl, hr⟩ := h.addr (fun e => by simp [e] at hlt)
    obtain ⟨hc, hin⟩ := hr.int k hlt
    have hcs := PH.cell_mono h3 hc
    have hg : l.getD k 0 = l[k] := by simp [List.getD_eq_getElem?_getD, hlt]
    have no : riseAt l k = false → risingP l = false := fun e => by
      unfold risingP
      rw [Bool.and_eq_false_iff]
      exact .inl (List.all_eq_false.2 ⟨k, List.mem_range.2 hlt, by rw [e]; simp⟩)
    by_cases z : l[k] < 1
    · refine zD ?_; refine RS.drawG [(15, some true), (22, some true), (25, none)] [.free, .free, .free, .ex, .free, .free, .free, .free, .free, .free, .free, .free, .free, .free, .free, .free, .free, .free, .free, .free, .free, .free, .free, .free, .free, .free, .free, .free] [] ?_ (by kernel_rfl) (by kernel_rfl) (by kernel_rfl) ⟨fun h => h⟩; simp only [ers, ersO, onOff, glook, nthO, List.map_cons, List.map_nil, Option.bind_some, Option.map_some, Nat.beq, cond_true, cond_false, BEq.beq]; refine D.mvL ?_; refine D.mvI ?_; refine D.idx (i := k) ?_; refine D.ldS hcs ?_; refine D.ltI ?_; rw [decide_eq_true z]; refine D.mvB ?_; refine D.as_ (v := undef) ?_; refine D.as_ (v := undef) ?_; refine D.as_ (v := undef) ?_; refine D.as_ (v := undef) ?_; refine D.as_ (v := undef) ?_; refine D.pk (v := .bool _) ?_; refine D.mvB ?_; refine D.as_ (v := undef) ?_; refine D.as_ (v := undef) ?_; refine D.as_ (v := undef) ?_; refine D.as_ (v := undef) ?_; refine D.as_ (v := undef) ?_; refine D.as_ (v := undef) ?_; refine D.as_ (v := undef) ?_; refine D.as_ (v := undef) ?_; refine D.as_ (v := undef) ?_; refine D.as_ (v := undef) ?_; refine D.as_ (v := undef) ?_; refine D.as_ (v := undef) ?_; refine D.as_ (v := undef) ?_; refine D.as_ (v := undef) ?_; refine D.pk (v := .bool _) ?_; refine D.doneG [(15, some true), (22, some true), (25, none)] ⟨⟨rfl, rfl⟩, ⟨rfl, rfl⟩, ⟨rfl, rfl⟩, trivial⟩ (fun us σ1 hle1 hfs => ?_)
      refine RS.ow ?_
      refine zN ?_
      refine RS.condT ?_
      refine zN ?_; refine asB ?_; refine LS.done ?_; refine zN ?_; refine RS.ret1 (v := .bool _) Tryz.func75 fun w hw => ?_
      exact ⟨retB (no (by unfold riseAt; rw [hg, decide_eq_false (by omega)]; rfl)).symm, hw.below⟩
    by_cases z1 : 4 < l[k]
    · refine zD ?_; refine RS.drawG [(15, some false), (22, some true), (25, none)] [.free, .free, .free, .ex, .free, .free, .free, .free, .free, .ex, .free, .free, .free, .free, .free, .free, .free, .free, .free, .free, .free, .free, .free, .free, .free, .free, .free, .free] [] ?_ (by kernel_rfl) (by kernel_rfl) (by kernel_rfl) ⟨fun h => h⟩; simp only [ers, ersO, onOff, glook, nthO, List.map_cons, List.map_nil, Option.bind_some, Option.map_some, Nat.beq, cond_true, cond_false, BEq.beq]; refine D.mvL ?_; refine D.mvI ?_; refine D.idx (i := k) ?_; refine D.ldS hcs ?_; refine D.ltI ?_; rw [decide_eq_false z]; refine D.mvB ?_; refine D.mvL ?_; refine D.mvI ?_; refine D.idx (i := k) ?_; refine D.ldS hcs ?_; refine D.gtI ?_; rw [decide_eq_true z1]; refine D.pk (v := .bool _) ?_; refine D.mvB ?_; refine D.as_ (v := undef) ?_; refine D.as_ (v := undef) ?_; refine D.as_ (v := undef) ?_; refine D.as_ (v := undef) ?_; refine D.as_ (v := undef) ?_; refine D.as_ (v := undef) ?_; refine D.as_ (v := undef) ?_; refine D.as_ (v := undef) ?_; refine D.as_ (v := undef) ?_; refine D.as_ (v := undef) ?_; refine D.as_ (v := undef) ?_; refine D.as_ (v := undef) ?_; refine D.as_ (v := undef) ?_; refine D.as_ (v := undef) ?_; refine D.pk (v := .bool _) ?_; refine D.doneG [(15, some false), (22, some true), (25, none)] ⟨⟨rfl, rfl⟩, ⟨rfl, rfl⟩, ⟨rfl, rfl⟩, trivial⟩ (fun us σ1 hle1 hfs => ?_)
      refine RS.ow ?_
      refine zN ?_
      refine RS.condT ?_
      refine zN ?_; refine asB ?_; refine LS.done ?_; refine zN ?_; refine RS.ret1 (v := .bool _) Tryz.func75 fun w hw => ?_
      exact ⟨retB (no (by unfold riseAt; rw [hg, decide_eq_false (p := l[k] ≤ 4) (by omega)]; simp)).symm, hw.below⟩
    by_cases z2 : 0 < (k : Int)
    · obtain ⟨hc', hin'⟩ := hr.int (k - 1) (by omega)
      have hcs' := PH.cell_mono h3 hc'
      have hg' : l.getD (k - 1) 0 = l[k - 1] := by rw [List.getD_eq_getElem?_getD, List.getElem?_eq_getElem (by omega)]; rfl
      refine zD ?_; refine RS.drawG [(15, some false), (22, some false), (25, some true)] [.free, .free, .free, .ex, .free, .free, .free, .free, .free, .ex, .free, .free, .free, .free, .free, .free, .free, .free, .free, .free, .ex, .free, .free, .free, .ex, .free, .free, .free] [] ?_ (by kernel_rfl) (by kernel_rfl) (by kernel_rfl) ⟨fun h => h⟩; simp only [ers, ersO, onOff, glook, nthO, List.map_cons, List.map_nil, Option.bind_some, Option.map_some, Nat.beq, cond_true, cond_false, BEq.beq]; refine D.mvL ?_; refine D.mvI ?_; refine D.idx (i := k) ?_; refine D.ldS hcs ?_; refine D.ltI ?_; rw [decide_eq_false z]; refine D.mvB ?_; refine D.mvL ?_; refine D.mvI ?_; refine D.idx (i := k) ?_; refine D.ldS hcs ?_; refine D.gtI ?_; rw [decide_eq_false z1]; refine D.pk (v := .bool _) ?_; refine D.mvB ?_; refine D.mvI ?_; refine D.gtI ?_; rw [decide_eq_true z2]; refine D.mvB ?_; refine D.mvL ?_; refine D.mvI ?_; (first | refine D.subN ?_ | refine D.subI ?_); refine D.idx (i := k - 1) ?_ (hj := by omega); refine D.ldS hcs' ?_; refine D.mvL ?_; refine D.mvI ?_; refine D.idx (i := k) ?_; refine D.ldS hcs ?_; refine D.geI ?_; refine D.pk (v := .bool _) ?_; refine D.pk (v := .bool _) ?_; refine D.doneG [(15, some false), (22, some false), (25, some true)] ⟨⟨rfl, rfl⟩, ⟨rfl, rfl⟩, ⟨rfl, rfl⟩, trivial⟩ (fun us σ1 hle1 hfs => ?_)
      have k1 := hle1
      refine RS.ow ?_
      refine zN ?_
      refine RS.cond (fun z3 => ?_) (fun z3 => ?_)
      · have z3 := of_decide_eq_true z3
        refine zN ?_; refine asB ?_; refine LS.done ?_; refine zN ?_; refine RS.ret1 (v := .bool _) Tryz.func75 fun w hw => ?_
        exact ⟨retB (no (by unfold riseAt; rw [hg, hg', decide_eq_false (p := k = 0) (by omega), decide_eq_false (p := l[k - 1] < l[k]) (by omega)]; simp)).symm, hw.below⟩
      · have z3 := of_decide_eq_false z3
        refine zN ?_; refine mvI ?_; (first | refine addN ?_ | refine addI ?_); refine asI ?_; refine LS.done ?_; refine zN ?_
        exact ih (k + 1, _) ⟨hlt, fun i hi => (Nat.lt_or_ge i k).elim (h2 i) fun hge => by
          have hi : i < k + 1 := hi
          obtain rfl : i = k := by omega
          unfold riseAt; rw [hg, hg', decide_eq_true (by omega), decide_eq_true (by omega), decide_eq_true (p := l[i - 1] < l[i]) (by omega)]; simp, PH.le_trans h3 k1⟩ (by (try dsimp only); omega) ⟨rfl, trivial⟩ (by repeat (first | with_reducible exact Out.refl _ _ _ | exact Out.hv | refine Out.upd ?_ | refine Out.hvIn ?_)) ⟨fun h => h⟩ rfl
    · refine zD ?_; refine RS.drawG [(15, some false), (22, some false), (25, some false)] [.free, .free, .free, .ex, .free, .free, .free, .free, .free, .ex, .free, .free, .free, .free, .free, .free, .free, .free, .free, .free, .free, .free, .free, .free, .free, .free, .free, .free] [] ?_ (by kernel_rfl) (by kernel_rfl) (by kernel_rfl) ⟨fun h => h⟩; simp only [ers, ersO, onOff, glook, nthO, List.map_cons, List.map_nil, Option.bind_some, Option.map_some, Nat.beq, cond_true, cond_false, BEq.beq]; refine D.mvL ?_; refine D.mvI ?_; refine D.idx (i := k) ?_; refine D.ldS hcs ?_; refine D.ltI ?_; rw [decide_eq_false z]; refine D.mvB ?_; refine D.mvL ?_; refine D.mvI ?_; refine D.idx (i := k) ?_; refine D.ldS hcs ?_; refine D.gtI ?_; rw [decide_eq_false z1]; refine D.pk (v := .bool _) ?_; refine D.mvB ?_; refine D.mvI ?_; refine D.gtI ?_; rw [decide_eq_false z2]; refine D.mvB ?_; refine D.as_ (v := undef) ?_; refine D.as_ (v := undef) ?_; refine D.as_ (v := undef) ?_; refine D.as_ (v := undef) ?_; refine D.as_ (v := undef) ?_; refine D.as_ (v := undef) ?_; refine D.as_ (v := undef) ?_; refine D.as_ (v := undef) ?_; refine D.as_ (v := undef) ?_; refine D.as_ (v := undef) ?_; refine D.pk (v := .bool _) ?_; refine D.pk (v := .bool _) ?_; refine D.doneG [(15, some false), (22, some false), (25, some false)] ⟨⟨rfl, rfl⟩, ⟨rfl, rfl⟩, ⟨rfl, rfl⟩, trivial⟩ (fun us σ1 hle1 hfs => ?_)
      have k1 := hle1
      refine RS.ow ?_
      refine zN ?_
      refine RS.condF ?_
      refine zN ?_; refine mvI ?_; (first | refine addN ?_ | refine addI ?_); refine asI ?_; refine LS.done ?_; refine zN ?_
      exact ih (k + 1, _) ⟨hlt, fun i hi => (Nat.lt_or_ge i k).elim (h2 i) fun hge => by
        have hi : i < k + 1 := hi
        obtain rfl : i = k := by omega
        unfold riseAt; rw [hg, decide_eq_true (by omega), decide_eq_true (by omega), decide_eq_true (p := i = 0) (by omega)]; rfl, PH.le_trans h3 k1⟩ (by (try dsimp only); omega) ⟨rfl, trivial⟩ (by repeat (first | with_reducible exact Out.refl _ _ _ | exact Out.hv | refine Out.upd ?_ | refine Out.hvIn ?_)) ⟨fun h => h⟩ rfl
  · refine RS.condF ?_ (h := by simp; omega)
    obtain rfl : k = l.length := by omega
    refine zN ?_; refine mvL ?_; refine lenL ?_; refine gtI ?_; refine asB ?_; refine LS.done ?_; refine zN ?_; refine RS.ret1 (v := .bool _) Tryz.func75 fun w hw => ?_
    exact ⟨retB (by unfold risingP; rw [List.all_eq_true.2 fun i hi => h2 i (List.mem_range.1 hi), Bool.true_and, decide_eq_decide]; omega), hw.below⟩
def keptC (r : RecD) (vp vq vm vt : Value) : List Value :=
  if r.kind = 1 then recC (keptD r) nilV nilV vm vt else if r.kind = 2 then recC (keptD r) nilV nilV nilV nilV
  else if r.kind = 3 then recC (keptD r) vp vq nilV nilV else if r.kind = 7 then recC (keptD r) vp nilV nilV nilV else recC (keptD r) nilV nilV nilV nilV
theorem kept_rep {σ : PH} {r : RecD} {vp vq vm vt : Value} (h : Rep.rep σ (recC r vp vq vm vt) r) : Rep.rep σ (keptC r vp vq vm vt) (keptD r) := by
  obtain ⟨vp', vq', vm', vt', e, h1, h2, hp_, hq, h3, h4, h5, hm, ht⟩ := h
  simp only [recC, List.cons.injEq, true_and, and_true] at e
  obtain ⟨rfl, rfl, rfl, rfl⟩ := e
  have z : I64 0 := ⟨by decide, by decide⟩
  have n0 : (⟨#[]⟩ : ByteArray).size ≤ 140737488355328 := Nat.zero_le _
  unfold keptC keptD
  split
  · exact ⟨_, _, _, _, rfl, h1, z, RepL.nil _ _ _, RepL.nil _ _ _, h3, h4, h5, hm, ht⟩
  split
  · exact ⟨_, _, _, _, rfl, h1, z, RepL.nil _ _ _, RepL.nil _ _ _, h3, z, z, RepL.nil _ _ _, RepL.nil _ _ _⟩
  split
  · exact ⟨_, _, _, _, rfl, h1, h2, hp_, hq, n0, z, z, RepL.nil _ _ _, RepL.nil _ _ _⟩
  split
  · exact ⟨_, _, _, _, rfl, h1, h2, hp_, RepL.nil _ _ _, n0, z, z, RepL.nil _ _ _, RepL.nil _ _ _⟩
  · exact ⟨_, _, _, _, rfl, h1, h2, RepL.nil _ _ _, RepL.nil _ _ _, n0, z, z, RepL.nil _ _ _, RepL.nil _ _ _⟩
abbrev rcTy0 : TypeId := 33
theorem kept_x (r : RecD) (a1 a2 a3 a4 : Option Addr) (c1 c2 c3 c4 : Nat) (w : World) :
    Calls Tryz.prog 72 #[.agg (List.toArray (recC r (.slice a1 r.peers.length c1) (.slice a2 r.places.length c2) (.slice a3 r.node.marks.length c3) (.slice a4 r.node.taints.length c4)))] w fun e w' =>
      e = .returned (.agg (List.toArray (keptC r (.slice a1 r.peers.length c1) (.slice a2 r.places.length c2) (.slice a3 r.node.marks.length c3) (.slice a4 r.node.taints.length c4)))) ∧ Below w.heap.size w w' := by
  refine RS.enter Tryz.func72 Tryz.ntmps72 rfl rfl ?_
  refine zN ?_; refine box_ (v := .agg _) (cs := [_, _, _, _, _, _, _, _, _, _]) (fun b1 => ?_); refine alloc_ (fun b2 => ?_); refine LS.done ?_
  refine zN ?_; refine fld ?_; refine ld1 (v := .int _ _) ?_; refine bld (vals := [(0, .int _ _)]) [_, _, _, _, _, _, _, _, _, _] ?_; refine alloc_ (fun b3 => ?_); refine st (.agg _) _ ?_; refine LS.done ?_
  refine zN ?_; refine fld ?_; refine ld1 (v := .int _ _) ?_; refine LS.done ?_
  refine zN ?_; refine eqI ?_; refine asB ?_; refine LS.done ?_
  refine zN ?_
  unfold keptC keptD
  refine RS.cond (fun z => ?_) (fun z => ?_)
  · have z := of_decide_eq_true z
    rw [if_pos z, if_pos z]
    refine zN ?_; refine fld ?_; refine ldA [_, _, _, _, _, _] ?_; refine fld ?_; refine st (.agg _) _ ?_; refine LS.done ?_
    refine zN ?_
    refine zN ?_; refine ldA [_, _, _, _, _, _, _, _, _, _] ?_; refine st (.agg _) _ ?_; refine LS.done ?_
    refine zN ?_; refine RS.retC (ty := 33) Tryz.func72 [_, _, _, _, _, _, _, _, _, _] fun w hw => ?_
    exact ⟨rfl, hw.below⟩
  have z := of_decide_eq_false z
  rw [if_neg z, if_neg z]
  refine zN ?_; refine eqI ?_; refine asB ?_; refine LS.done ?_
  refine zN ?_
  refine RS.cond (fun z => ?_) (fun z => ?_)
  · have z := of_decide_eq_true z
    rw [if_pos z, if_pos z]
    refine zN ?_; refine fld ?_; refine fld ?_; refine ld1 (v := .string _) ?_; refine fld ?_; refine fld ?_; refine st (.string _) _ ?_; refine LS.done ?_
    refine zN ?_
    refine zN ?_; refine ldA [_, _, _, _, _, _, _, _, _, _] ?_; refine st (.agg _) _ ?_; refine LS.done ?_
    refine zN ?_; refine RS.retC (ty := 33) Tryz.func72 [_, _, _, _, _, _, _, _, _, _] fun w hw => ?_
    exact ⟨rfl, hw.below⟩
  have z := of_decide_eq_false z
  rw [if_neg z, if_neg z]
  refine zN ?_; refine eqI ?_; refine asB ?_; refine LS.done ?_
  refine zN ?_
  refine RS.cond (fun z => ?_) (fun z => ?_)
  · have z := of_decide_eq_true z
    rw [if_pos z, if_pos z]
    refine RS.freeze (b := b1) inferInstance (fun σ7 hle7 hb7 => ?_)
    have hb7' : σ7 b1 = some (.cells (List.toArray (recC r (.slice a1 r.peers.length c1) (.slice a2 r.places.length c2) (.slice a3 r.node.marks.length c3) (.slice a4 r.node.taints.length c4))) rcTy0 (0, 0)) := hb7
    have q1 : σ7.cell b1 (0 + 1) = some (.int .i64 r.gang) := by simp [PH.cell, hb7', recC]
    have q2 : σ7.cell b1 (0 + 2) = some (.slice a1 r.peers.length c1) := by simp [PH.cell, hb7', recC]
    have q3 : σ7.cell b1 (0 + 3) = some (.slice a2 r.places.length c2) := by simp [PH.cell, hb7', recC]
    refine zD ?_; refine RS.draw [.free, .free, .free, .free, .free, .free, .free, .st, .free, .st, .free, .st] [] ?_ (by kernel_rfl) (by kernel_rfl) (by infer_instance); refine D.fld ?_; refine D.ldSf q1 ?_; refine D.fld ?_; refine D.ldSf q2 ?_; refine D.fld ?_; refine D.ldSf q3 ?_; refine D.fld ?_
    refine D.stB (.int .i64 r.gang) (recC { rec0 with kind := r.kind, gang := r.gang } nilV nilV nilV nilV) ?_ (hr := Nat.le_of_ble_eq_true rfl)
    refine D.fld ?_
    refine D.stB (.slice a1 r.peers.length c1) (recC { rec0 with kind := r.kind, gang := r.gang } (.slice a1 r.peers.length c1) nilV nilV nilV) ?_ (hr := Nat.le_of_ble_eq_true rfl)
    refine D.fld ?_
    refine D.stB (.slice a2 r.places.length c2) (recC { rec0 with kind := r.kind, gang := r.gang } (.slice a1 r.peers.length c1) (.slice a2 r.places.length c2) nilV nilV) ?_ (hr := Nat.le_of_ble_eq_true rfl)
    refine D.done (fun us σ1 hle1 hfs => ?_)
    refine RS.ow ?_
    refine zN ?_
    refine zN ?_; refine ldA [_, _, _, _, _, _, _, _, _, _] ?_; refine st (.agg _) _ ?_; refine LS.done ?_
    refine zN ?_; refine RS.retC (ty := 33) Tryz.func72 [_, _, _, _, _, _, _, _, _, _] fun w hw => ?_
    exact ⟨rfl, hw.below⟩
  have z := of_decide_eq_false z
  rw [if_neg z, if_neg z]
  refine zN ?_; refine eqI ?_; refine asB ?_; refine LS.done ?_
  refine zN ?_
  refine RS.cond (fun z => ?_) (fun z => ?_)
  · have z := of_decide_eq_true z
    rw [if_pos z, if_pos z]
    refine RS.freeze (b := b1) inferInstance (fun σ7 hle7 hb7 => ?_)
    have hb7' : σ7 b1 = some (.cells (List.toArray (recC r (.slice a1 r.peers.length c1) (.slice a2 r.places.length c2) (.slice a3 r.node.marks.length c3) (.slice a4 r.node.taints.length c4))) rcTy0 (0, 0)) := hb7
    have q1 : σ7.cell b1 (0 + 1) = some (.int .i64 r.gang) := by simp [PH.cell, hb7', recC]
    have q2 : σ7.cell b1 (0 + 2) = some (.slice a1 r.peers.length c1) := by simp [PH.cell, hb7', recC]
    have q3 : σ7.cell b1 (0 + 3) = some (.slice a2 r.places.length c2) := by simp [PH.cell, hb7', recC]
    refine zD ?_; refine RS.draw [.free, .free, .free, .free, .free, .st, .free, .st] [] ?_ (by kernel_rfl) (by kernel_rfl) (by infer_instance); refine D.fld ?_; refine D.ldSf q1 ?_; refine D.fld ?_; refine D.ldSf q2 ?_; refine D.fld ?_
    refine D.stB (.int .i64 r.gang) (recC { rec0 with kind := r.kind, gang := r.gang } nilV nilV nilV nilV) ?_ (hr := Nat.le_of_ble_eq_true rfl)
    refine D.fld ?_
    refine D.stB (.slice a1 r.peers.length c1) (recC { rec0 with kind := r.kind, gang := r.gang } (.slice a1 r.peers.length c1) nilV nilV nilV) ?_ (hr := Nat.le_of_ble_eq_true rfl)
    refine D.done (fun us σ1 hle1 hfs => ?_)
    refine RS.ow ?_
    refine zN ?_
    refine zN ?_; refine ldA [_, _, _, _, _, _, _, _, _, _] ?_; refine st (.agg _) _ ?_; refine LS.done ?_
    refine zN ?_; refine RS.retC (ty := 33) Tryz.func72 [_, _, _, _, _, _, _, _, _, _] fun w hw => ?_
    exact ⟨rfl, hw.below⟩
  have z := of_decide_eq_false z
  rw [if_neg z, if_neg z]
  refine zN ?_; refine fld ?_; refine ld1 (v := .int _ _) ?_; refine fld ?_; refine st (.int _ _) _ ?_; refine LS.done ?_
  refine zN ?_
  refine zN ?_; refine ldA [_, _, _, _, _, _, _, _, _, _] ?_; refine st (.agg _) _ ?_; refine LS.done ?_
  refine zN ?_; refine RS.retC (ty := 33) Tryz.func72 [_, _, _, _, _, _, _, _, _, _] fun w hw => ?_
  exact ⟨rfl, hw.below⟩
end Go.Proofs.YtealabaiamaojaaGreatDoor
namespace Go.Proofs.YtealabaiamaojaaGreatDoor
open Go.JW Go.RowKit
abbrev rcZ (b : Nat) : HP := rcB b 0 0 nilV nilV ⟨#[]⟩ 0 0 nilV nilV false
abbrev rcTy : TypeId := 33
theorem rdFn : Tryz.prog.funcs[46]? = some Tryz.f46 := Tryz.func46
section
variable {w0 : World} {M : Nat → Prop} {σ : PH} {K : List HP}
abbrev rcPl : TypeId := 37
theorem read_x (ws : List Bs) (v : Value) (h : RepL σ v (ws.map B)) (hl : ∀ x ∈ ws, x.length ≤ 90000) (hn : ws.length ≤ 100000) (w : World) (hw : Sat w0 M σ K w) :
    Calls Tryz.prog 46 #[v] w fun e w' => ∃ v σ', PH.le σ σ' ∧ ReadA ws v σ' ∧ e = .returned v ∧ Sat w0 M σ' K w' := by
  obtain ⟨a, cap, rfl⟩ := h.form
  have hlen : (ws.map B).length = ws.length := List.length_map ..
  refine RS.enterK Tryz.func46 Tryz.ntmps46 rfl rfl hw ?_
  refine zN ?_; refine alloc_ (fun b2 => ?_); refine asB ?_; refine LS.done ?_
  refine zN ?_; refine mvL ?_; refine lenL ?_; refine ltI ?_; refine LS.done ?_
  refine zN ?_
  by_cases h2 : ws.length < 2
  · refine RS.condT ?_ (h := by simp; omega)
    refine zN ?_; refine bld (vals := []) [_, _, _, _, _, _, _, _, _, _] ?_; refine st (.agg _) _ ?_; refine asB ?_; refine LS.done ?_
    refine zN ?_
    refine RS.retCT (ty := rcTy) (v := .bool false) rdFn [.int .i64 0, .int .i64 0, nilV, nilV, .string ⟨#[]⟩, .int .i64 0, .int .i64 0, nilV, nilV, .bool false] (hb := FindB.head) fun w hw => ?_
    have hno : readO ws = none := by
      cases ws with
      | nil => rfl
      | cons x l => cases l with
        | nil => rfl
        | cons y l => simp at h2; omega
    exact ⟨_, σ, PH.le_refl _, ⟨_, _, _, rfl, by rw [hno]; rfl, rec0_rep σ 0 ⟨by decide, by decide⟩, fun r hr => by rw [hno] at hr; cases hr⟩, rfl, hw.weak fun F h => h.tail⟩
  refine RS.condF ?_ (h := by simp; omega)
  obtain ⟨u0, u1, rest, rfl⟩ : ∃ x y l, ws = x :: y :: l := by
    cases ws with
    | nil => simp at h2
    | cons x l => cases l with
      | nil => simp at h2
      | cons y l => exact ⟨_, _, _, rfl⟩
  obtain ⟨ba, oa, rfl, hrow⟩ := h.addr (by simp)
  have hc0 : σ.cell ba (oa + 0 * 1) = some (.string (B u0)) := (hrow.str 0 (by simp)).1
  have hc1 : σ.cell ba (oa + 1 * 1) = some (.string (B u1)) := (hrow.str 1 (by simp)).1
  have hrl : (rest.map B).length = rest.length := List.length_map ..
  have hlen2 : decide ((((u0 :: u1 :: rest).map B).length : Int) = 2) = decide (((rest.map B).length : Int) = 0) := by rw [decide_eq_decide]; simp only [List.length_map, List.length_cons]; omega
  have hl0 : u0.length ≤ 90000 := hl u0 (by simp)
  have hl1 : u1.length ≤ 90000 := hl u1 (by simp)
  have hkin := kindP_in u0
  refine zN ?_; refine mvL ?_; refine idx (i := 0) ?_ (hi := by simp); refine ldS hc0 ?_
  refine callP ?_ (hc := fun w' hw => kind_x u0 w')
  obtain ⟨k, hk⟩ : ∃ k, k = kindP u0 := ⟨_, rfl⟩
  rw [← hk]
  rw [← hk] at hkin
  refine bld (vals := [(0, .int _ _)]) [_, _, _, _, _, _, _, _, _, _] ?_; refine alloc_ (fun b4 => ?_); refine st (.agg _) _ ?_; refine LS.done ?_
  refine zN ?_; refine asB ?_; refine asB ?_; refine LS.done ?_
  refine zN ?_; refine fld ?_; refine ld1 (v := .int _ _) ?_; refine LS.done ?_
  refine zN ?_; refine eqI ?_; refine asB ?_; refine LS.done ?_
  refine zN ?_
  have hkk : k = 0 ∨ k = 1 ∨ k = 2 ∨ k = 3 ∨ k = 4 ∨ k = 5 ∨ k = 6 ∨ k = 7 := by omega
  rcases hkk with rfl | rfl | rfl | rfl | rfl | rfl | rfl | rfl
  · refine RS.condT ?_
    refine zN ?_; refine ldA [_, _, _, _, _, _, _, _, _, _] ?_; refine st (.agg _) _ ?_; refine asB ?_; refine LS.done ?_
    refine zN ?_
    refine RS.retCT (ty := rcTy) (v := .bool false) rdFn [.int .i64 0, .int .i64 0, nilV, nilV, .string ⟨#[]⟩, .int .i64 0, .int .i64 0, nilV, nilV, .bool false] fun w hw => ?_
    have hno : readO (u0 :: u1 :: rest) = none := read0 hk.symm
    exact ⟨_, σ, PH.le_refl _, ⟨_, _, _, rfl, by rw [hno]; rfl, rec0_rep σ 0 ⟨by decide, by decide⟩, fun r hr => by rw [hno] at hr; cases hr⟩, rfl, hw.weak fun F h => h.tail.tail⟩
  · refine RS.condF ?_
    refine zN ?_; refine eqI ?_; refine asB ?_; refine LS.done ?_
    refine zN ?_
    refine RS.condT ?_
    refine zN ?_; refine mvL ?_; refine idx (i := 1) ?_ (hi := by simp); refine ldS hc1 ?_
    refine callQ (fun v σ' => ∃ cs, Rep.rep σ' cs (nodeX ⟨u1, false⟩).1 ∧ v = .tuple (List.toArray [.agg (List.toArray cs), .bool (endR (nodeX ⟨u1, false⟩).2)])) (rcB b4 1 0 nilV nilV ⟨#[]⟩ 0 0 nilV nilV false :: rcZ b2 :: K) (fun v σ1 hle1 hq => ?_) (hc := fun w' hw => node_x u1 (by omega) w' hw)
    have hO1 := nodeO_x u1
    obtain ⟨x, hx⟩ : ∃ x, x = nodeX ⟨u1, false⟩ := ⟨_, rfl⟩
    rw [← hx] at hq hO1
    obtain ⟨cs, hcs, rfl⟩ := hq
    obtain ⟨vm, vt, rfl, n1, n2, n3, hm, ht⟩ := hcs
    obtain ⟨am, cm, rfl⟩ := hm.form
    obtain ⟨at_, ct, rfl⟩ := ht.form
    have hz : I64 0 := ⟨by decide, by decide⟩
    have hrep : Rep.rep σ1 (recC { rec0 with kind := 1, node := x.1 } nilV nilV (.slice am x.1.marks.length cm) (.slice at_ x.1.taints.length ct)) { rec0 with kind := 1, node := x.1 } := ⟨_, _, _, _, rfl, ⟨by show (-9223372036854775808 : Int) ≤ 1; decide, by show (1 : Int) ≤ _; decide⟩, hz, RepL.nil _ _ _, RepL.nil _ _ _, n1, n2, n3, hm, ht⟩
    obtain ⟨ha1, ha2⟩ := one_some (rest := rest) (x := x) (g := fun n => ({ rec0 with kind := 1, node := n } : RecD))
    have hO : readO (u0 :: u1 :: rest) = _ := read1 hk.symm
    rw [hO1] at hO
    rw [← hO] at ha1 ha2
    refine mvT ?_; refine extr (v := _) ?_; refine extr (v := .bool _) ?_; refine fld ?_; refine st (.agg _) _ ?_; refine asB ?_; refine LS.done ?_
    cases he : endR x.2 with
    | true =>
      rw [he] at ha1
      refine zN ?_; refine ldA [_, _, _, _, _, _, _, _, _, _] ?_; refine mvB ?_; refine mvB ?_; refine LS.on ?_; refine mvL ?_; refine LS.on ?_; refine lenL ?_; refine LS.on ?_; refine eqI ?_; rw [hlen2]; refine pk (v := .bool _) ?_; refine st (.agg _) _ ?_; refine asB ?_; refine LS.done ?_
      refine zN ?_
      refine RS.retCT (ty := rcTy) (v := .bool (decide (((rest.map B).length : Int) = 0))) rdFn _ fun w hw => ?_
      exact ⟨_, _, hle1, ⟨_, _, _, rfl, ha1.symm, hrep, ha2⟩, rfl, hw.weak fun F h => h.tail.tail⟩
    | false =>
      rw [he] at ha1
      refine zN ?_; refine ldA [_, _, _, _, _, _, _, _, _, _] ?_; refine mvB ?_; refine mvB ?_; refine LS.off ?_; refine LS.off ?_; refine LS.off ?_; refine pk (v := .bool _) ?_; refine st (.agg _) _ ?_; refine asB ?_; refine LS.done ?_
      refine zN ?_
      refine RS.retCT (ty := rcTy) (v := .bool false) rdFn _ fun w hw => ?_
      exact ⟨_, _, hle1, ⟨_, _, _, rfl, ha1.symm, hrep, ha2⟩, rfl, hw.weak fun F h => h.tail.tail⟩
  · refine RS.condF ?_
    refine zN ?_; refine eqI ?_; refine asB ?_; refine LS.done ?_
    refine zN ?_
    refine RS.condF ?_
    refine zN ?_; refine eqI ?_; refine asB ?_; refine LS.done ?_
    refine zN ?_
    refine RS.condT ?_
    refine zN ?_; refine mvL ?_; refine idx (i := 1) ?_ (hi := by simp); refine ldS hc1 ?_
    refine callQ (fun v _ => v = .tuple (List.toArray [.string (B (nameR ⟨u1, false⟩).1), .bool (endR (nameR ⟨u1, false⟩).2)])) (rcB b4 2 0 nilV nilV ⟨#[]⟩ 0 0 nilV nilV false :: rcZ b2 :: K) (fun v σ1 hle1 hq => ?_) (hc := fun w' hw => readName_x u1 (by omega) w' hw)
    subst hq
    obtain ⟨x, hx⟩ : ∃ x, x = nameR ⟨u1, false⟩ := ⟨_, rfl⟩
    have hnl := nameR_len1 ⟨u1, false⟩
    rw [← hx] at hnl ⊢
    have hnl : x.1.length ≤ u1.length := hnl
    have hz : I64 0 := ⟨by decide, by decide⟩
    have hrep : Rep.rep σ1 (recC { rec0 with kind := 2, node := { node0 with name := B x.1 } } nilV nilV nilV nilV) { rec0 with kind := 2, node := { node0 with name := B x.1 } } := ⟨_, _, _, _, rfl, ⟨by show (-9223372036854775808 : Int) ≤ 2; decide, by show (2 : Int) ≤ _; decide⟩, hz, RepL.nil _ _ _, RepL.nil _ _ _, by show (B x.1).size ≤ _; rw [B_size]; omega, hz, hz, RepL.nil _ _ _, RepL.nil _ _ _⟩
    obtain ⟨ha1, ha2⟩ := one_some (rest := rest) (x := x) (g := fun n => ({ rec0 with kind := 2, node := { node0 with name := B n } } : RecD))
    have hO : readO (u0 :: u1 :: rest) = _ := read2 hk.symm
    unfold nameO at hO
    rw [← hx] at hO
    rw [← hO] at ha1 ha2
    refine mvT ?_; refine extr (v := .string _) ?_; refine extr (v := .bool _) ?_; refine fld ?_; refine fld ?_; refine st (.string _) _ ?_; refine asB ?_; refine LS.done ?_
    cases he : endR x.2 with
    | true =>
      rw [he] at ha1
      refine zN ?_; refine ldA [_, _, _, _, _, _, _, _, _, _] ?_; refine mvB ?_; refine mvB ?_; refine LS.on ?_; refine mvL ?_; refine LS.on ?_; refine lenL ?_; refine LS.on ?_; refine eqI ?_; rw [hlen2]; refine pk (v := .bool _) ?_; refine st (.agg _) _ ?_; refine asB ?_; refine LS.done ?_
      refine zN ?_
      refine RS.retCT (ty := rcTy) (v := .bool (decide (((rest.map B).length : Int) = 0))) rdFn _ fun w hw => ?_
      exact ⟨_, _, hle1, ⟨_, _, _, rfl, ha1.symm, hrep, ha2⟩, rfl, hw.weak fun F h => h.tail.tail⟩
    | false =>
      rw [he] at ha1
      refine zN ?_; refine ldA [_, _, _, _, _, _, _, _, _, _] ?_; refine mvB ?_; refine mvB ?_; refine LS.off ?_; refine LS.off ?_; refine LS.off ?_; refine pk (v := .bool _) ?_; refine st (.agg _) _ ?_; refine asB ?_; refine LS.done ?_
      refine zN ?_
      refine RS.retCT (ty := rcTy) (v := .bool false) rdFn _ fun w hw => ?_
      exact ⟨_, _, hle1, ⟨_, _, _, rfl, ha1.symm, hrep, ha2⟩, rfl, hw.weak fun F h => h.tail.tail⟩
  · refine RS.condF ?_
    refine zN ?_; refine eqI ?_; refine asB ?_; refine LS.done ?_
    refine zN ?_
    refine RS.condF ?_
    refine zN ?_; refine eqI ?_; refine asB ?_; refine LS.done ?_
    refine zN ?_
    refine RS.condF ?_
    refine zN ?_; refine mvL ?_; refine idx (i := 1) ?_ (hi := by simp); refine ldS hc1 ?_
    refine callQ (fun v _ => v = .tuple (List.toArray [.int .i64 (numX 999999999999999 ⟨u1, false⟩).1, .bool (endR (numX 999999999999999 ⟨u1, false⟩).2)])) (rcB b4 3 0 nilV nilV ⟨#[]⟩ 0 0 nilV nilV false :: rcZ b2 :: K) (fun v σ1 hle1 hq => ?_) (hc := fun w' hw => readNumber_x u1 (by omega) w' hw)
    subst hq
    have hO1 := numO_x u1
    have hnl := numX_in ⟨u1, false⟩
    obtain ⟨x, hx⟩ : ∃ x, x = numX 999999999999999 ⟨u1, false⟩ := ⟨_, rfl⟩
    rw [← hx] at hnl hO1 ⊢
    refine mvT ?_; refine extr (v := .int _ _) ?_; refine extr (v := .bool _) ?_; refine fld ?_; refine st (.int _ _) _ ?_; refine asB ?_; refine LS.done ?_
    have hz : I64 0 := ⟨by decide, by decide⟩
    refine zN ?_; refine fld ?_; refine ld1 (v := .int _ _) ?_; refine neI ?_; refine mvB ?_; refine LS.off ?_; refine LS.off ?_; refine LS.off ?_; refine pk (v := .bool _) ?_; refine LS.done ?_
    refine zN ?_
    refine RS.condF ?_
    refine zN ?_; refine mvL ?_; refine lenL ?_; refine ltI ?_; refine LS.done ?_
    refine zN ?_
    cases rest with
    | nil =>
      refine RS.condT ?_
      refine zN ?_; refine ldA [_, _, _, _, _, _, _, _, _, _] ?_; refine st (.agg _) _ ?_; refine asB ?_; refine LS.done ?_
      refine zN ?_
      refine RS.retCT (ty := rcTy) (v := .bool false) rdFn (recC { rec0 with kind := 3, gang := x.1 } nilV nilV nilV nilV) fun w hw => ?_
      have hno : readO [u0, u1] = none := read3 hk.symm
      exact ⟨_, σ1, hle1, ⟨_, _, { rec0 with kind := 3, gang := x.1 }, rfl, by rw [hno]; rfl, ⟨_, _, _, _, rfl, ⟨by show (-9223372036854775808 : Int) ≤ 3; decide, by show (3 : Int) ≤ _; decide⟩, hnl, RepL.nil _ _ _, RepL.nil _ _ _, Nat.zero_le _, hz, hz, RepL.nil _ _ _, RepL.nil _ _ _⟩, fun r hr => by rw [hno] at hr; cases hr⟩, rfl, hw.weak fun F h => h.tail.tail⟩
    | cons u2 rest2 =>
      refine RS.condF ?_ (h := by simp; omega)
      have hc2 : σ1.cell ba (oa + 2 * 1) = some (.string (B u2)) := PH.cell_mono hle1 (hrow.str 2 (by simp)).1
      have hl2 : u2.length ≤ 90000 := hl u2 (by simp)
      refine zN ?_; refine mvL ?_; refine idx (i := 2) ?_ (hi := by simp); refine ldS hc2 ?_
      refine callQ (fun v σ' => ∃ v1, RepL σ' v1 (intsX ⟨u2, false⟩).1 ∧ v = .tuple (List.toArray [v1, .bool (endR (intsX ⟨u2, false⟩).2)])) (rcB b4 3 x.1 nilV nilV ⟨#[]⟩ 0 0 nilV nilV false :: rcZ b2 :: K) (fun v σ2 hle2 hq => ?_) (hc := fun w' hw => ints_x u2 (by omega) w' hw)
      obtain ⟨v1, hq, rfl⟩ := hq
      have hO2 := peersO_x u2
      obtain ⟨y, hy⟩ : ∃ y, y = intsX ⟨u2, false⟩ := ⟨_, rfl⟩
      rw [← hy] at hq hO2 ⊢
      obtain ⟨ap, cp, rfl⟩ := hq.form
      have k2 := hle2
      refine mvT ?_; refine extr (v := .slice _ _ _) ?_; refine extr (v := .bool _) ?_; refine fld ?_; refine st (.slice _ _ _) _ ?_; refine asB ?_; refine LS.done ?_
      refine zN ?_; refine asI ?_; refine LS.done ?_
      refine zN ?_
      refine RS.nilD 0 PlaceD rcPl ?_
      have hn2 : rest2.length ≤ 100000 := by simp at hn; omega
      have hlen3 : decide ((((u0 :: u1 :: u2 :: rest2).map B).length : Int) = 3) = decide (rest2.length = 0) := by rw [decide_eq_decide]; simp only [List.length_map, List.length_cons]; omega
      refine RS.loopF (X := Nat × Value × List PlaceD × Bool × PH) 6 118 (fun z => z.1 ≤ rest2.length ∧ z.2.2.1 = tookX (rest2.take z.1) ∧ z.2.2.2.1 = (endR y.2 && fineX (rest2.take z.1)) ∧ PH.le σ2 z.2.2.2.2)
        (fun z => [(6, .bool z.2.2.2.1), (7, .int .i64 ((z.1 + 3 : Nat) : Int))]) (fun z => z.2.2.2.2)
        (fun z => rowD 0 rcPl z.2.1 z.2.2.1 :: rcB b4 3 x.1 (.slice ap y.1.length cp) z.2.1 ⟨#[]⟩ 0 0 nilV nilV false :: rcZ b2 :: K) (fun z => rest2.length - z.1) (0, nilV, [], endR y.2, σ2) ⟨by omega, by simp [tookX], by simp [fineX], PH.le_refl _⟩ ⟨rfl, rfl, trivial⟩ rfl ⟨fun h => h⟩ ?_
      rintro ⟨kk, vq, places, has, σ3⟩ g ⟨i1, i2, i3, i4⟩ ih
      dsimp only at i1 i2 i3 i4
      have hpl : places.length = kk := by rw [i2]; simp [tookX]; omega
      refine zN ?_; refine mvI ?_; refine mvL ?_; refine lenL ?_; refine ltI ?_; refine LS.done ?_
      refine zN ?_
      by_cases hlt : kk < rest2.length
      · refine RS.condT ?_ (h := by simp; omega)
        obtain ⟨u, hu⟩ : ∃ u, u = rest2[kk] := ⟨_, rfl⟩
        have hck : σ3.cell ba (oa + (kk + 3) * 1) = some (.string (B u)) := by
          have := (hrow.str (kk + 3) (by simp; omega)).1
          rw [List.getElem_map] at this
          simp only [List.getElem_cons_succ] at this
          rw [← hu] at this
          exact PH.cell_mono (PH.le_trans hle1 (PH.le_trans k2 i4)) this
        have hul : u.length ≤ 90000 := hl u (by rw [hu]; simp)
        have htk : rest2.take (kk + 1) = rest2.take kk ++ [u] := by rw [List.take_add_one, List.getElem?_eq_getElem hlt, hu]; rfl
        have hwi' : ((kk + 3 : Nat) : Int) + 1 = ((kk + 1 + 3 : Nat) : Int) := by omega
        refine zN ?_; refine mvL ?_; refine mvI ?_; refine idx (i := kk + 3) ?_ (hi := by simp; omega); refine ldS hck ?_
        refine callQ (fun v σ' => ∃ cs, Rep.rep σ' cs (placeX ⟨u, false⟩).1 ∧ v = .tuple (List.toArray [.agg (List.toArray cs), .bool (endR (placeX ⟨u, false⟩).2)])) (rowD 0 rcPl vq places :: rcB b4 3 x.1 (.slice ap y.1.length cp) vq ⟨#[]⟩ 0 0 nilV nilV false :: rcZ b2 :: K) (fun v σ4 hle4 hq4 => ?_) (hc := fun w' hw => place_x u (by omega) w' hw)
        obtain ⟨cs, hr4, rfl⟩ := hq4
        have hcs4 : cs = placeC (placeX ⟨u, false⟩).1 := hr4.1
        subst hcs4
        have k4 := hle4
        obtain ⟨p, hp⟩ : ∃ p, p = placeX ⟨u, false⟩ := ⟨_, rfl⟩
        rw [← hp] at hr4 ⊢
        have hcell : ∀ τ : PH, CellsL τ (placeC p.1) [p.1] := fun τ => CellsL.one_ (show Rep.rep τ (placeC p.1) p.1 from ⟨rfl, hr4.2⟩)
        refine mvT ?_; refine extr (v := _) ?_; refine extr (v := .bool _) ?_; refine alloc_ (fun b8 => ?_); refine st (.agg _) _ ?_; refine asB ?_; refine LS.done ?_
        have f1 : places ++ [p.1] = tookX (rest2.take (kk + 1)) := by rw [htk, i2]; unfold tookX; rw [List.map_append, hp]; rfl
        have f2 : (endR y.2 && fineX (rest2.take (kk + 1))) = (has && endR p.2) := by rw [htk, i3]; unfold fineX; rw [List.all_append, hp]; simp [Bool.and_assoc]
        cases has with
        | true =>
          refine zN ?_; refine mvB ?_; refine mvB ?_; refine LS.on ?_; refine mvB ?_; refine pk (v := .bool _) ?_; refine asB ?_; refine LS.done ?_
          refine zN ?_; refine fld ?_; refine ld1 (v := vq) ?_; refine ldA [_, _, _, _, _] ?_; refine bldS [.agg (List.toArray (placeC p.1))] (placeC p.1) (fun b115 => ?_); refine appD (v := vq) (l' := [p.1]) (vy := .slice (some ⟨b115, 0, none⟩) 1 1) (fun w' hw => ⟨_, srcB hw TSlice.eq, hcell _⟩) (fun v116 => ?_) (hb := by simp; omega) (hm := by simp; omega); refine LS.formD v116 (fun a116 c116 e116 _ => ?_); subst e116; refine fld ?_; refine st (.slice _ _ _) _ ?_; refine LS.done ?_
          refine zN ?_; refine mvI ?_; (first | refine addN ?_ | refine addI ?_); refine asI ?_; refine LS.done ?_
          refine zN ?_
          exact ih (kk + 1, _, places ++ [p.1], endR p.2, σ4) ⟨hlt, f1, by rw [f2]; simp, PH.le_trans i4 k4⟩ (by (try dsimp only); omega) ⟨rfl, intV hwi', trivial⟩ (by repeat (first | with_reducible exact Out.refl _ _ _ | exact Out.hv | refine Out.upd ?_ | refine Out.hvIn ?_)) ⟨fun h => h.tail.tail⟩ rfl
        | false =>
          refine zN ?_; refine mvB ?_; refine mvB ?_; refine LS.off ?_; refine pk (v := .bool _) ?_; refine asB ?_; refine LS.done ?_
          refine zN ?_; refine fld ?_; refine ld1 (v := vq) ?_; refine ldA [_, _, _, _, _] ?_; refine bldS [.agg (List.toArray (placeC p.1))] (placeC p.1) (fun b115 => ?_); refine appD (v := vq) (l' := [p.1]) (vy := .slice (some ⟨b115, 0, none⟩) 1 1) (fun w' hw => ⟨_, srcB hw TSlice.eq, hcell _⟩) (fun v116 => ?_) (hb := by simp; omega) (hm := by simp; omega); refine LS.formD v116 (fun a116 c116 e116 _ => ?_); subst e116; refine fld ?_; refine st (.slice _ _ _) _ ?_; refine LS.done ?_
          refine zN ?_; refine mvI ?_; (first | refine addN ?_ | refine addI ?_); refine asI ?_; refine LS.done ?_
          refine zN ?_
          exact ih (kk + 1, _, places ++ [p.1], false, σ4) ⟨hlt, f1, by rw [f2]; simp, PH.le_trans i4 k4⟩ (by (try dsimp only); omega) ⟨rfl, intV hwi', trivial⟩ (by repeat (first | with_reducible exact Out.refl _ _ _ | exact Out.hv | refine Out.upd ?_ | refine Out.hvIn ?_)) ⟨fun h => h.tail.tail⟩ rfl
      · refine RS.condF ?_ (h := by simp; omega)
        obtain rfl : kk = rest2.length := by omega
        rw [List.take_length] at i2
        have i3' : has = (endR y.2 && fineX rest2) := by rw [i3, List.take_length]
        refine RS.exit ?_
        refine RS.freeze0 (l := places) vq (fun σ4 hle4 hr4 => ?_) (hl := by omega)
        obtain ⟨a5, c5, rfl⟩ := hr4.form
        have hrep : Rep.rep σ4 (recC { rec0 with kind := 3, gang := x.1, peers := y.1, places := places } (.slice ap y.1.length cp) (.slice a5 places.length c5) nilV nilV) { rec0 with kind := 3, gang := x.1, peers := y.1, places := places } := ⟨_, _, _, _, rfl, ⟨by show (-9223372036854775808 : Int) ≤ 3; decide, by show (3 : Int) ≤ _; decide⟩, hnl, hq.mono (PH.le_trans i4 hle4), hr4, Nat.zero_le _, hz, hz, RepL.nil _ _ _, RepL.nil _ _ _⟩
        obtain ⟨ha1, ha2⟩ := three_x (u0 := u0) (rest2 := rest2) hk.symm hO1 hO2
        rw [← i2] at ha2
        cases he : endR x.2 with
        | true =>
          cases hh : has with
          | true =>
            refine zN ?_; refine ldA [_, _, _, _, _, _, _, _, _, _] ?_; refine mvB ?_; refine mvB ?_; refine LS.on ?_; refine mvB ?_; refine pk (v := .bool _) ?_; refine mvB ?_; refine LS.on ?_; refine fld ?_; refine LS.on ?_; refine ld1 (v := .int _ _) ?_; refine LS.on ?_; refine eqI ?_; refine LS.on ?_; refine mvB ?_; refine LS.off ?_; refine LS.off ?_; refine LS.off ?_; refine LS.on ?_; refine pk (v := .bool _) ?_; refine pk (v := .bool _) ?_; refine st (.agg _) _ ?_; refine asB ?_; refine LS.done ?_
            refine zN ?_
            refine RS.retCT (ty := rcTy) (v := .bool true) rdFn (recC { rec0 with kind := 3, gang := x.1, peers := y.1, places := places } (.slice ap y.1.length cp) (.slice a5 places.length c5) nilV nilV) fun w hw => ?_
            exact ⟨_, _, PH.le_trans hle1 (PH.le_trans k2 (PH.le_trans i4 hle4)), ⟨_, _, _, rfl, by rw [ha1, ← i3', hh, he]; simp, hrep, ha2⟩, rfl, hw.weak fun F h => h.tail.tail⟩
          | false =>
            refine zN ?_; refine ldA [_, _, _, _, _, _, _, _, _, _] ?_; refine mvB ?_; refine mvB ?_; refine LS.on ?_; refine mvB ?_; refine pk (v := .bool _) ?_; refine mvB ?_; refine LS.off ?_; refine LS.off ?_; refine LS.off ?_; refine LS.off ?_; refine LS.offU ?_; refine LS.offU ?_; refine LS.offU ?_; refine LS.off ?_; refine pk (v := .bool _) ?_; refine st (.agg _) _ ?_; refine asB ?_; refine LS.done ?_
            refine zN ?_
            refine RS.retCT (ty := rcTy) (v := .bool false) rdFn (recC { rec0 with kind := 3, gang := x.1, peers := y.1, places := places } (.slice ap y.1.length cp) (.slice a5 places.length c5) nilV nilV) fun w hw => ?_
            exact ⟨_, _, PH.le_trans hle1 (PH.le_trans k2 (PH.le_trans i4 hle4)), ⟨_, _, _, rfl, by rw [ha1, ← i3', hh, he]; simp, hrep, ha2⟩, rfl, hw.weak fun F h => h.tail.tail⟩
        | false =>
          refine zN ?_; refine ldA [_, _, _, _, _, _, _, _, _, _] ?_; refine mvB ?_; refine mvB ?_; refine LS.off ?_; refine pk (v := .bool _) ?_; refine mvB ?_; refine LS.off ?_; refine LS.off ?_; refine LS.off ?_; refine LS.off ?_; refine LS.offU ?_; refine LS.offU ?_; refine LS.offU ?_; refine LS.off ?_; refine pk (v := .bool _) ?_; refine st (.agg _) _ ?_; refine asB ?_; refine LS.done ?_
          refine zN ?_
          refine RS.retCT (ty := rcTy) (v := .bool false) rdFn (recC { rec0 with kind := 3, gang := x.1, peers := y.1, places := places } (.slice ap y.1.length cp) (.slice a5 places.length c5) nilV nilV) fun w hw => ?_
          exact ⟨_, _, PH.le_trans hle1 (PH.le_trans k2 (PH.le_trans i4 hle4)), ⟨_, _, _, rfl, by rw [ha1, he]; simp, hrep, ha2⟩, rfl, hw.weak fun F h => h.tail.tail⟩
  · refine RS.condF ?_
    refine zN ?_; refine eqI ?_; refine asB ?_; refine LS.done ?_
    refine zN ?_
    refine RS.condF ?_
    refine zN ?_; refine eqI ?_; refine asB ?_; refine LS.done ?_
    refine zN ?_
    refine RS.condF ?_
    refine zN ?_; refine mvL ?_; refine idx (i := 1) ?_ (hi := by simp); refine ldS hc1 ?_
    refine callQ (fun v _ => v = .tuple (List.toArray [.int .i64 (numX 999999999999999 ⟨u1, false⟩).1, .bool (endR (numX 999999999999999 ⟨u1, false⟩).2)])) (rcB b4 4 0 nilV nilV ⟨#[]⟩ 0 0 nilV nilV false :: rcZ b2 :: K) (fun v σ1 hle1 hq => ?_) (hc := fun w' hw => readNumber_x u1 (by omega) w' hw)
    subst hq
    have hO1 := numO_x u1
    have hnl := numX_in ⟨u1, false⟩
    obtain ⟨x, hx⟩ : ∃ x, x = numX 999999999999999 ⟨u1, false⟩ := ⟨_, rfl⟩
    rw [← hx] at hnl hO1 ⊢
    refine mvT ?_; refine extr (v := .int _ _) ?_; refine extr (v := .bool _) ?_; refine fld ?_; refine st (.int _ _) _ ?_; refine asB ?_; refine LS.done ?_
    have hz : I64 0 := ⟨by decide, by decide⟩
    have hrep : Rep.rep σ1 (recC { rec0 with kind := 4, gang := x.1 } nilV nilV nilV nilV) { rec0 with kind := 4, gang := x.1 } := ⟨_, _, _, _, rfl, ⟨by show (-9223372036854775808 : Int) ≤ 4; decide, by show (4 : Int) ≤ _; decide⟩, hnl, RepL.nil _ _ _, RepL.nil _ _ _, Nat.zero_le _, hz, hz, RepL.nil _ _ _, RepL.nil _ _ _⟩
    obtain ⟨ha1, ha2⟩ := one_some (rest := rest) (x := x) (g := fun n => ({ rec0 with kind := 4, gang := n } : RecD))
    have hO : readO (u0 :: u1 :: rest) = _ := read4 hk.symm (by decide)
    rw [hO1] at hO
    rw [← hO] at ha1 ha2
    refine zN ?_; refine fld ?_; refine ld1 (v := .int _ _) ?_; refine neI ?_; refine mvB ?_; refine LS.on ?_; refine fld ?_; refine LS.on ?_; refine ld1 (v := .int _ _) ?_; refine LS.on ?_; refine neI ?_; refine pk (v := .bool _) ?_; refine LS.done ?_
    refine zN ?_
    refine RS.condT ?_
    cases he : endR x.2 with
    | true =>
      rw [he] at ha1
      refine zN ?_; refine ldA [_, _, _, _, _, _, _, _, _, _] ?_; refine mvB ?_; refine mvB ?_; refine LS.on ?_; refine mvL ?_; refine LS.on ?_; refine lenL ?_; refine LS.on ?_; refine eqI ?_; rw [hlen2]; refine pk (v := .bool _) ?_; refine st (.agg _) _ ?_; refine asB ?_; refine LS.done ?_
      refine zN ?_
      refine RS.retCT (ty := rcTy) (v := .bool (decide (((rest.map B).length : Int) = 0))) rdFn _ fun w hw => ?_
      exact ⟨_, _, hle1, ⟨_, _, _, rfl, ha1.symm, hrep, ha2⟩, rfl, hw.weak fun F h => h.tail.tail⟩
    | false =>
      rw [he] at ha1
      refine zN ?_; refine ldA [_, _, _, _, _, _, _, _, _, _] ?_; refine mvB ?_; refine mvB ?_; refine LS.off ?_; refine LS.off ?_; refine LS.off ?_; refine pk (v := .bool _) ?_; refine st (.agg _) _ ?_; refine asB ?_; refine LS.done ?_
      refine zN ?_
      refine RS.retCT (ty := rcTy) (v := .bool false) rdFn _ fun w hw => ?_
      exact ⟨_, _, hle1, ⟨_, _, _, rfl, ha1.symm, hrep, ha2⟩, rfl, hw.weak fun F h => h.tail.tail⟩
  · refine RS.condF ?_
    refine zN ?_; refine eqI ?_; refine asB ?_; refine LS.done ?_
    refine zN ?_
    refine RS.condF ?_
    refine zN ?_; refine eqI ?_; refine asB ?_; refine LS.done ?_
    refine zN ?_
    refine RS.condF ?_
    refine zN ?_; refine mvL ?_; refine idx (i := 1) ?_ (hi := by simp); refine ldS hc1 ?_
    refine callQ (fun v _ => v = .tuple (List.toArray [.int .i64 (numX 999999999999999 ⟨u1, false⟩).1, .bool (endR (numX 999999999999999 ⟨u1, false⟩).2)])) (rcB b4 5 0 nilV nilV ⟨#[]⟩ 0 0 nilV nilV false :: rcZ b2 :: K) (fun v σ1 hle1 hq => ?_) (hc := fun w' hw => readNumber_x u1 (by omega) w' hw)
    subst hq
    have hO1 := numO_x u1
    have hnl := numX_in ⟨u1, false⟩
    obtain ⟨x, hx⟩ : ∃ x, x = numX 999999999999999 ⟨u1, false⟩ := ⟨_, rfl⟩
    rw [← hx] at hnl hO1 ⊢
    refine mvT ?_; refine extr (v := .int _ _) ?_; refine extr (v := .bool _) ?_; refine fld ?_; refine st (.int _ _) _ ?_; refine asB ?_; refine LS.done ?_
    have hz : I64 0 := ⟨by decide, by decide⟩
    have hrep : Rep.rep σ1 (recC { rec0 with kind := 5, gang := x.1 } nilV nilV nilV nilV) { rec0 with kind := 5, gang := x.1 } := ⟨_, _, _, _, rfl, ⟨by show (-9223372036854775808 : Int) ≤ 5; decide, by show (5 : Int) ≤ _; decide⟩, hnl, RepL.nil _ _ _, RepL.nil _ _ _, Nat.zero_le _, hz, hz, RepL.nil _ _ _, RepL.nil _ _ _⟩
    obtain ⟨ha1, ha2⟩ := one_some (rest := rest) (x := x) (g := fun n => ({ rec0 with kind := 5, gang := n } : RecD))
    have hO : readO (u0 :: u1 :: rest) = _ := read4 hk.symm (by decide)
    rw [hO1] at hO
    rw [← hO] at ha1 ha2
    refine zN ?_; refine fld ?_; refine ld1 (v := .int _ _) ?_; refine neI ?_; refine mvB ?_; refine LS.on ?_; refine fld ?_; refine LS.on ?_; refine ld1 (v := .int _ _) ?_; refine LS.on ?_; refine neI ?_; refine pk (v := .bool _) ?_; refine LS.done ?_
    refine zN ?_
    refine RS.condT ?_
    cases he : endR x.2 with
    | true =>
      rw [he] at ha1
      refine zN ?_; refine ldA [_, _, _, _, _, _, _, _, _, _] ?_; refine mvB ?_; refine mvB ?_; refine LS.on ?_; refine mvL ?_; refine LS.on ?_; refine lenL ?_; refine LS.on ?_; refine eqI ?_; rw [hlen2]; refine pk (v := .bool _) ?_; refine st (.agg _) _ ?_; refine asB ?_; refine LS.done ?_
      refine zN ?_
      refine RS.retCT (ty := rcTy) (v := .bool (decide (((rest.map B).length : Int) = 0))) rdFn _ fun w hw => ?_
      exact ⟨_, _, hle1, ⟨_, _, _, rfl, ha1.symm, hrep, ha2⟩, rfl, hw.weak fun F h => h.tail.tail⟩
    | false =>
      rw [he] at ha1
      refine zN ?_; refine ldA [_, _, _, _, _, _, _, _, _, _] ?_; refine mvB ?_; refine mvB ?_; refine LS.off ?_; refine LS.off ?_; refine LS.off ?_; refine pk (v := .bool _) ?_; refine st (.agg _) _ ?_; refine asB ?_; refine LS.done ?_
      refine zN ?_
      refine RS.retCT (ty := rcTy) (v := .bool false) rdFn _ fun w hw => ?_
      exact ⟨_, _, hle1, ⟨_, _, _, rfl, ha1.symm, hrep, ha2⟩, rfl, hw.weak fun F h => h.tail.tail⟩
  · refine RS.condF ?_
    refine zN ?_; refine eqI ?_; refine asB ?_; refine LS.done ?_
    refine zN ?_
    refine RS.condF ?_
    refine zN ?_; refine eqI ?_; refine asB ?_; refine LS.done ?_
    refine zN ?_
    refine RS.condF ?_
    refine zN ?_; refine mvL ?_; refine idx (i := 1) ?_ (hi := by simp); refine ldS hc1 ?_
    refine callQ (fun v _ => v = .tuple (List.toArray [.int .i64 (numX 999999999999999 ⟨u1, false⟩).1, .bool (endR (numX 999999999999999 ⟨u1, false⟩).2)])) (rcB b4 6 0 nilV nilV ⟨#[]⟩ 0 0 nilV nilV false :: rcZ b2 :: K) (fun v σ1 hle1 hq => ?_) (hc := fun w' hw => readNumber_x u1 (by omega) w' hw)
    subst hq
    have hO1 := numO_x u1
    have hnl := numX_in ⟨u1, false⟩
    obtain ⟨x, hx⟩ : ∃ x, x = numX 999999999999999 ⟨u1, false⟩ := ⟨_, rfl⟩
    rw [← hx] at hnl hO1 ⊢
    refine mvT ?_; refine extr (v := .int _ _) ?_; refine extr (v := .bool _) ?_; refine fld ?_; refine st (.int _ _) _ ?_; refine asB ?_; refine LS.done ?_
    have hz : I64 0 := ⟨by decide, by decide⟩
    have hrep : Rep.rep σ1 (recC { rec0 with kind := 6, gang := x.1 } nilV nilV nilV nilV) { rec0 with kind := 6, gang := x.1 } := ⟨_, _, _, _, rfl, ⟨by show (-9223372036854775808 : Int) ≤ 6; decide, by show (6 : Int) ≤ _; decide⟩, hnl, RepL.nil _ _ _, RepL.nil _ _ _, Nat.zero_le _, hz, hz, RepL.nil _ _ _, RepL.nil _ _ _⟩
    obtain ⟨ha1, ha2⟩ := one_some (rest := rest) (x := x) (g := fun n => ({ rec0 with kind := 6, gang := n } : RecD))
    have hO : readO (u0 :: u1 :: rest) = _ := read4 hk.symm (by decide)
    rw [hO1] at hO
    rw [← hO] at ha1 ha2
    refine zN ?_; refine fld ?_; refine ld1 (v := .int _ _) ?_; refine neI ?_; refine mvB ?_; refine LS.on ?_; refine fld ?_; refine LS.on ?_; refine ld1 (v := .int _ _) ?_; refine LS.on ?_; refine neI ?_; refine pk (v := .bool _) ?_; refine LS.done ?_
    refine zN ?_
    refine RS.condT ?_
    cases he : endR x.2 with
    | true =>
      rw [he] at ha1
      refine zN ?_; refine ldA [_, _, _, _, _, _, _, _, _, _] ?_; refine mvB ?_; refine mvB ?_; refine LS.on ?_; refine mvL ?_; refine LS.on ?_; refine lenL ?_; refine LS.on ?_; refine eqI ?_; rw [hlen2]; refine pk (v := .bool _) ?_; refine st (.agg _) _ ?_; refine asB ?_; refine LS.done ?_
      refine zN ?_
      refine RS.retCT (ty := rcTy) (v := .bool (decide (((rest.map B).length : Int) = 0))) rdFn _ fun w hw => ?_
      exact ⟨_, _, hle1, ⟨_, _, _, rfl, ha1.symm, hrep, ha2⟩, rfl, hw.weak fun F h => h.tail.tail⟩
    | false =>
      rw [he] at ha1
      refine zN ?_; refine ldA [_, _, _, _, _, _, _, _, _, _] ?_; refine mvB ?_; refine mvB ?_; refine LS.off ?_; refine LS.off ?_; refine LS.off ?_; refine pk (v := .bool _) ?_; refine st (.agg _) _ ?_; refine asB ?_; refine LS.done ?_
      refine zN ?_
      refine RS.retCT (ty := rcTy) (v := .bool false) rdFn _ fun w hw => ?_
      exact ⟨_, _, hle1, ⟨_, _, _, rfl, ha1.symm, hrep, ha2⟩, rfl, hw.weak fun F h => h.tail.tail⟩
  · refine RS.condF ?_
    refine zN ?_; refine eqI ?_; refine asB ?_; refine LS.done ?_
    refine zN ?_
    refine RS.condF ?_
    refine zN ?_; refine eqI ?_; refine asB ?_; refine LS.done ?_
    refine zN ?_
    refine RS.condF ?_
    refine zN ?_; refine mvL ?_; refine idx (i := 1) ?_ (hi := by simp); refine ldS hc1 ?_
    refine callQ (fun v _ => v = .tuple (List.toArray [.int .i64 (numX 999999999999999 ⟨u1, false⟩).1, .bool (endR (numX 999999999999999 ⟨u1, false⟩).2)])) (rcB b4 7 0 nilV nilV ⟨#[]⟩ 0 0 nilV nilV false :: rcZ b2 :: K) (fun v σ1 hle1 hq => ?_) (hc := fun w' hw => readNumber_x u1 (by omega) w' hw)
    subst hq
    have hO1 := numO_x u1
    have hnl := numX_in ⟨u1, false⟩
    obtain ⟨x, hx⟩ : ∃ x, x = numX 999999999999999 ⟨u1, false⟩ := ⟨_, rfl⟩
    rw [← hx] at hnl hO1 ⊢
    refine mvT ?_; refine extr (v := .int _ _) ?_; refine extr (v := .bool _) ?_; refine fld ?_; refine st (.int _ _) _ ?_; refine asB ?_; refine LS.done ?_
    have hz : I64 0 := ⟨by decide, by decide⟩
    refine zN ?_; refine fld ?_; refine ld1 (v := .int _ _) ?_; refine neI ?_; refine mvB ?_; refine LS.on ?_; refine fld ?_; refine LS.on ?_; refine ld1 (v := .int _ _) ?_; refine LS.on ?_; refine neI ?_; refine pk (v := .bool _) ?_; refine LS.done ?_
    refine zN ?_
    refine RS.condF ?_
    refine zN ?_; refine mvL ?_; refine lenL ?_; refine ltI ?_; refine LS.done ?_
    refine zN ?_
    cases rest with
    | nil =>
      refine RS.condT ?_
      refine zN ?_; refine ldA [_, _, _, _, _, _, _, _, _, _] ?_; refine st (.agg _) _ ?_; refine asB ?_; refine LS.done ?_
      refine zN ?_
      refine RS.retCT (ty := rcTy) (v := .bool false) rdFn (recC { rec0 with kind := 7, gang := x.1 } nilV nilV nilV nilV) fun w hw => ?_
      have hno : readO [u0, u1] = none := read7 hk.symm
      exact ⟨_, σ1, hle1, ⟨_, _, { rec0 with kind := 7, gang := x.1 }, rfl, by rw [hno]; rfl, ⟨_, _, _, _, rfl, ⟨by show (-9223372036854775808 : Int) ≤ 7; decide, by show (7 : Int) ≤ _; decide⟩, hnl, RepL.nil _ _ _, RepL.nil _ _ _, Nat.zero_le _, hz, hz, RepL.nil _ _ _, RepL.nil _ _ _⟩, fun r hr => by rw [hno] at hr; cases hr⟩, rfl, hw.weak fun F h => h.tail.tail⟩
    | cons u2 rest2 =>
      refine RS.condF ?_ (h := by simp; omega)
      have hc2 : σ1.cell ba (oa + 2 * 1) = some (.string (B u2)) := PH.cell_mono hle1 (hrow.str 2 (by simp)).1
      have hl2 : u2.length ≤ 90000 := hl u2 (by simp)
      refine zN ?_; refine mvL ?_; refine idx (i := 2) ?_ (hi := by simp); refine ldS hc2 ?_
      refine callQ (fun v σ' => ∃ v1, RepL σ' v1 (intsX ⟨u2, false⟩).1 ∧ v = .tuple (List.toArray [v1, .bool (endR (intsX ⟨u2, false⟩).2)])) (rcB b4 7 x.1 nilV nilV ⟨#[]⟩ 0 0 nilV nilV false :: rcZ b2 :: K) (fun v σ2 hle2 hq => ?_) (hc := fun w' hw => ints_x u2 (by omega) w' hw)
      obtain ⟨v1, hq, rfl⟩ := hq
      have hO2 := peersO_x u2
      obtain ⟨y, hy⟩ : ∃ y, y = intsX ⟨u2, false⟩ := ⟨_, rfl⟩
      rw [← hy] at hq hO2 ⊢
      obtain ⟨ap, cp, rfl⟩ := hq.form
      have k2 := hle2
      refine mvT ?_; refine extr (v := .slice _ _ _) ?_; refine extr (v := .bool _) ?_; refine fld ?_; refine st (.slice _ _ _) _ ?_; refine asB ?_; refine LS.done ?_
      refine zN ?_; refine asI ?_; refine LS.done ?_
      refine zN ?_
      refine RS.nilD 0 PlaceD rcPl ?_
      have hn2 : rest2.length ≤ 100000 := by simp at hn; omega
      have hlen3 : decide ((((u0 :: u1 :: u2 :: rest2).map B).length : Int) = 3) = decide (rest2.length = 0) := by rw [decide_eq_decide]; simp only [List.length_map, List.length_cons]; omega
      refine RS.loopF (X := Nat × Value × List PlaceD × Bool × PH) 6 118 (fun z => z.1 ≤ rest2.length ∧ z.2.2.1 = tookX (rest2.take z.1) ∧ z.2.2.2.1 = (endR y.2 && fineX (rest2.take z.1)) ∧ PH.le σ2 z.2.2.2.2)
        (fun z => [(6, .bool z.2.2.2.1), (7, .int .i64 ((z.1 + 3 : Nat) : Int))]) (fun z => z.2.2.2.2)
        (fun z => rowD 0 rcPl z.2.1 z.2.2.1 :: rcB b4 7 x.1 (.slice ap y.1.length cp) z.2.1 ⟨#[]⟩ 0 0 nilV nilV false :: rcZ b2 :: K) (fun z => rest2.length - z.1) (0, nilV, [], endR y.2, σ2) ⟨by omega, by simp [tookX], by simp [fineX], PH.le_refl _⟩ ⟨rfl, rfl, trivial⟩ rfl ⟨fun h => h⟩ ?_
      rintro ⟨kk, vq, places, has, σ3⟩ g ⟨i1, i2, i3, i4⟩ ih
      dsimp only at i1 i2 i3 i4
      have hpl : places.length = kk := by rw [i2]; simp [tookX]; omega
      refine zN ?_; refine mvI ?_; refine mvL ?_; refine lenL ?_; refine ltI ?_; refine LS.done ?_
      refine zN ?_
      by_cases hlt : kk < rest2.length
      · refine RS.condT ?_ (h := by simp; omega)
        obtain ⟨u, hu⟩ : ∃ u, u = rest2[kk] := ⟨_, rfl⟩
        have hck : σ3.cell ba (oa + (kk + 3) * 1) = some (.string (B u)) := by
          have := (hrow.str (kk + 3) (by simp; omega)).1
          rw [List.getElem_map] at this
          simp only [List.getElem_cons_succ] at this
          rw [← hu] at this
          exact PH.cell_mono (PH.le_trans hle1 (PH.le_trans k2 i4)) this
        have hul : u.length ≤ 90000 := hl u (by rw [hu]; simp)
        have htk : rest2.take (kk + 1) = rest2.take kk ++ [u] := by rw [List.take_add_one, List.getElem?_eq_getElem hlt, hu]; rfl
        have hwi' : ((kk + 3 : Nat) : Int) + 1 = ((kk + 1 + 3 : Nat) : Int) := by omega
        refine zN ?_; refine mvL ?_; refine mvI ?_; refine idx (i := kk + 3) ?_ (hi := by simp; omega); refine ldS hck ?_
        refine callQ (fun v σ' => ∃ cs, Rep.rep σ' cs (placeX ⟨u, false⟩).1 ∧ v = .tuple (List.toArray [.agg (List.toArray cs), .bool (endR (placeX ⟨u, false⟩).2)])) (rowD 0 rcPl vq places :: rcB b4 7 x.1 (.slice ap y.1.length cp) vq ⟨#[]⟩ 0 0 nilV nilV false :: rcZ b2 :: K) (fun v σ4 hle4 hq4 => ?_) (hc := fun w' hw => place_x u (by omega) w' hw)
        obtain ⟨cs, hr4, rfl⟩ := hq4
        have hcs4 : cs = placeC (placeX ⟨u, false⟩).1 := hr4.1
        subst hcs4
        have k4 := hle4
        obtain ⟨p, hp⟩ : ∃ p, p = placeX ⟨u, false⟩ := ⟨_, rfl⟩
        rw [← hp] at hr4 ⊢
        have hcell : ∀ τ : PH, CellsL τ (placeC p.1) [p.1] := fun τ => CellsL.one_ (show Rep.rep τ (placeC p.1) p.1 from ⟨rfl, hr4.2⟩)
        refine mvT ?_; refine extr (v := _) ?_; refine extr (v := .bool _) ?_; refine alloc_ (fun b8 => ?_); refine st (.agg _) _ ?_; refine asB ?_; refine LS.done ?_
        have f1 : places ++ [p.1] = tookX (rest2.take (kk + 1)) := by rw [htk, i2]; unfold tookX; rw [List.map_append, hp]; rfl
        have f2 : (endR y.2 && fineX (rest2.take (kk + 1))) = (has && endR p.2) := by rw [htk, i3]; unfold fineX; rw [List.all_append, hp]; simp [Bool.and_assoc]
        cases has with
        | true =>
          refine zN ?_; refine mvB ?_; refine mvB ?_; refine LS.on ?_; refine mvB ?_; refine pk (v := .bool _) ?_; refine asB ?_; refine LS.done ?_
          refine zN ?_; refine fld ?_; refine ld1 (v := vq) ?_; refine ldA [_, _, _, _, _] ?_; refine bldS [.agg (List.toArray (placeC p.1))] (placeC p.1) (fun b115 => ?_); refine appD (v := vq) (l' := [p.1]) (vy := .slice (some ⟨b115, 0, none⟩) 1 1) (fun w' hw => ⟨_, srcB hw TSlice.eq, hcell _⟩) (fun v116 => ?_) (hb := by simp; omega) (hm := by simp; omega); refine LS.formD v116 (fun a116 c116 e116 _ => ?_); subst e116; refine fld ?_; refine st (.slice _ _ _) _ ?_; refine LS.done ?_
          refine zN ?_; refine mvI ?_; (first | refine addN ?_ | refine addI ?_); refine asI ?_; refine LS.done ?_
          refine zN ?_
          exact ih (kk + 1, _, places ++ [p.1], endR p.2, σ4) ⟨hlt, f1, by rw [f2]; simp, PH.le_trans i4 k4⟩ (by (try dsimp only); omega) ⟨rfl, intV hwi', trivial⟩ (by repeat (first | with_reducible exact Out.refl _ _ _ | exact Out.hv | refine Out.upd ?_ | refine Out.hvIn ?_)) ⟨fun h => h.tail.tail⟩ rfl
        | false =>
          refine zN ?_; refine mvB ?_; refine mvB ?_; refine LS.off ?_; refine pk (v := .bool _) ?_; refine asB ?_; refine LS.done ?_
          refine zN ?_; refine fld ?_; refine ld1 (v := vq) ?_; refine ldA [_, _, _, _, _] ?_; refine bldS [.agg (List.toArray (placeC p.1))] (placeC p.1) (fun b115 => ?_); refine appD (v := vq) (l' := [p.1]) (vy := .slice (some ⟨b115, 0, none⟩) 1 1) (fun w' hw => ⟨_, srcB hw TSlice.eq, hcell _⟩) (fun v116 => ?_) (hb := by simp; omega) (hm := by simp; omega); refine LS.formD v116 (fun a116 c116 e116 _ => ?_); subst e116; refine fld ?_; refine st (.slice _ _ _) _ ?_; refine LS.done ?_
          refine zN ?_; refine mvI ?_; (first | refine addN ?_ | refine addI ?_); refine asI ?_; refine LS.done ?_
          refine zN ?_
          exact ih (kk + 1, _, places ++ [p.1], false, σ4) ⟨hlt, f1, by rw [f2]; simp, PH.le_trans i4 k4⟩ (by (try dsimp only); omega) ⟨rfl, intV hwi', trivial⟩ (by repeat (first | with_reducible exact Out.refl _ _ _ | exact Out.hv | refine Out.upd ?_ | refine Out.hvIn ?_)) ⟨fun h => h.tail.tail⟩ rfl
      · refine RS.condF ?_ (h := by simp; omega)
        obtain rfl : kk = rest2.length := by omega
        rw [List.take_length] at i2
        have i3' : has = (endR y.2 && fineX rest2) := by rw [i3, List.take_length]
        refine RS.exit ?_
        refine RS.freeze0 (l := places) vq (fun σ4 hle4 hr4 => ?_) (hl := by omega)
        obtain ⟨a5, c5, rfl⟩ := hr4.form
        have hrep : Rep.rep σ4 (recC { rec0 with kind := 7, gang := x.1, peers := y.1, places := places } (.slice ap y.1.length cp) (.slice a5 places.length c5) nilV nilV) { rec0 with kind := 7, gang := x.1, peers := y.1, places := places } := ⟨_, _, _, _, rfl, ⟨by show (-9223372036854775808 : Int) ≤ 7; decide, by show (7 : Int) ≤ _; decide⟩, hnl, hq.mono (PH.le_trans i4 hle4), hr4, Nat.zero_le _, hz, hz, RepL.nil _ _ _, RepL.nil _ _ _⟩
        obtain ⟨ha1, ha2⟩ := seven_x (u0 := u0) (rest2 := rest2) hk.symm hO1 hO2
        rw [← i2] at ha2
        cases he : endR x.2 with
        | true =>
          cases hh : has with
          | true =>
            refine zN ?_; refine ldA [_, _, _, _, _, _, _, _, _, _] ?_; refine mvB ?_; refine mvB ?_; refine LS.on ?_; refine mvB ?_; refine pk (v := .bool _) ?_; refine mvB ?_; refine LS.on ?_; refine fld ?_; refine LS.on ?_; refine ld1 (v := .int _ _) ?_; refine LS.on ?_; refine eqI ?_; refine LS.on ?_; refine mvB ?_; refine LS.on ?_; refine mvL ?_; refine LS.on ?_; refine lenL ?_; refine LS.on ?_; refine eqI ?_; rw [hlen3]; refine LS.on ?_; refine pk (v := .bool _) ?_; refine pk (v := .bool _) ?_; refine st (.agg _) _ ?_; refine asB ?_; refine LS.done ?_
            refine zN ?_
            refine RS.retCT (ty := rcTy) (v := .bool (decide (rest2.length = 0))) rdFn (recC { rec0 with kind := 7, gang := x.1, peers := y.1, places := places } (.slice ap y.1.length cp) (.slice a5 places.length c5) nilV nilV) fun w hw => ?_
            exact ⟨_, _, PH.le_trans hle1 (PH.le_trans k2 (PH.le_trans i4 hle4)), ⟨_, _, _, rfl, by rw [ha1, ← i3', hh, he]; simp, hrep, ha2⟩, rfl, hw.weak fun F h => h.tail.tail⟩
          | false =>
            refine zN ?_; refine ldA [_, _, _, _, _, _, _, _, _, _] ?_; refine mvB ?_; refine mvB ?_; refine LS.on ?_; refine mvB ?_; refine pk (v := .bool _) ?_; refine mvB ?_; refine LS.off ?_; refine LS.off ?_; refine LS.off ?_; refine LS.off ?_; refine LS.offU ?_; refine LS.offU ?_; refine LS.offU ?_; refine LS.off ?_; refine pk (v := .bool _) ?_; refine st (.agg _) _ ?_; refine asB ?_; refine LS.done ?_
            refine zN ?_
            refine RS.retCT (ty := rcTy) (v := .bool false) rdFn (recC { rec0 with kind := 7, gang := x.1, peers := y.1, places := places } (.slice ap y.1.length cp) (.slice a5 places.length c5) nilV nilV) fun w hw => ?_
            exact ⟨_, _, PH.le_trans hle1 (PH.le_trans k2 (PH.le_trans i4 hle4)), ⟨_, _, _, rfl, by rw [ha1, ← i3', hh, he]; simp, hrep, ha2⟩, rfl, hw.weak fun F h => h.tail.tail⟩
        | false =>
          refine zN ?_; refine ldA [_, _, _, _, _, _, _, _, _, _] ?_; refine mvB ?_; refine mvB ?_; refine LS.off ?_; refine pk (v := .bool _) ?_; refine mvB ?_; refine LS.off ?_; refine LS.off ?_; refine LS.off ?_; refine LS.off ?_; refine LS.offU ?_; refine LS.offU ?_; refine LS.offU ?_; refine LS.off ?_; refine pk (v := .bool _) ?_; refine st (.agg _) _ ?_; refine asB ?_; refine LS.done ?_
          refine zN ?_
          refine RS.retCT (ty := rcTy) (v := .bool false) rdFn (recC { rec0 with kind := 7, gang := x.1, peers := y.1, places := places } (.slice ap y.1.length cp) (.slice a5 places.length c5) nilV nilV) fun w hw => ?_
          exact ⟨_, _, PH.le_trans hle1 (PH.le_trans k2 (PH.le_trans i4 hle4)), ⟨_, _, _, rfl, by rw [ha1, he]; simp, hrep, ha2⟩, rfl, hw.weak fun F h => h.tail.tail⟩
end
end Go.Proofs.YtealabaiamaojaaGreatDoor
namespace Go.Proofs.YtealabaiamaojaaGreatDoor
open Go.JW Go.RowKit
theorem dig1_eq {n : Int} (h0 : 0 ≤ n) (h1 : n < 10) : List.foldl (fun (r : ByteArray) (n : Int) => r.push (UInt8.ofNat n.toNat)) ByteArray.empty [IntKind.u8.wrap (48 + n)] = B (digN n.toNat) := by
  have : ∀ i : Fin 10, List.foldl (fun (r : ByteArray) (n : Int) => r.push (UInt8.ofNat n.toNat)) ByteArray.empty [IntKind.u8.wrap (48 + (i.val : Int))] = B (digN i.val) := by decide +kernel
  have := this ⟨n.toNat, by omega⟩
  simpa [show ((n.toNat : Nat) : Int) = n by omega] using this
theorem digits1_x (n : Int) (h0 : 0 ≤ n) (h1 : n < 10) (w : World) : Calls Tryz.prog 42 #[.int .i64 n] w fun e w' => e = .returned (.string (B (digN n.toNat))) ∧ Below w.heap.size w w' := by
  refine RS.enter Tryz.func42 Tryz.ntmps42 rfl rfl ?_
  refine zN ?_; refine asS ?_; refine LS.done ?_
  refine zN ?_; refine mvI ?_; refine ltI ?_; refine LS.done ?_
  refine zN ?_
  refine RS.condF ?_ (h := by simp; omega)
  refine zN ?_; refine mvI ?_; refine geI ?_; refine LS.done ?_
  refine zN ?_
  refine RS.condF ?_ (h := by simp; omega)
  refine zN ?_; refine mvI ?_; (first | refine addN ?_ | refine addI ?_); refine cvI ?_; refine bldS [.int _ _] [.int _ _] (fun b21 => ?_); refine b2sB [IntKind.u8.wrap (48 + n)] ?_; refine asS ?_; refine LS.done ?_
  refine zN ?_; refine RS.ret1 (v := .string _) Tryz.func42 fun w hw => ?_
  exact ⟨by rw [← dig1_eq h0 h1], hw.below⟩
theorem digits_k : ∀ (k : Nat) (n : Int), 0 ≤ n → n < 10 ^ k → n ≤ 9223372036854775807 → ∀ w : World, Calls Tryz.prog 42 #[.int .i64 n] w fun e w' => e = .returned (.string (B (digN n.toNat))) ∧ Below w.heap.size w w' := by
  intro k
  induction k with
  | zero => intro n h0 h1 _ w; exact digits1_x n h0 (by have h1 : n < 1 := h1; omega) w
  | succ k ih =>
    intro n h0 h1 hk w
    by_cases h10 : n < 10
    · exact digits1_x n h0 h10 w
    have hp : (10 : Int) ^ (k + 1) = 10 ^ k * 10 := Int.pow_succ ..
    have hN : n.toNat < 10 ^ 19 := by have : (10 : Nat) ^ 19 = 10000000000000000000 := rfl; omega
    have hq : n.tdiv 10 = n / 10 := by rw [Int.tdiv_eq_ediv_of_nonneg h0]
    have hm : n.tmod 10 = n % 10 := by rw [Int.tmod_eq_emod_of_nonneg h0]
    have hq1 : (n / 10).toNat < 10 ^ 19 := by have : (10 : Nat) ^ 19 = 10000000000000000000 := rfl; omega
    have e1 := digN_len (n / 10).toNat
    have e2 := digN_len (n % 10).toNat
    have s1 : (B (digN (n / 10).toNat)).size = (digN (n / 10).toNat).length := B_size _
    have s2 : (B (digN (n % 10).toNat)).size = (digN (n % 10).toNat).length := B_size _
    refine RS.enter Tryz.func42 Tryz.ntmps42 rfl rfl ?_
    refine zN ?_; refine asS ?_; refine LS.done ?_
    refine zN ?_; refine mvI ?_; refine ltI ?_; refine LS.done ?_
    refine zN ?_
    refine RS.condF ?_ (h := by simp; omega)
    refine zN ?_; refine mvI ?_; refine geI ?_; refine LS.done ?_
    refine zN ?_
    refine RS.condT ?_ (h := by simp; omega)
    refine zN ?_; refine mvI ?_; refine quoN ?_
    rw [hq]
    refine callP ?_ (hc := fun w' _ => ih (n / 10) (by omega) (by omega) (by omega) w')
    refine mvI ?_; refine remI ?_
    rw [hm]
    refine callP ?_ (hc := fun w' _ => digits1_x (n % 10) (by omega) (by omega) w')
    refine addS ?_; refine asS ?_; refine LS.done ?_
    refine zN ?_; refine RS.ret1 (v := .string _) Tryz.func42 fun w hw => ?_
    refine ⟨?_, hw.below⟩
    rw [B_add, digN_step (n := n.toNat) (by omega) hN, show n.toNat / 10 = (n / 10).toNat by omega, show n.toNat % 10 = (n % 10).toNat by omega]
theorem digits_x (n : Int) (h : 0 ≤ n ∧ n ≤ 9223372036854775807) (w : World) : Calls Tryz.prog 42 #[.int .i64 n] w fun e w' => e = .returned (.string (B (digN n.toNat))) ∧ Below w.heap.size w w' :=
  digits_k 19 n h.1 (by have : (10 : Int) ^ 19 = 10000000000000000000 := rfl; omega) h.2 w
abbrev veR (b : Nat) (c m : Int) : HP := blk b (.cells (List.toArray [.int .i64 c, .int .i64 m]) 28 (0, 0))
theorem vecT_x (c m : Int) (hc : 0 ≤ c ∧ c ≤ 9223372036854775807) (hm : 0 ≤ m ∧ m ≤ 9223372036854775807) (w : World) : Calls Tryz.prog 44 #[.agg (List.toArray [.int .i64 c, .int .i64 m])] w fun e w' => e = .returned (.string (B (vecT c m))) ∧ Below w.heap.size w w' := by
  have e1 := digN_len c.toNat
  have e2 := digN_len m.toNat
  have s1 : (B (digN c.toNat)).size = (digN c.toNat).length := B_size _
  have s2 : (B (digN m.toNat)).size = (digN m.toNat).length := B_size _
  have s3 : (⟨#[44]⟩ : ByteArray).size = 1 := rfl
  have s4 : (B (digN c.toNat) ++ (⟨#[44]⟩ : ByteArray)).size = (digN c.toNat).length + 1 := by rw [ByteArray.size_append, s1, s3]
  refine RS.enter Tryz.func44 Tryz.ntmps44 rfl rfl ?_
  refine zN ?_; refine box_ (v := .agg _) (cs := [_, _]) (fun b1 => ?_); refine asS ?_; refine LS.done ?_
  refine zD ?_; refine RS.draw [.free, .ex, .ex, .free, .free, .ex, .ex, .free, .free] [veR b1 c m] ?_ (by kernel_rfl) (by kernel_rfl) (by infer_instance); refine D.fld ?_; refine D.ld1 (v := .int .i64 c) ?_
  refine D.callP ?_ (hc := fun _ _ w hle _ hw => digits_x c hc w)
  refine D.addS ?_; refine D.fld ?_; refine D.ld1 (v := .int .i64 m) ?_
  refine D.callP ?_ (hc := fun _ _ w hle _ hw => digits_x m hm w)
  refine D.addS ?_; refine D.asS ?_; refine D.done (fun us σ1 hle1 hfs => ?_)
  refine zN ?_; refine RS.ret1 (v := .string _) Tryz.func44 fun w hw => ?_
  exact ⟨by rw [show (⟨#[44]⟩ : ByteArray) = B [44] from rfl, B_add, B_add]; unfold vecT; simp, hw.below⟩
theorem rowT_x (c : UInt8) (l : List ByteArray) (v : Value) (w : World) (h : RepL (hp w) v l) (hb : l.length ≤ 1000) : Calls Tryz.prog 65 #[.string (B [c]), v] w fun e w' => e = .returned (.string (B (signedT c (l.map bs)))) ∧ Below w.heap.size w w' := by
  obtain ⟨a, cap, rfl⟩ := h.form
  refine RS.enter Tryz.func65 Tryz.ntmps65 rfl rfl ?_
  refine zN ?_; refine asS ?_; refine LS.done ?_
  refine zN ?_; refine asS ?_; refine LS.done ?_
  refine zN ?_; refine asI ?_; refine LS.done ?_
  refine zN ?_
  refine RS.loopF (X := Nat) 5 21 (fun k => k ≤ l.length ∧ (signedT c ((l.take k).map bs)).length ≤ k * 140737488355329) (fun k => [(5, .string (B (signedT c ((l.take k).map bs)))), (6, .int .i64 k)]) (fun _ => hp w) (fun _ => []) (fun k => l.length - k) 0 ⟨by omega, by simp [signedT]⟩ ⟨rfl, rfl, trivial⟩ rfl inferInstance ?_
  rintro k g ⟨h1, h2⟩ ih
  refine zN ?_; refine mvI ?_; refine mvL ?_; refine lenL ?_; refine ltI ?_; refine LS.done ?_
  refine zN ?_
  by_cases hlt : k < l.length
  · refine RS.condT ?_ (h := by simp; omega)
    obtain ⟨b, o, rfl, hr⟩ := h.addr (fun e => by simp [e] at hlt)
    obtain ⟨hc, hin⟩ := hr.str k hlt
    obtain ⟨x, hx⟩ : ∃ x, x = l[k] := ⟨_, rfl⟩
    rw [← hx] at hc hin
    have hxl := bs_len x
    have htk : signedT c ((l.take (k + 1)).map bs) = signedT c ((l.take k).map bs) ++ c :: bs x := by rw [List.take_add_one, List.getElem?_eq_getElem hlt, ← hx, List.map_append]; exact signedT_snoc _ _ _
    have s1 : (B [c]).size = 1 := rfl
    have s3 := B_size (signedT c ((l.take k).map bs))
    have s2 : (B (signedT c ((l.take k).map bs)) ++ B [c]).size = (signedT c ((l.take k).map bs)).length + 1 := by rw [ByteArray.size_append, s1, s3]
    refine zN ?_; refine mvS ?_; refine mvS ?_; refine addS ?_; refine mvL ?_; refine mvI ?_; refine idx (i := k) ?_; refine ldS hc ?_; refine addS ?_; refine asS ?_; refine LS.done ?_
    rw [show B (signedT c ((l.take k).map bs)) ++ B [c] ++ x = B (signedT c ((l.take (k + 1)).map bs)) by rw [htk, ← B_bs x, B_add, B_add, B_bs]; simp]
    refine zN ?_; refine mvI ?_; (first | refine addN ?_ | refine addI ?_); refine asI ?_; refine LS.done ?_; refine zN ?_
    exact ih (k + 1) ⟨hlt, by rw [htk, List.length_append, List.length_cons, hxl]; omega⟩ (by omega) ⟨rfl, rfl, trivial⟩ (by repeat (first | with_reducible exact Out.refl _ _ _ | exact Out.hv | refine Out.upd ?_ | refine Out.hvIn ?_)) inferInstance rfl
  · refine RS.condF ?_ (h := by simp; omega)
    obtain rfl : k = l.length := by omega
    rw [List.take_length]
    refine zN ?_; refine mvS ?_; refine asS ?_; refine LS.done ?_; refine zN ?_; refine RS.ret1 (v := .string _) Tryz.func65 fun w hw => ?_
    exact ⟨rfl, hw.below⟩
theorem flagT_x (z : Bool) (w : World) : Calls Tryz.prog 45 #[.bool z] w fun e w' => e = .returned (.string (B (flagT z))) ∧ Below w.heap.size w w' := by
  refine RS.enter Tryz.func45 Tryz.ntmps45 rfl rfl ?_
  refine zN ?_; refine asS ?_; refine LS.done ?_
  refine zN ?_; refine mvB ?_; refine LS.done ?_
  refine zN ?_
  cases z with
  | true => refine RS.condT ?_
            refine zN ?_; refine asS ?_; refine LS.done ?_; refine zN ?_; refine RS.ret1 (v := .string _) Tryz.func45 fun w hw => ?_
            exact ⟨rfl, hw.below⟩
  | false => refine RS.condF ?_
             refine zN ?_; refine asS ?_; refine LS.done ?_; refine zN ?_; refine RS.ret1 (v := .string _) Tryz.func45 fun w hw => ?_
             exact ⟨rfl, hw.below⟩
theorem nums_x (l : List Int) (v : Value) (w : World) (h : RepL (hp w) v l) (hb : l.length ≤ 1000) (hi : ∀ x ∈ l, 0 ≤ x ∧ x ≤ 9223372036854775807) : Calls Tryz.prog 43 #[v] w fun e w' => e = .returned (.string (B (peersT l))) ∧ Below w.heap.size w w' := by
  obtain ⟨a, cap, rfl⟩ := h.form
  refine RS.enter Tryz.func43 Tryz.ntmps43 rfl rfl ?_
  refine zN ?_; refine asS ?_; refine LS.done ?_
  refine zN ?_; refine asS ?_; refine LS.done ?_
  refine zN ?_; refine asI ?_; refine LS.done ?_
  refine zN ?_
  refine RS.loopF (X := Nat) 3 22 (fun k => k ≤ l.length) (fun k => [(3, .string (B (peersT (l.take k)))), (4, .int .i64 k)]) (fun _ => hp w) (fun _ => []) (fun k => l.length - k) 0 (Nat.zero_le _) ⟨rfl, rfl, trivial⟩ rfl inferInstance ?_
  rintro k g h1 ih
  refine zN ?_; refine mvI ?_; refine mvL ?_; refine lenL ?_; refine ltI ?_; refine LS.done ?_
  refine zN ?_
  by_cases hlt : k < l.length
  · refine RS.condT ?_ (h := by simp; omega)
    obtain ⟨b, o, rfl, hr⟩ := h.addr (fun e => by simp [e] at hlt)
    obtain ⟨hc, hin⟩ := hr.int k hlt
    obtain ⟨x, hx⟩ : ∃ x, x = l[k] := ⟨_, rfl⟩
    rw [← hx] at hc hin
    have hx0 := hi x (by rw [hx]; exact List.getElem_mem _)
    have htk : l.take (k + 1) = l.take k ++ [x] := by rw [List.take_add_one, List.getElem?_eq_getElem hlt, ← hx]; rfl
    have s1 : (⟨#[44]⟩ : ByteArray).size = 1 := rfl
    have s3 : (B (peersT (l.take k))).size = (peersT (l.take k)).length := B_size _
    have s4 := peersT_size (l.take k)
    rw [List.length_take] at s4
    have s5 := digN_len x.toNat
    have s6 : (B (digN x.toNat)).size = (digN x.toNat).length := B_size _
    refine zN ?_; refine mvI ?_; refine gtI ?_; refine LS.done ?_
    refine zN ?_
    refine RS.cond (fun z => ?_) (fun z => ?_)
    · have z : 0 < (k : Int) := of_decide_eq_true z
      have hne : l.take k ≠ [] := fun e => by have := congrArg List.length e; rw [List.length_take, List.length_nil] at this; omega
      have s2 : (B (peersT (l.take k)) ++ (⟨#[44]⟩ : ByteArray)).size = (peersT (l.take k)).length + 1 := by rw [ByteArray.size_append, s3, s1]
      refine zN ?_; refine mvS ?_; refine addS ?_; refine asS ?_; refine LS.done ?_
      refine zN ?_
      refine zN ?_; refine mvS ?_; refine mvL ?_; refine mvI ?_; refine idx (i := k) ?_; refine ldS hc ?_
      refine callP ?_ (hc := fun w' _ => digits_x x hx0 w')
      refine addS ?_; refine asS ?_; refine LS.done ?_
      rw [show B (peersT (l.take k)) ++ (⟨#[44]⟩ : ByteArray) ++ B (digN x.toNat) = B (peersT (l.take (k + 1))) by rw [htk, peersT_app _ _ hne, show (⟨#[44]⟩ : ByteArray) = B [44] from rfl, B_add, B_add]; simp]
      refine zN ?_; refine mvI ?_; (first | refine addN ?_ | refine addI ?_); refine asI ?_; refine LS.done ?_; refine zN ?_
      exact ih (k + 1) hlt (by omega) ⟨rfl, rfl, trivial⟩ (by repeat (first | with_reducible exact Out.refl _ _ _ | exact Out.hv | refine Out.upd ?_ | refine Out.hvIn ?_)) inferInstance rfl
    · have z : ¬ 0 < (k : Int) := of_decide_eq_false z
      obtain rfl : k = 0 := by omega
      refine zN ?_
      refine zN ?_; refine mvS ?_; refine mvL ?_; refine mvI ?_; refine idx (i := 0) ?_; refine ldS hc ?_
      refine callP ?_ (hc := fun w' _ => digits_x x hx0 w')
      refine addS ?_; refine asS ?_; refine LS.done ?_
      rw [show B (peersT (l.take 0)) ++ B (digN x.toNat) = B (peersT (l.take (0 + 1))) by rw [htk, B_add]; simp [peersT, commaT]]
      refine zN ?_; refine mvI ?_; (first | refine addN ?_ | refine addI ?_); refine asI ?_; refine LS.done ?_; refine zN ?_
      exact ih (0 + 1) hlt (by omega) ⟨rfl, rfl, trivial⟩ (by repeat (first | with_reducible exact Out.refl _ _ _ | exact Out.hv | refine Out.upd ?_ | refine Out.hvIn ?_)) inferInstance rfl
  · refine RS.condF ?_ (h := by simp; omega)
    obtain rfl : k = l.length := by omega
    rw [List.take_length]
    refine zN ?_; refine mvS ?_; refine asS ?_; refine LS.done ?_; refine zN ?_; refine RS.ret1 (v := .string _) Tryz.func43 fun w hw => ?_
    exact ⟨rfl, hw.below⟩
end Go.Proofs.YtealabaiamaojaaGreatDoor
namespace Go.Proofs.YtealabaiamaojaaGreatDoor
open Go.JW Go.RowKit
abbrev noB (b : Nat) (n : NodeD) (vm vt : Value) : HP := blk b (.cells (List.toArray [.string n.name, .int .i64 n.cpu, .int .i64 n.mem, vm, vt, .bool n.closed]) 31 (0, 0))
abbrev plZ (b : Nat) (p : PlaceD) : HP := blk b (.cells (List.toArray [.string p.pod, .string p.node, .int .i64 p.cpu, .int .i64 p.mem, .bool p.alone]) 37 (0, 0))
theorem nodeT_x (n : NodeD) (am at_ : Option Addr) (cm ct : Nat) (w : World) (hrep : Rep.rep (hp w) (nodeC n (.slice am n.marks.length cm) (.slice at_ n.taints.length ct)) n) (hne : nodeErr n = 0) :
    Calls Tryz.prog 41 #[.agg (List.toArray (nodeC n (.slice am n.marks.length cm) (.slice at_ n.taints.length ct)))] w fun e w' => e = .returned (.string (B (nodeT n))) ∧ Below w.heap.size w w' := by
  obtain ⟨_, _, hcs, h3, h4, h5, hm, ht⟩ := hrep
  simp only [nodeC, List.cons.injEq, true_and, and_true] at hcs
  obtain ⟨rfl, rfl⟩ := hcs
  obtain ⟨c1, c2⟩ := (node_ok hne).vec
  have hms : isSet n.marks = true ∧ isSet n.taints = true := by
    unfold nodeErr at hne
    split at hne
    · cases hne
    · split at hne
      · cases hne
      · split at hne
        · cases hne
        · rename_i hs; simpa only [Bool.or_eq_true, Bool.not_eq_true', not_or, Bool.not_eq_false] using hs
  obtain ⟨l1, q1⟩ := isSet_size hms.1
  obtain ⟨l2, q2⟩ := isSet_size hms.2
  have d1 := signedT_size 43 n.marks q1
  have d2 := signedT_size 126 n.taints q2
  have d3 := vecT_len n.cpu n.mem
  have d4 := flagT_size n.closed
  have s58 : (⟨#[58]⟩ : ByteArray).size = 1 := rfl
  have e0 := B_size (vecT n.cpu n.mem)
  have e1 := B_size (signedT 43 (n.marks.map bs))
  have e2 := B_size (signedT 126 (n.taints.map bs))
  have e3 := B_size (flagT n.closed)
  have z1 : n.name.size + (⟨#[58]⟩ : ByteArray).size ≤ 9223372036854775807 := by omega
  have z2 : (n.name ++ ⟨#[58]⟩).size + (B (vecT n.cpu n.mem)).size ≤ 9223372036854775807 := by simp only [ByteArray.size_append]; omega
  have z3 : (n.name ++ ⟨#[58]⟩ ++ B (vecT n.cpu n.mem)).size + (B (signedT 43 (n.marks.map bs))).size ≤ 9223372036854775807 := by simp only [ByteArray.size_append]; omega
  have z4 : (n.name ++ ⟨#[58]⟩ ++ B (vecT n.cpu n.mem) ++ B (signedT 43 (n.marks.map bs))).size + (B (signedT 126 (n.taints.map bs))).size ≤ 9223372036854775807 := by simp only [ByteArray.size_append]; omega
  have z5 : (n.name ++ ⟨#[58]⟩ ++ B (vecT n.cpu n.mem) ++ B (signedT 43 (n.marks.map bs)) ++ B (signedT 126 (n.taints.map bs))).size + (B (flagT n.closed)).size ≤ 9223372036854775807 := by simp only [ByteArray.size_append]; omega
  have hfin : n.name ++ ⟨#[58]⟩ ++ B (vecT n.cpu n.mem) ++ B (signedT 43 (n.marks.map bs)) ++ B (signedT 126 (n.taints.map bs)) ++ B (flagT n.closed) = B (nodeT n) := by
    rw [show (⟨#[58]⟩ : ByteArray) = B [58] from rfl, ← B_bs n.name, B_add, B_add, B_add, B_add, B_add]
    unfold nodeT; simp
  refine RS.enter Tryz.func41 Tryz.ntmps41 rfl rfl ?_
  refine zN ?_; refine box_ (v := .agg _) (cs := [_, _, _, _, _, _]) (fun b1 => ?_); refine asS ?_; refine LS.done ?_
  refine zD ?_; refine RS.draw [.free, .ex, .free, .free, .ex, .ex, .free, .free, .ex, .ex, .free, .free, .ex, .ex, .free, .free, .ex, .ex, .free, .free] [noB b1 n (.slice am n.marks.length cm) (.slice at_ n.taints.length ct)] ?_ (by kernel_rfl) (by kernel_rfl) (by infer_instance); refine D.fld ?_; refine D.ld1 (v := .string n.name) ?_; refine D.addS ?_ (hs := z1); refine D.fld ?_; refine D.ldA [.int .i64 n.cpu, .int .i64 n.mem] ?_
  refine D.callP ?_ (hc := fun _ _ w hle _ hw => vecT_x _ _ ⟨by omega, by omega⟩ ⟨by omega, by omega⟩ w)
  refine D.addS ?_ (hs := z2); refine D.fld ?_; refine D.ld1 (v := .slice am n.marks.length cm) ?_
  refine D.callP ?_ (hc := fun _ _ w hle _ hw => rowT_x 43 n.marks _ w (hm.mono (PH.le_trans hle hw.imm)) (by omega))
  refine D.addS ?_ (hs := z3); refine D.fld ?_; refine D.ld1 (v := .slice at_ n.taints.length ct) ?_
  refine D.callP ?_ (hc := fun _ _ w hle _ hw => rowT_x 126 n.taints _ w (ht.mono (PH.le_trans hle hw.imm)) (by omega))
  refine D.addS ?_ (hs := z4); refine D.fld ?_; refine D.ld1 (v := .bool n.closed) ?_
  refine D.callP ?_ (hc := fun _ _ w hle _ hw => flagT_x _ w)
  refine D.addS ?_ (hs := z5); rw [hfin]; refine D.asS ?_; refine D.done (fun us σ1 hle1 hfs => ?_)
  refine RS.ow ?_
  refine zN ?_; refine RS.ret1 (v := .string _) Tryz.func41 fun w hw => ?_
  exact ⟨rfl, hw.below⟩
theorem textP1 {r : RecD} (h : r.kind = 1) : textP r = [110, 111, 100, 101, 32] ++ nodeT r.node := by unfold textP textW; rw [if_pos h]; rfl
theorem textP2 {r : RecD} (h : r.kind = 2) : textP r = [103, 111, 110, 101, 32] ++ bs r.node.name := by unfold textP textW; rw [if_neg (by omega), if_pos h]; rfl
theorem textP4 {r : RecD} (h : r.kind = 4) : textP r = [99, 111, 109, 109, 105, 116, 32] ++ digN r.gang.toNat := by unfold textP textW; rw [if_neg (by omega), if_neg (by omega), h]; rfl
theorem textP5 {r : RecD} (h : r.kind = 5) : textP r = [97, 98, 111, 114, 116, 32] ++ digN r.gang.toNat := by unfold textP textW; rw [if_neg (by omega), if_neg (by omega), h]; rfl
theorem textP6 {r : RecD} (h : r.kind = 6) : textP r = [114, 101, 108, 101, 97, 115, 101, 32] ++ digN r.gang.toNat := by unfold textP textW; rw [if_neg (by omega), if_neg (by omega), h]; rfl
theorem textP7 {r : RecD} (h : r.kind = 7) : textP r = [103, 97, 110, 103, 32] ++ digN r.gang.toNat ++ [32] ++ peersT r.peers := by unfold textP textW; rw [if_neg (by omega), if_neg (by omega), h]; simp [peeredP, joinB, verbT]
theorem textP3 {r : RecD} (h : r.kind = 3) : textP r = joinB (headW r ++ r.places.map placeT) := by unfold textP textW headW word1; simp [h]
theorem head3 {r : RecD} (h : r.kind = 3) : joinB (headW r) = [112, 114, 101, 112, 97, 114, 101, 32] ++ digN r.gang.toNat ++ [32] ++ peersT r.peers := by unfold headW word1; rw [if_neg (by omega), if_neg (by omega), h]; simp [peeredP, joinB, verbT]
theorem textD_x (cs : List Value) (r : RecD) (w : World) (h : Rep.rep (hp w) cs r) (hok : checkP r = 0) : Calls Tryz.prog 18 #[.agg cs.toArray] w fun e w' => e = .returned (.string (B (textP r))) ∧ Below w.heap.size w w' := by
  have hkk : 1 ≤ r.kind ∧ r.kind ≤ 7 := by cases okr_of hok <;> simp <;> omega
  obtain ⟨vp, vq, vm, vt, rfl, h1, h2, hp_, hq, h3, h4, h5, hm, ht⟩ := h
  obtain ⟨ap, cp, rfl⟩ := hp_.form
  obtain ⟨aq, cq, rfl⟩ := hq.form
  obtain ⟨am, cm, rfl⟩ := hm.form
  obtain ⟨at_, ct, rfl⟩ := ht.form
  have hW := textW_size hok
  have q1 : (⟨#[110, 111, 100, 101, 32]⟩ : ByteArray).size = 5 := rfl
  have q2 : (⟨#[103, 111, 110, 101, 32]⟩ : ByteArray).size = 5 := rfl
  have q3 : (⟨#[99, 111, 109, 109, 105, 116, 32]⟩ : ByteArray).size = 7 := rfl
  have q4 : (⟨#[97, 98, 111, 114, 116, 32]⟩ : ByteArray).size = 6 := rfl
  have q5 : (⟨#[114, 101, 108, 101, 97, 115, 101, 32]⟩ : ByteArray).size = 8 := rfl
  have hrn : Rep.rep (hp w) (nodeC r.node (.slice am r.node.marks.length cm) (.slice at_ r.node.taints.length ct)) r.node := ⟨_, _, rfl, h3, h4, h5, hm, ht⟩
  refine RS.enter Tryz.func18 Tryz.ntmps18 rfl rfl ?_
  refine zN ?_; refine box_ (v := .agg _) (cs := [_, _, _, _, _, _, _, _, _, _]) (fun b1 => ?_); refine asS ?_; refine LS.done ?_
  refine zN ?_; refine fld ?_; refine ld1 (v := .int _ _) ?_; refine LS.done ?_
  refine zN ?_; refine eqI ?_; refine asB ?_; refine LS.done ?_
  refine zN ?_
  refine RS.cond (fun z => ?_) (fun z => ?_)
  · have z := of_decide_eq_true z
    have hn := nodeT_size (ok_node hok z)
    have s1 := B_size (nodeT r.node)
    refine zN ?_; refine fld ?_; refine ldA (nodeC r.node (.slice am r.node.marks.length cm) (.slice at_ r.node.taints.length ct)) ?_
    refine callP ?_ (hc := fun w' hw => nodeT_x r.node _ _ _ _ w' (Rep.mono hrn hw.imm) (ok_node hok z))
    refine addS ?_; refine asS ?_; refine LS.done ?_
    refine zN ?_; refine RS.ret1 (v := .string _) Tryz.func18 fun w hw => ?_
    exact ⟨by rw [textP1 z, ← B_add]; rfl, hw.below⟩
  have z := of_decide_eq_false z
  refine zN ?_; refine eqI ?_; refine asB ?_; refine LS.done ?_
  refine zN ?_
  refine RS.cond (fun z => ?_) (fun z => ?_)
  · have z := of_decide_eq_true z
    refine zN ?_; refine fld ?_; refine fld ?_; refine ld1 (v := .string _) ?_; refine addS ?_; refine asS ?_; refine LS.done ?_
    refine zN ?_; refine RS.ret1 (v := .string _) Tryz.func18 fun w hw => ?_
    exact ⟨by rw [textP2 z, ← B_add, B_bs]; rfl, hw.below⟩
  have z := of_decide_eq_false z
  refine zN ?_; refine eqI ?_; refine asB ?_; refine LS.done ?_
  refine zN ?_
  refine RS.cond (fun z => ?_) (fun z => ?_)
  · have z := of_decide_eq_true z
    have hg := ok_gang hok (by omega) (by omega)
    refine zN ?_; refine fld ?_; refine ld1 (v := .int _ _) ?_
    refine callP ?_ (hc := fun w' _ => digits_x r.gang ⟨by omega, by omega⟩ w')
    have e1 := digN_len r.gang.toNat
    have s1 : (B (digN r.gang.toNat)).size = (digN r.gang.toNat).length := B_size _
    refine addS ?_; refine asS ?_; refine LS.done ?_
    refine zN ?_; refine RS.ret1 (v := .string _) Tryz.func18 fun w hw => ?_
    exact ⟨by rw [textP4 z, ← B_add]; rfl, hw.below⟩
  have z := of_decide_eq_false z
  refine zN ?_; refine eqI ?_; refine asB ?_; refine LS.done ?_
  refine zN ?_
  refine RS.cond (fun z => ?_) (fun z => ?_)
  · have z := of_decide_eq_true z
    have hg := ok_gang hok (by omega) (by omega)
    refine zN ?_; refine fld ?_; refine ld1 (v := .int _ _) ?_
    refine callP ?_ (hc := fun w' _ => digits_x r.gang ⟨by omega, by omega⟩ w')
    have e1 := digN_len r.gang.toNat
    have s1 : (B (digN r.gang.toNat)).size = (digN r.gang.toNat).length := B_size _
    refine addS ?_; refine asS ?_; refine LS.done ?_
    refine zN ?_; refine RS.ret1 (v := .string _) Tryz.func18 fun w hw => ?_
    exact ⟨by rw [textP5 z, ← B_add]; rfl, hw.below⟩
  have z := of_decide_eq_false z
  refine zN ?_; refine eqI ?_; refine asB ?_; refine LS.done ?_
  refine zN ?_
  refine RS.cond (fun z => ?_) (fun z => ?_)
  · have z := of_decide_eq_true z
    have hg := ok_gang hok (by omega) (by omega)
    refine zN ?_; refine fld ?_; refine ld1 (v := .int _ _) ?_
    refine callP ?_ (hc := fun w' _ => digits_x r.gang ⟨by omega, by omega⟩ w')
    have e1 := digN_len r.gang.toNat
    have s1 : (B (digN r.gang.toNat)).size = (digN r.gang.toNat).length := B_size _
    refine addS ?_; refine asS ?_; refine LS.done ?_
    refine zN ?_; refine RS.ret1 (v := .string _) Tryz.func18 fun w hw => ?_
    exact ⟨by rw [textP6 z, ← B_add]; rfl, hw.below⟩
  have z := of_decide_eq_false z
  have hg := ok_gang hok (by omega) (by omega)
  have hpe : peeredP r.kind = true := by simp [peeredP]; omega
  have hpr := ok_peers hok hpe
  have hpl := rising_len hpr
  have hpi := peers_I hpr
  have e1 := digN_len r.gang.toNat
  have s1 : (B (digN r.gang.toNat)).size = (digN r.gang.toNat).length := B_size _
  have e2 := peersT_size r.peers
  have s2 : (B (peersT r.peers)).size = (peersT r.peers).length := B_size _
  have s3 : (⟨#[32]⟩ : ByteArray).size = 1 := rfl
  have s4 : (⟨#[103, 97, 110, 103, 32]⟩ : ByteArray).size = 5 := rfl
  have s5 : (⟨#[112, 114, 101, 112, 97, 114, 101, 32]⟩ : ByteArray).size = 8 := rfl
  refine zN ?_; refine eqI ?_; refine asB ?_; refine LS.done ?_
  refine zN ?_
  refine RS.cond (fun z => ?_) (fun z => ?_)
  · have z := of_decide_eq_true z
    have z1 : (⟨#[103, 97, 110, 103, 32]⟩ : ByteArray).size + (B (digN r.gang.toNat)).size ≤ 9223372036854775807 := by omega
    have z2 : ((⟨#[103, 97, 110, 103, 32]⟩ : ByteArray) ++ B (digN r.gang.toNat)).size + (⟨#[32]⟩ : ByteArray).size ≤ 9223372036854775807 := by simp only [ByteArray.size_append]; omega
    have z3 : ((⟨#[103, 97, 110, 103, 32]⟩ : ByteArray) ++ B (digN r.gang.toNat) ++ ⟨#[32]⟩).size + (B (peersT r.peers)).size ≤ 9223372036854775807 := by simp only [ByteArray.size_append]; omega
    refine zD ?_; refine RS.draw [.free, .ex, .ex, .free, .free, .free, .ex, .ex, .free, .free] [rcB b1 r.kind r.gang (.slice ap r.peers.length cp) (.slice aq r.places.length cq) r.node.name r.node.cpu r.node.mem (.slice am r.node.marks.length cm) (.slice at_ r.node.taints.length ct) r.node.closed] ?_ (by kernel_rfl) (by kernel_rfl) (by infer_instance); refine D.fld ?_; refine D.ld1 (v := .int .i64 r.gang) ?_
    refine D.callP ?_ (hc := fun _ _ w _ _ _ => digits_x r.gang ⟨by omega, by omega⟩ w)
    refine D.addS ?_ (hs := z1); refine D.addS ?_ (hs := z2); refine D.fld ?_; refine D.ld1 (v := .slice ap r.peers.length cp) ?_
    refine D.callP ?_ (hc := fun _ _ w hle _ hw => nums_x r.peers _ w (hp_.mono (PH.le_trans hle hw.imm)) (by omega) hpi)
    refine D.addS ?_ (hs := z3); refine D.asS ?_; refine D.done (fun us σ1 hle1 hfs => ?_)
    refine RS.ow ?_
    refine zN ?_; refine RS.ret1 (v := .string _) Tryz.func18 fun w hw => ?_
    exact ⟨by rw [textP7 z, ← B_add, ← B_add, ← B_add]; rfl, hw.below⟩
  have z := of_decide_eq_false z
  have hk3 : r.kind = 3 := by omega
  have z1 : (⟨#[112, 114, 101, 112, 97, 114, 101, 32]⟩ : ByteArray).size + (B (digN r.gang.toNat)).size ≤ 9223372036854775807 := by omega
  have z2 : ((⟨#[112, 114, 101, 112, 97, 114, 101, 32]⟩ : ByteArray) ++ B (digN r.gang.toNat)).size + (⟨#[32]⟩ : ByteArray).size ≤ 9223372036854775807 := by simp only [ByteArray.size_append]; omega
  have z3 : ((⟨#[112, 114, 101, 112, 97, 114, 101, 32]⟩ : ByteArray) ++ B (digN r.gang.toNat) ++ ⟨#[32]⟩).size + (B (peersT r.peers)).size ≤ 9223372036854775807 := by simp only [ByteArray.size_append]; omega
  have hhd : (⟨#[112, 114, 101, 112, 97, 114, 101, 32]⟩ : ByteArray) ++ B (digN r.gang.toNat) ++ ⟨#[32]⟩ ++ B (peersT r.peers) = B (joinB (headW r ++ (r.places.take 0).map placeT)) := by
    rw [List.take_zero, List.map_nil, List.append_nil, head3 hk3, ← B_add, ← B_add, ← B_add]; rfl
  refine zD ?_; refine RS.draw [.free, .ex, .ex, .free, .free, .free, .ex, .ex, .free, .free] [rcB b1 r.kind r.gang (.slice ap r.peers.length cp) (.slice aq r.places.length cq) r.node.name r.node.cpu r.node.mem (.slice am r.node.marks.length cm) (.slice at_ r.node.taints.length ct) r.node.closed] ?_ (by kernel_rfl) (by kernel_rfl) (by infer_instance); refine D.fld ?_; refine D.ld1 (v := .int .i64 r.gang) ?_
  refine D.callP ?_ (hc := fun _ _ w _ _ _ => digits_x r.gang ⟨by omega, by omega⟩ w)
  refine D.addS ?_ (hs := z1); refine D.addS ?_ (hs := z2); refine D.fld ?_; refine D.ld1 (v := .slice ap r.peers.length cp) ?_
  refine D.callP ?_ (hc := fun _ _ w hle _ hw => nums_x r.peers _ w (hp_.mono (PH.le_trans hle hw.imm)) (by omega) hpi)
  refine D.addS ?_ (hs := z3); rw [hhd]; refine D.asS ?_; refine D.done (fun us σ1 hle1 hfs => ?_)
  have k1 := hle1
  refine RS.ow ?_
  refine zN ?_; refine asI ?_; refine LS.done ?_
  refine zN ?_
  have hps := ok_places hok
  have hpn := ok_places_len hok
  have hjs : ∀ k, k ≤ 8 → (joinB (headW r ++ (r.places.take k).map placeT)).length ≤ 401 * 20 := fun k hk => by
    have hh := head_places hok
    have := joinB_size (headW r ++ (r.places.take k).map placeT) (fun w hw => hW.1 w (by
      rw [hh]
      rcases List.mem_append.1 hw with hw | hw
      · exact List.mem_append_left _ hw
      · exact List.mem_append_right _ (by
          obtain ⟨p, hp, rfl⟩ := List.mem_map.1 hw
          exact List.mem_map.2 ⟨p, List.take_subset _ _ hp, rfl⟩)))
    have hl : (headW r ++ (r.places.take k).map placeT).length ≤ 20 := by
      rw [List.length_append, List.length_map, List.length_take]
      have : (headW r).length ≤ 3 := by unfold headW; rw [if_pos hpe]; simp
      omega
    exact Nat.le_trans this (Nat.mul_le_mul_left _ hl)
  refine RS.loopF (X := Nat × PH) 3 88 (fun x => x.1 ≤ r.places.length ∧ PH.le (Go.JW.hp w) x.2) (fun x => [(3, .string (B (joinB (headW r ++ (r.places.take x.1).map placeT)))), (4, .int .i64 x.1)]) (fun x => x.2) (fun _ => [rcB b1 r.kind r.gang (.slice ap r.peers.length cp) (.slice aq r.places.length cq) r.node.name r.node.cpu r.node.mem (.slice am r.node.marks.length cm) (.slice at_ r.node.taints.length ct) r.node.closed]) (fun x => r.places.length - x.1) (0, _) ⟨Nat.zero_le _, k1⟩ ⟨rfl, rfl, trivial⟩ rfl ⟨fun h => h⟩ ?_
  rintro ⟨k, σ2⟩ g ⟨hk, hle2⟩ ih
  dsimp only at hk hle2
  refine zN ?_; refine mvI ?_; refine fld ?_; refine ld1 (v := .slice _ _ _) ?_; refine lenL ?_; refine ltI ?_; refine LS.done ?_
  refine zN ?_
  by_cases hlt : k < r.places.length
  · refine RS.condT ?_ (h := by simp; omega)
    obtain ⟨b, o, rfl, hrow⟩ := hq.addr (List.ne_nil_of_length_pos (by omega))
    obtain ⟨vs, hcell, hvs, n1, n2, n3, n4⟩ := hrow k hlt
    obtain ⟨p, hp⟩ : ∃ p, p = r.places[k] := ⟨_, rfl⟩
    rw [← hp] at hvs n1 n2 n3 n4
    subst hvs
    have hcell : ∀ j, j < 5 → (Go.JW.hp w).cell b (o + k * 5 + j) = (placeC p)[j]? := hcell
    have hpe0 : placeE p = 0 := hps p (by rw [hp]; exact List.getElem_mem _)
    have hpo := placeE_ok hpe0
    obtain ⟨c1, c2⟩ := hpo.vec
    have hpt := placeT_size hpe0
    have htk : (r.places.take (k + 1)).map placeT = (r.places.take k).map placeT ++ [placeT p] := by rw [List.take_add_one, List.getElem?_eq_getElem hlt, ← hp]; simp
    have hj := hjs k (by omega)
    have sj := B_size (joinB (headW r ++ (r.places.take k).map placeT))
    have se := B_size (vecT p.cpu p.mem)
    have sf := B_size (flagT p.alone)
    have ve := vecT_len p.cpu p.mem
    have vf := flagT_size p.alone
    have t1 : (⟨#[32]⟩ : ByteArray).size = 1 := rfl
    have t2 : (⟨#[62]⟩ : ByteArray).size = 1 := rfl
    have t3 : (⟨#[58]⟩ : ByteArray).size = 1 := rfl
    obtain ⟨J, hJ⟩ : ∃ J, J = B (joinB (headW r ++ (r.places.take k).map placeT)) := ⟨_, rfl⟩
    rw [← hJ] at sj
    have y1 : J.size + (⟨#[32]⟩ : ByteArray).size ≤ 9223372036854775807 := by omega
    have y2 : (J ++ ⟨#[32]⟩).size + p.pod.size ≤ 9223372036854775807 := by simp only [ByteArray.size_append]; omega
    have y3 : (J ++ ⟨#[32]⟩ ++ p.pod).size + (⟨#[62]⟩ : ByteArray).size ≤ 9223372036854775807 := by simp only [ByteArray.size_append]; omega
    have y4 : (J ++ ⟨#[32]⟩ ++ p.pod ++ ⟨#[62]⟩).size + p.node.size ≤ 9223372036854775807 := by simp only [ByteArray.size_append]; omega
    have y5 : (J ++ ⟨#[32]⟩ ++ p.pod ++ ⟨#[62]⟩ ++ p.node).size + (⟨#[58]⟩ : ByteArray).size ≤ 9223372036854775807 := by simp only [ByteArray.size_append]; omega
    have y6 : (J ++ ⟨#[32]⟩ ++ p.pod ++ ⟨#[62]⟩ ++ p.node ++ ⟨#[58]⟩).size + (B (vecT p.cpu p.mem)).size ≤ 9223372036854775807 := by simp only [ByteArray.size_append]; omega
    have y7 : (J ++ ⟨#[32]⟩ ++ p.pod ++ ⟨#[62]⟩ ++ p.node ++ ⟨#[58]⟩ ++ B (vecT p.cpu p.mem)).size + (B (flagT p.alone)).size ≤ 9223372036854775807 := by simp only [ByteArray.size_append]; omega
    have hfin : J ++ ⟨#[32]⟩ ++ p.pod ++ ⟨#[62]⟩ ++ p.node ++ ⟨#[58]⟩ ++ B (vecT p.cpu p.mem) ++ B (flagT p.alone) = B (joinB (headW r ++ (r.places.take (k + 1)).map placeT)) := by
      rw [htk, ← List.append_assoc, joinB_app _ _ (by simp [headW]), hJ, ← B_bs p.pod, ← B_bs p.node, show (⟨#[32]⟩ : ByteArray) = B [32] from rfl, show (⟨#[62]⟩ : ByteArray) = B [62] from rfl, show (⟨#[58]⟩ : ByteArray) = B [58] from rfl]
      simp only [B_add]
      simp [placeT]
    refine zN ?_; refine fld ?_; refine ld1 (v := .slice _ _ _) ?_; refine mvI ?_; refine idx (i := k) ?_; refine ldSA (vs := placeC p) rfl (PH.cells_mono hle2 rfl hcell) ?_; refine alloc_ (fun b5 => ?_); refine st (.agg _) _ ?_; refine LS.done ?_
    rw [← hJ]
    refine RS.to (K' := [plZ b5 p, rcB b1 r.kind r.gang (.slice ap r.peers.length cp) (.slice (some ⟨b, o, none⟩) r.places.length cq) r.node.name r.node.cpu r.node.mem (.slice am r.node.marks.length cm) (.slice at_ r.node.taints.length ct) r.node.closed]) ?_ ⟨fun h => h⟩
    refine zD ?_; refine RS.draw [.free, .free, .free, .ex, .free, .free, .free, .ex, .free, .free, .free, .ex, .ex, .free, .free, .ex, .ex, .free, .free] [plZ b5 p] ?_ (by kernel_rfl) (by kernel_rfl) (by infer_instance); refine D.mvS ?_; refine D.addS ?_ (hs := y1); refine D.fld ?_; refine D.ld1 (v := .string p.pod) ?_; refine D.addS ?_ (hs := y2); refine D.addS ?_ (hs := y3); refine D.fld ?_; refine D.ld1 (v := .string p.node) ?_; refine D.addS ?_ (hs := y4); refine D.addS ?_ (hs := y5); refine D.fld ?_; refine D.ldA [.int .i64 p.cpu, .int .i64 p.mem] ?_
    refine D.callP ?_ (hc := fun _ _ w hle _ hw => vecT_x _ _ ⟨by omega, by omega⟩ ⟨by omega, by omega⟩ w)
    refine D.addS ?_ (hs := y6); refine D.fld ?_; refine D.ld1 (v := .bool p.alone) ?_
    refine D.callP ?_ (hc := fun _ _ w hle _ hw => flagT_x _ w)
    refine D.addS ?_ (hs := y7); rw [hfin]; refine D.asS ?_; refine D.done (fun us σ1 hle1 hfs => ?_)
    have k2 := hle1
    refine RS.ow ?_
    refine zN ?_; refine mvI ?_; (first | refine addN ?_ | refine addI ?_); refine asI ?_; refine LS.done ?_; refine zN ?_
    exact ih (k + 1, _) ⟨hlt, PH.le_trans hle2 k2⟩ (by (try dsimp only); omega) ⟨rfl, rfl, trivial⟩ (by repeat (first | with_reducible exact Out.refl _ _ _ | exact Out.hv | refine Out.upd ?_ | refine Out.hvIn ?_)) ⟨fun h => h.tail⟩ rfl
  · refine RS.condF ?_ (h := by simp; omega)
    obtain rfl : k = r.places.length := by omega
    rw [List.take_length, ← textP3 hk3]
    refine zN ?_; refine mvS ?_; refine asS ?_; refine LS.done ?_; refine zN ?_; refine RS.ret1 (v := .string _) Tryz.func18 fun w hw => ?_
    exact ⟨rfl, hw.below⟩
end Go.Proofs.YtealabaiamaojaaGreatDoor
namespace Go.Proofs.YtealabaiamaojaaGreatDoor
open Go.JW Go.RowKit
theorem rec_eq {a b : RecD} : a = b ↔ a.kind = b.kind ∧ a.gang = b.gang ∧ a.peers = b.peers ∧ a.places = b.places ∧ a.node = b.node := by
  obtain ⟨_, _, _, _, _⟩ := a
  obtain ⟨_, _, _, _, _⟩ := b
  simp
theorem same_x (cs cs' : List Value) (a b : RecD) (w : World) (h : Rep.rep (hp w) cs a) (h' : Rep.rep (hp w) cs' b) : Calls Tryz.prog 16 #[.agg (List.toArray cs), .agg (List.toArray cs')] w fun e w' => e = .returned (.bool (decide (a = b))) ∧ Below w.heap.size w w' := by
  obtain ⟨vp, vq, vm, vt, rfl, g1, g2, hpa, hqa, g3, g4, g5, hma, hta⟩ := h
  obtain ⟨a1, c1, rfl⟩ := hpa.form
  obtain ⟨a2, c2, rfl⟩ := hqa.form
  obtain ⟨a3, c3, rfl⟩ := hma.form
  obtain ⟨a4, c4, rfl⟩ := hta.form
  obtain ⟨vp', vq', vm', vt', rfl, g1', g2', hpb, hqb, g3', g4', g5', hmb, htb⟩ := h'
  obtain ⟨o1, d1, rfl⟩ := hpb.form
  obtain ⟨o2, d2, rfl⟩ := hqb.form
  obtain ⟨o3, d3, rfl⟩ := hmb.form
  obtain ⟨o4, d4, rfl⟩ := htb.form
  have hna : Rep.rep (hp w) (nodeC a.node (.slice a3 a.node.marks.length c3) (.slice a4 a.node.taints.length c4)) a.node := ⟨_, _, rfl, g3, g4, g5, hma, hta⟩
  have hnb : Rep.rep (hp w) (nodeC b.node (.slice o3 b.node.marks.length d3) (.slice o4 b.node.taints.length d4)) b.node := ⟨_, _, rfl, g3', g4', g5', hmb, htb⟩
  refine RS.enter Tryz.func16 Tryz.ntmps16 rfl rfl ?_
  refine zN ?_; refine box_ (v := .agg _) (cs := [_, _, _, _, _, _, _, _, _, _]) (fun b2 => ?_); refine box_ (v := .agg _) (cs := [_, _, _, _, _, _, _, _, _, _]) (fun b3 => ?_); refine asB ?_; refine LS.done ?_
  refine zN ?_
  by_cases e1 : a.kind = b.kind
  rotate_left
  · rw [decide_eq_false (fun e => e1 (by rw [e]))]
    refine fld ?_; refine ld1 (v := .int _ _) ?_; refine fld ?_; refine ld1 (v := .int _ _) ?_; refine eqI ?_; rw [decide_eq_false e1]; refine mvB ?_; refine LS.off ?_; refine LS.off ?_; refine LS.off ?_; refine LS.off ?_; refine LS.off ?_; refine pk (v := .bool _) ?_; refine mvB ?_; refine LS.off ?_; refine LS.off ?_; refine LS.off ?_; refine LS.off ?_; refine LS.off ?_; refine pk (v := .bool _) ?_; refine mvB ?_; refine LS.off ?_; refine LS.off ?_; refine LS.off ?_; refine LS.off ?_; refine LS.off ?_; refine pk (v := .bool _) ?_; refine mvB ?_; refine LS.off ?_; refine LS.off ?_; refine LS.off ?_; refine LS.off ?_; refine LS.off ?_; refine pk (v := .bool _) ?_; refine asB ?_; refine LS.done ?_
    refine zN ?_; refine RS.ret1 (v := .bool _) Tryz.func16 fun w hw => ?_
    exact ⟨rfl, hw.below⟩
  by_cases e2 : a.gang = b.gang
  rotate_left
  · rw [decide_eq_false (fun e => e2 (by rw [e]))]
    refine fld ?_; refine ld1 (v := .int _ _) ?_; refine fld ?_; refine ld1 (v := .int _ _) ?_; refine eqI ?_; rw [decide_eq_true e1]; refine mvB ?_; refine LS.on ?_; refine fld ?_; refine LS.on ?_; refine ld1 (v := .int _ _) ?_; refine LS.on ?_; refine fld ?_; refine LS.on ?_; refine ld1 (v := .int _ _) ?_; refine LS.on ?_; refine eqI ?_; rw [decide_eq_false e2]; refine pk (v := .bool _) ?_; refine mvB ?_; refine LS.off ?_; refine LS.off ?_; refine LS.off ?_; refine LS.off ?_; refine LS.off ?_; refine pk (v := .bool _) ?_; refine mvB ?_; refine LS.off ?_; refine LS.off ?_; refine LS.off ?_; refine LS.off ?_; refine LS.off ?_; refine pk (v := .bool _) ?_; refine mvB ?_; refine LS.off ?_; refine LS.off ?_; refine LS.off ?_; refine LS.off ?_; refine LS.off ?_; refine pk (v := .bool _) ?_; refine asB ?_; refine LS.done ?_
    refine zN ?_; refine RS.ret1 (v := .bool _) Tryz.func16 fun w hw => ?_
    exact ⟨rfl, hw.below⟩
  refine fld ?_; refine ld1 (v := .int _ _) ?_; refine fld ?_; refine ld1 (v := .int _ _) ?_; refine eqI ?_; rw [decide_eq_true e1]; refine mvB ?_; refine LS.on ?_; refine fld ?_; refine LS.on ?_; refine ld1 (v := .int _ _) ?_; refine LS.on ?_; refine fld ?_; refine LS.on ?_; refine ld1 (v := .int _ _) ?_; refine LS.on ?_; refine eqI ?_; rw [decide_eq_true e2]; refine pk (v := .bool _) ?_; refine mvB ?_; refine LS.on ?_; refine fld ?_; refine LS.on ?_; refine ld1 (v := .slice _ _ _) ?_; refine LS.on ?_; refine fld ?_; refine LS.on ?_; refine ld1 (v := .slice _ _ _) ?_; refine LS.on ?_
  refine callP ?_ (hc := fun w' hw => ints_b _ _ a.peers b.peers w' (hpa.mono hw.imm) (hpb.mono hw.imm))
  by_cases e3 : a.peers = b.peers
  rotate_left
  · rw [decide_eq_false e3, decide_eq_false (fun e => e3 (by rw [e]))]
    refine pk (v := .bool _) ?_; refine mvB ?_; refine LS.off ?_; refine LS.off ?_; refine LS.off ?_; refine LS.off ?_; refine LS.off ?_; refine pk (v := .bool _) ?_; refine mvB ?_; refine LS.off ?_; refine LS.off ?_; refine LS.off ?_; refine LS.off ?_; refine LS.off ?_; refine pk (v := .bool _) ?_; refine asB ?_; refine LS.done ?_
    refine zN ?_; refine RS.ret1 (v := .bool _) Tryz.func16 fun w hw => ?_
    exact ⟨rfl, hw.below⟩
  rw [decide_eq_true e3]
  refine pk (v := .bool _) ?_; refine mvB ?_; refine LS.on ?_; refine fld ?_; refine LS.on ?_; refine ld1 (v := .slice _ _ _) ?_; refine LS.on ?_; refine fld ?_; refine LS.on ?_; refine ld1 (v := .slice _ _ _) ?_; refine LS.on ?_
  refine callP ?_ (hc := fun w' hw => places_b _ _ a.places b.places w' (hqa.mono hw.imm) (hqb.mono hw.imm))
  by_cases e4 : a.places = b.places
  rotate_left
  · rw [decide_eq_false e4, decide_eq_false (fun e => e4 (by rw [e]))]
    refine pk (v := .bool _) ?_; refine mvB ?_; refine LS.off ?_; refine LS.off ?_; refine LS.off ?_; refine LS.off ?_; refine LS.off ?_; refine pk (v := .bool _) ?_; refine asB ?_; refine LS.done ?_
    refine zN ?_; refine RS.ret1 (v := .bool _) Tryz.func16 fun w hw => ?_
    exact ⟨rfl, hw.below⟩
  rw [decide_eq_true e4]
  refine pk (v := .bool _) ?_; refine mvB ?_; refine LS.on ?_; refine fld ?_; refine LS.on ?_; refine ldA (nodeC a.node (.slice a3 a.node.marks.length c3) (.slice a4 a.node.taints.length c4)) ?_; refine LS.on ?_; refine fld ?_; refine LS.on ?_; refine ldA (nodeC b.node (.slice o3 b.node.marks.length d3) (.slice o4 b.node.taints.length d4)) ?_; refine LS.on ?_
  refine callP ?_ (hc := fun w' hw => nsame_b a.node b.node _ _ _ _ _ _ _ _ w' (Rep.mono hna hw.imm) (Rep.mono hnb hw.imm))
  refine pk (v := .bool _) ?_; refine asB ?_; refine LS.done ?_
  refine zN ?_; refine RS.ret1 (v := .bool _) Tryz.func16 fun w hw => ?_
  exact ⟨by rw [show decide (a = b) = decide (a.node = b.node) from decide_eq_decide.2 ⟨fun h => by rw [h], fun h => rec_eq.2 ⟨e1, e2, e3, e4, h⟩⟩], hw.below⟩
end Go.Proofs.YtealabaiamaojaaGreatDoor
namespace Go.Proofs.YtealabaiamaojaaGreatDoor
open Go.JW Go.RowKit
theorem placesD_x (l : List PlaceD) (v : Value) (w : World) (h : RepL (hp w) v l) (hb : l.length ≤ 100000) : Calls Tryz.prog 76 #[v] w fun e w' => e = .returned (.int .i64 (placesE l)) ∧ Below w.heap.size w w' := by
  obtain ⟨a, cap, rfl⟩ := h.form
  refine RS.enter Tryz.func76 Tryz.ntmps76 rfl rfl ?_
  refine zN ?_; refine asI ?_; refine LS.done ?_
  refine zN ?_; refine mvL ?_; refine lenL ?_; refine ltI ?_; refine mvB ?_
  by_cases hlen : l.length < 1 ∨ 8 < l.length
  · have e : placesE l = 3 := by unfold placesE; rw [if_pos hlen]
    rw [e]
    refine LS.part 9 (fun z => ?_) (fun z => ?_)
    · refine LS.off ?_; refine LS.off ?_; refine LS.off ?_; refine pk (v := .bool _) ?_; refine LS.done ?_
      refine zN ?_
      refine RS.condT ?_
      refine zN ?_; refine asI ?_; refine LS.done ?_; refine zN ?_; refine RS.ret1 (v := .int _ _) Tryz.func76 fun w hw => ?_
      exact ⟨rfl, hw.below⟩
    · refine LS.on ?_; refine mvL ?_; refine LS.on ?_; refine lenL ?_; refine LS.on ?_; refine gtI ?_; refine pk (v := .bool _) ?_; refine LS.done ?_
      have z := of_decide_eq_false z
      refine zN ?_
      refine RS.condT ?_ (h := by simp; omega)
      refine zN ?_; refine asI ?_; refine LS.done ?_; refine zN ?_; refine RS.ret1 (v := .int _ _) Tryz.func76 fun w hw => ?_
      exact ⟨rfl, hw.below⟩
  refine LS.part 9 (fun z => ?_) (fun z => ?_)
  · exact absurd (of_decide_eq_true z) (by omega)
  refine LS.on ?_; refine mvL ?_; refine LS.on ?_; refine lenL ?_; refine LS.on ?_; refine gtI ?_; refine pk (v := .bool _) ?_; refine LS.done ?_
  refine zN ?_
  refine RS.condF ?_ (h := by simp; omega)
  refine zN ?_; refine asI ?_; refine LS.done ?_
  refine zN ?_
  refine RS.loopF (X := Nat) 3 43 (fun x => x ≤ l.length ∧ ∀ i, (hi : i < l.length) → i < x → placeE l[i] = 0) (fun x => [(3, .int .i64 x)]) (fun _ => hp w) (fun _ => []) (fun x => l.length - x) 0 ⟨by omega, fun i _ h => by omega⟩ ⟨rfl, trivial⟩ rfl ⟨fun h => h⟩ ?_
  rintro k g ⟨h1, h2⟩ ih
  refine zN ?_; refine mvI ?_; refine mvL ?_; refine lenL ?_; refine ltI ?_; refine LS.done ?_
  refine zN ?_
  by_cases hlt : k < l.length
  · refine RS.condT ?_ (h := by simp; omega)
    obtain ⟨b, o, rfl, hr⟩ := h.addr (fun e => by simp [e] at hlt)
    obtain ⟨vs, hcell, hvs, n1, n2, n3, n4⟩ := hr k hlt
    obtain ⟨p, hp⟩ : ∃ p, p = l[k] := ⟨_, rfl⟩
    rw [← hp] at hvs n1 n2 n3 n4
    subst hvs
    have hcell : ∀ j, j < 5 → (Go.JW.hp w).cell b (o + k * 5 + j) = (placeC p)[j]? := hcell
    have q0 : (Go.JW.hp w).cell b (o + k * 5 + 0) = some (.string p.pod) := hcell 0 (by decide)
    have q1 : (Go.JW.hp w).cell b (o + k * 5 + 1) = some (.string p.node) := hcell 1 (by decide)
    have q2 : ∀ j, j < 2 → (Go.JW.hp w).cell b (o + k * 5 + 2 + j) = ([.int .i64 p.cpu, .int .i64 p.mem] : List Value)[j]? := fun j hj => by
      have := hcell (2 + j) (by omega)
      rw [← Nat.add_assoc] at this
      rw [this]
      have : j = 0 ∨ j = 1 := by omega
      rcases this with rfl | rfl <;> rfl
    have hbad : placeE p ≠ 0 → placesE l = placeE p := fun hne => by
      have e := placesBad_at hlt (fun i hi => h2 i (by omega) hi) (by rw [← hp]; exact hne)
      rw [← hp] at e
      unfold placesE; rw [if_neg hlen, if_pos (by rw [e]; exact hne), e]
    refine zN ?_; refine mvL ?_; refine mvI ?_; refine idx (i := k) ?_; refine fld ?_; refine ldS q0 ?_
    refine callP ?_ (hc := fun w _ => rname_c _ (by omega) w)
    refine not_ ?_; refine mvB ?_
    refine LS.part 27 (fun z => ?_) (fun z => ?_)
    · refine LS.off ?_; refine LS.off ?_; refine LS.off ?_; refine LS.off ?_; refine LS.off ?_; refine LS.off ?_; refine LS.off ?_; refine pk (v := .bool _) ?_; refine LS.done ?_
      refine zN ?_
      refine RS.condT ?_
      refine zN ?_; refine asI ?_; refine LS.done ?_; refine zN ?_; refine RS.ret1 (v := .int _ _) Tryz.func76 fun w hw => ?_
      have z : isName p.pod = false := by simpa using z
      have e : placeE p = 1 := by unfold placeE; rw [if_pos (.inl z)]
      exact ⟨by rw [hbad (by rw [e]; decide), e], hw.below⟩
    · refine LS.on ?_; refine mvL ?_; refine LS.on ?_; refine mvI ?_; refine LS.on ?_; refine idx (i := k) ?_; refine LS.on ?_; refine fld ?_; refine LS.on ?_; refine ldS q1 ?_; refine LS.on ?_
      refine callP ?_ (hc := fun w _ => rname_c _ (by omega) w)
      refine LS.on ?_; refine not_ ?_; refine pk (v := .bool _) ?_; refine LS.done ?_
      have z : isName p.pod = true := by simpa using z
      refine zN ?_
      refine RS.cond (fun z1 => ?_) (fun z1 => ?_)
      · refine zN ?_; refine asI ?_; refine LS.done ?_; refine zN ?_; refine RS.ret1 (v := .int _ _) Tryz.func76 fun w hw => ?_
        have z1 : isName p.node = false := by simpa using z1
        have e : placeE p = 1 := by unfold placeE; rw [if_pos (.inr z1)]
        exact ⟨by rw [hbad (by rw [e]; decide), e], hw.below⟩
      · have z1 : isName p.node = true := by simpa using z1
        have e0 : placeE p = if sizeOk p.cpu p.mem = false then 2 else 0 := by unfold placeE; rw [if_neg (by rw [z, z1]; simp)]
        refine zN ?_; refine mvL ?_; refine mvI ?_; refine idx (i := k) ?_; refine fld ?_; refine ldSA (vs := [.int .i64 p.cpu, .int .i64 p.mem]) rfl q2 ?_
        refine callP ?_ (hc := fun w _ => rsize_c _ _ w)
        refine not_ ?_; refine LS.done ?_
        refine zN ?_
        refine RS.cond (fun z2 => ?_) (fun z2 => ?_)
        · refine zN ?_; refine asI ?_; refine LS.done ?_; refine zN ?_; refine RS.ret1 (v := .int _ _) Tryz.func76 fun w hw => ?_
          have z2 : sizeOk p.cpu p.mem = false := by simpa using z2
          have e : placeE p = 2 := by rw [e0, if_pos z2]
          exact ⟨by rw [hbad (by rw [e]; decide), e], hw.below⟩
        · have z2 : sizeOk p.cpu p.mem = true := by simpa using z2
          have e : placeE p = 0 := by rw [e0, if_neg (by rw [z2]; decide)]
          refine zN ?_; refine mvI ?_; (first | refine addN ?_ | refine addI ?_); refine asI ?_; refine LS.done ?_; refine zN ?_
          refine ih (k + 1) ⟨hlt, fun i hi hik => ?_⟩ (by omega) ⟨rfl, trivial⟩ (by repeat (first | with_reducible exact Out.refl _ _ _ | exact Out.hv | refine Out.upd ?_ | refine Out.hvIn ?_)) ⟨fun h => h⟩ rfl
          rcases Nat.lt_or_ge i k with h | h
          · exact h2 i hi h
          · obtain rfl : i = k := by omega
            rw [← hp]; exact e
  refine RS.condF ?_ (h := by simp; omega)
  obtain rfl : k = l.length := by omega
  have hz : placesBad l = 0 := placesBad_ok fun i hi => h2 i hi hi
  have he : placesE l = if dupP l = true then 4 else 0 := by unfold placesE; rw [if_neg hlen, if_neg (by rw [hz]; decide)]
  clear ih
  refine zN ?_; refine asI ?_; refine LS.done ?_
  refine zN ?_
  refine RS.loopF (X := Nat × PH) 4 65 (fun x => x.1 ≤ l.length ∧ (∀ i k, k < i → i < x.1 → (hi : i < l.length) → (hk : k < l.length) → ¬ l[i].pod = l[k].pod) ∧ PH.le (hp w) x.2) (fun x => [(4, .int .i64 x.1)]) (fun x => x.2) (fun _ => []) (fun x => l.length - x.1) (0, hp w) ⟨Nat.zero_le _, fun i k _ h => by omega, PH.le_refl _⟩ ⟨rfl, trivial⟩ rfl ⟨fun h => h⟩ ?_
  rintro ⟨i, σ2⟩ g2 ⟨i1, i2, i3⟩ ih
  dsimp only at i1 i2 i3
  refine zN ?_; refine mvI ?_; refine mvL ?_; refine lenL ?_; refine ltI ?_; refine LS.done ?_
  refine zN ?_
  by_cases hlt : i < l.length
  · refine RS.condT ?_ (h := by simp; omega)
    refine zN ?_; refine asI ?_; refine LS.done ?_
    refine zN ?_
    refine RS.loopF (X := Nat × PH) 5 65 (fun y => y.1 ≤ i ∧ (∀ k, k < y.1 → (hk : k < l.length) → ¬ l[i].pod = l[k].pod) ∧ PH.le (hp w) y.2) (fun y => [(5, .int .i64 y.1)]) (fun y => y.2) (fun _ => []) (fun y => i - y.1) (0, σ2) ⟨Nat.zero_le _, fun k h => by omega, i3⟩ ⟨rfl, trivial⟩ rfl ⟨fun h => h⟩ ?_
    rintro ⟨k, σ3⟩ g3 ⟨k1, k2, k3⟩ ih2
    dsimp only at k1 k2 k3
    refine zN ?_; refine mvI ?_; refine mvI ?_; refine ltI ?_; refine LS.done ?_
    refine zN ?_
    by_cases hk : k < i
    · refine RS.condT ?_ (h := by simp; omega)
      have hkl : k < l.length := by omega
      obtain ⟨b, o, rfl, hr⟩ := h.addr (fun e => by simp [e] at hlt)
      have qi : σ3.cell b (o + i * 5 + 0) = some (.string l[i].pod) := PH.cell_mono k3 ((rowPlace hr i hlt).1 0 (by decide))
      have qk : σ3.cell b (o + k * 5 + 0) = some (.string l[k].pod) := PH.cell_mono k3 ((rowPlace hr k hkl).1 0 (by decide))
      refine zD ?_; refine RS.draw [.free, .free, .free, .free, .ex, .free, .free, .free, .free, .ex, .free] [] ?_ (by kernel_rfl) (by kernel_rfl) (by infer_instance); refine D.mvL ?_; refine D.mvI ?_; refine D.idx (i := i) ?_; refine D.fld ?_; refine D.ldS qi ?_; refine D.mvL ?_; refine D.mvI ?_; refine D.idx (i := k) ?_; refine D.fld ?_; refine D.ldS qk ?_; refine D.eqS ?_; refine D.done (fun us σ1 hle1 hfs => ?_)
      have k4 := hle1
      refine RS.ow ?_
      refine zN ?_
      refine RS.cond (fun z => ?_) (fun z => ?_)
      · have z := of_decide_eq_true z
        refine zN ?_; refine asI ?_; refine LS.done ?_; refine zN ?_; refine RS.ret1 (v := .int _ _) Tryz.func76 fun w hw => ?_
        exact ⟨by rw [he, if_pos (dup_at hk hlt z)], hw.below⟩
      · have z := of_decide_eq_false z
        refine zN ?_; refine mvI ?_; (first | refine addN ?_ | refine addI ?_); refine asI ?_; refine LS.done ?_; refine zN ?_
        exact ih2 (k + 1, _) ⟨hk, fun j hj hjl => (Nat.lt_or_ge j k).elim (fun h => k2 j h hjl) fun h => by
          have hj : j < k + 1 := hj
          obtain rfl : j = k := by omega
          exact z, PH.le_trans k3 k4⟩ (by (try dsimp only); omega) ⟨rfl, trivial⟩ (by repeat (first | with_reducible exact Out.refl _ _ _ | exact Out.hv | refine Out.upd ?_ | refine Out.hvIn ?_)) ⟨fun h => h⟩ rfl
    · refine RS.condF ?_ (h := by simp; omega)
      obtain rfl : k = i := by omega
      refine zN ?_; refine mvI ?_; (first | refine addN ?_ | refine addI ?_); refine asI ?_; refine LS.done ?_; refine zN ?_
      exact ih (k + 1, σ3) ⟨hlt, fun i' k' h1 h3 hi' hk' => (Nat.lt_or_ge i' k).elim (fun h => i2 i' k' h1 h hi' hk') fun h => by
        have h3 : i' < k + 1 := h3
        obtain rfl : i' = k := by omega
        exact k2 k' h1 hk', k3⟩ (by (try dsimp only); omega) ⟨rfl, trivial⟩ (by repeat (first | with_reducible exact Out.refl _ _ _ | exact Out.hv | refine Out.upd ?_ | refine Out.hvIn ?_)) ⟨fun h => h⟩ rfl
  · refine RS.condF ?_ (h := by simp; omega)
    have hd : dupP l = false := dup_not fun i' k' h1 hi' hk' => i2 i' k' h1 (by omega) hi' hk'
    refine zN ?_; refine asI ?_; refine LS.done ?_; refine zN ?_; refine RS.ret1 (v := .int _ _) Tryz.func76 fun w hw => ?_
    exact ⟨by rw [he, hd]; rfl, hw.below⟩
theorem checkD_x (cs : List Value) (r : RecD) (w : World) (h : Rep.rep (hp w) cs r) (hb : r.places.length ≤ 100000) : Calls Tryz.prog 48 #[.agg cs.toArray] w fun e w' => e = .returned (.int .i64 (checkP r)) ∧ Below w.heap.size w w' := by
  have h0 := h
  obtain ⟨vp, vq, vm, vt, rfl, h1, h2, hp_, hq, h3, h4, h5, hm, ht⟩ := h
  have hnode : Rep.rep (hp w) (nodeC r.node vm vt) r.node := ⟨_, _, rfl, h3, h4, h5, hm, ht⟩
  obtain ⟨ap, cp, rfl⟩ := hp_.form
  obtain ⟨aq, cq, rfl⟩ := hq.form
  obtain ⟨am, cm, rfl⟩ := hm.form
  obtain ⟨at_, ct, rfl⟩ := ht.form
  refine RS.enter Tryz.func48 Tryz.ntmps48 rfl rfl ?_
  refine zN ?_; refine box_ (v := .agg _) (cs := [_, _, _, _, _, _, _, _, _, _]) (fun b1 => ?_); refine asI ?_; refine LS.done ?_
  refine zD ?_
  by_cases e1 : r.kind < 1
  · have e : checkP r = 2 := by unfold checkP; rw [if_pos (by simp [e1])]
    refine RS.drawG [(6, some true), (11, some true)] [.free, .ex, .free, .free, .free, .free, .free, .free, .free, .free, .free, .free, .free, .free, .free] [rcB b1 r.kind r.gang (.slice ap r.peers.length cp) (.slice aq r.places.length cq) r.node.name r.node.cpu r.node.mem (.slice am r.node.marks.length cm) (.slice at_ r.node.taints.length ct) r.node.closed] ?_ (by kernel_rfl) (by kernel_rfl) (by kernel_rfl) ⟨fun h => h⟩; simp only [ers, ersO, onOff, glook, nthO, List.map_cons, List.map_nil, Option.bind_some, Option.map_some, Nat.beq, cond_true, cond_false, BEq.beq]; refine D.fld ?_; refine D.ld1 (v := .int .i64 r.kind) ?_; refine D.ltI ?_; rw [decide_eq_true e1]; refine D.mvB ?_; refine D.as_ (v := undef) ?_; refine D.as_ (v := undef) ?_; refine D.as_ (v := undef) ?_; refine D.pk (v := .bool _) ?_; refine D.mvB ?_; refine D.as_ (v := undef) ?_; refine D.as_ (v := undef) ?_; refine D.as_ (v := undef) ?_; refine D.as_ (v := undef) ?_; refine D.as_ (v := undef) ?_; refine D.pk (v := .bool _) ?_; refine D.doneG [(6, some true), (11, some true)] ⟨⟨rfl, rfl⟩, ⟨rfl, rfl⟩, trivial⟩ (fun us σ1 hle1 hfs => ?_)
    refine RS.ow ?_
    refine zN ?_
    refine RS.condT ?_
    refine zN ?_; refine asI ?_; refine LS.done ?_; refine zN ?_; refine RS.ret1 (v := .int _ _) Tryz.func48 fun w hw => ?_
    exact ⟨by rw [e], hw.below⟩
  by_cases e2 : 7 < r.kind
  · have e : checkP r = 2 := by unfold checkP; rw [if_pos (by simp [e2])]
    refine RS.drawG [(6, some false), (11, some true)] [.free, .ex, .free, .free, .free, .ex, .free, .free, .free, .free, .free, .free, .free, .free, .free] [rcB b1 r.kind r.gang (.slice ap r.peers.length cp) (.slice aq r.places.length cq) r.node.name r.node.cpu r.node.mem (.slice am r.node.marks.length cm) (.slice at_ r.node.taints.length ct) r.node.closed] ?_ (by kernel_rfl) (by kernel_rfl) (by kernel_rfl) ⟨fun h => h⟩; simp only [ers, ersO, onOff, glook, nthO, List.map_cons, List.map_nil, Option.bind_some, Option.map_some, Nat.beq, cond_true, cond_false, BEq.beq]; refine D.fld ?_; refine D.ld1 (v := .int .i64 r.kind) ?_; refine D.ltI ?_; rw [decide_eq_false e1]; refine D.mvB ?_; refine D.fld ?_; refine D.ld1 (v := .int .i64 r.kind) ?_; refine D.gtI ?_; rw [decide_eq_true e2]; refine D.pk (v := .bool _) ?_; refine D.mvB ?_; refine D.as_ (v := undef) ?_; refine D.as_ (v := undef) ?_; refine D.as_ (v := undef) ?_; refine D.as_ (v := undef) ?_; refine D.as_ (v := undef) ?_; refine D.pk (v := .bool _) ?_; refine D.doneG [(6, some false), (11, some true)] ⟨⟨rfl, rfl⟩, ⟨rfl, rfl⟩, trivial⟩ (fun us σ1 hle1 hfs => ?_)
    refine RS.ow ?_
    refine zN ?_
    refine RS.condT ?_
    refine zN ?_; refine asI ?_; refine LS.done ?_; refine zN ?_; refine RS.ret1 (v := .int _ _) Tryz.func48 fun w hw => ?_
    exact ⟨by rw [e], hw.below⟩
  refine RS.drawG [(6, some false), (11, some false)] [.free, .ex, .free, .free, .free, .ex, .free, .free, .free, .ex, .ex, .ex, .ex, .free, .free] [rcB b1 r.kind r.gang (.slice ap r.peers.length cp) (.slice aq r.places.length cq) r.node.name r.node.cpu r.node.mem (.slice am r.node.marks.length cm) (.slice at_ r.node.taints.length ct) r.node.closed] ?_ (by kernel_rfl) (by kernel_rfl) (by kernel_rfl) ⟨fun h => h⟩; simp only [ers, ersO, onOff, glook, nthO, List.map_cons, List.map_nil, Option.bind_some, Option.map_some, Nat.beq, cond_true, cond_false, BEq.beq]; refine D.fld ?_; refine D.ld1 (v := .int .i64 r.kind) ?_; refine D.ltI ?_; rw [decide_eq_false e1]; refine D.mvB ?_; refine D.fld ?_; refine D.ld1 (v := .int .i64 r.kind) ?_; refine D.gtI ?_; rw [decide_eq_false e2]; refine D.pk (v := .bool _) ?_; refine D.mvB ?_; refine D.ldA (recC r (.slice ap r.peers.length cp) (.slice aq r.places.length cq) (.slice am r.node.marks.length cm) (.slice at_ r.node.taints.length ct)) ?_; refine D.ldA (recC r (.slice ap r.peers.length cp) (.slice aq r.places.length cq) (.slice am r.node.marks.length cm) (.slice at_ r.node.taints.length ct)) ?_
  refine D.callP ?_ (hc := fun _ _ w _ _ _ => kept_x r ap aq am at_ cp cq cm ct w)
  skip
  refine D.callP ?_ (hc := fun _ _ w hle _ hw => same_x _ _ r (keptD r) w (Rep.mono h0 (PH.le_trans hle hw.imm)) (kept_rep (Rep.mono h0 (PH.le_trans hle hw.imm))))
  refine D.not_ ?_; refine D.pk (v := .bool _) ?_; refine D.doneG [(6, some false), (11, some false)] ⟨⟨rfl, rfl⟩, ⟨rfl, rfl⟩, trivial⟩ (fun us σ1 hle1 hfs => ?_)
  have k1 := hle1
  refine RS.ow ?_
  refine zN ?_
  have hkm := kept_more (r := r) (by omega) (by omega)
  refine RS.cond (fun hA => ?_) (fun hA => ?_)
  · have hA : moreP r = true := by rw [hkm] at hA; simpa using hA
    have e : checkP r = 2 := by unfold checkP; rw [if_pos (by rw [hA]; simp)]
    refine zN ?_; refine asI ?_; refine LS.done ?_; refine zN ?_; refine RS.ret1 (v := .int _ _) Tryz.func48 fun w hw => ?_
    exact ⟨by rw [e], hw.below⟩
  have hA : moreP r = false := by rw [hkm] at hA; simpa using hA
  have hB : checkP r = if r.kind = 1 then nodeErr r.node else if r.kind = 2 then (if isName r.node.name = false then 1 else 0) else if r.gang < 1 ∨ 999999 < r.gang ∨ (peeredP r.kind = true ∧ risingP r.peers = false) then 2 else if r.kind = 3 then placesE r.places else 0 := by
    unfold checkP; rw [if_neg (by rw [hA]; simp; omega)]
  have hnode := Rep.mono hnode k1
  have hp_ := hp_.mono k1
  have hq := hq.mono k1
  refine zN ?_; refine fld ?_; refine ld1 (v := .int _ _) ?_; refine LS.done ?_
  refine zN ?_; refine eqI ?_; refine asB ?_; refine LS.done ?_
  refine zN ?_
  refine RS.cond (fun z => ?_) (fun z => ?_)
  · have z := of_decide_eq_true z
    refine zN ?_; refine fld ?_; refine ldA (nodeC r.node (.slice am r.node.marks.length cm) (.slice at_ r.node.taints.length ct)) ?_
    refine callP ?_ (hc := fun w' hw => rnode_c _ r.node w' (Rep.mono hnode hw.imm))
    refine asI ?_; refine LS.done ?_
    refine zN ?_; refine RS.ret1 (v := .int _ _) Tryz.func48 fun w hw => ?_
    exact ⟨by rw [hB, if_pos z], hw.below⟩
  have z := of_decide_eq_false z
  rw [if_neg z] at hB
  refine zN ?_; refine eqI ?_; refine asB ?_; refine LS.done ?_
  refine zN ?_
  refine RS.cond (fun y => ?_) (fun y => ?_)
  · have y := of_decide_eq_true y
    rw [if_pos y] at hB
    refine zN ?_; refine fld ?_; refine fld ?_; refine ld1 (v := .string _) ?_
    refine callP ?_ (hc := fun w' hw => rname_c _ (by omega) w')
    refine not_ ?_; refine LS.done ?_
    refine zN ?_
    refine RS.cond (fun x => ?_) (fun x => ?_)
    · refine zN ?_; refine asI ?_; refine LS.done ?_; refine zN ?_; refine RS.ret1 (v := .int _ _) Tryz.func48 fun w hw => ?_
      exact ⟨by rw [hB, if_pos (by simpa using x)], hw.below⟩
    · refine zN ?_; refine asI ?_; refine LS.done ?_; refine zN ?_; refine RS.ret1 (v := .int _ _) Tryz.func48 fun w hw => ?_
      exact ⟨by rw [hB, if_neg (by simpa using x)], hw.below⟩
  have y := of_decide_eq_false y
  rw [if_neg y] at hB
  refine zN ?_; refine fld ?_; refine ld1 (v := .int _ _) ?_; refine ltI ?_; refine mvB ?_
  refine LS.part 35 (fun x => ?_) (fun x => ?_)
  · have x := of_decide_eq_true x
    rw [if_pos (.inl x)] at hB
    refine LS.off ?_; refine LS.off ?_; refine LS.off ?_; refine pk (v := .bool _) ?_; refine mvB ?_; refine LS.off ?_; refine LS.off ?_; refine LS.off ?_; refine LS.off ?_; refine LS.offU ?_; refine LS.offU ?_; refine LS.offU ?_; refine LS.off ?_; refine LS.off ?_; refine LS.offU ?_; refine LS.offU ?_; refine LS.offU ?_; refine LS.offU ?_; refine LS.off ?_; refine pk (v := .bool _) ?_; refine LS.done ?_
    refine zN ?_
    refine RS.condT ?_
    refine zN ?_; refine asI ?_; refine LS.done ?_; refine zN ?_; refine RS.ret1 (v := .int _ _) Tryz.func48 fun w hw => ?_
    exact ⟨by rw [hB], hw.below⟩
  have x := of_decide_eq_false x
  refine LS.on ?_; refine fld ?_; refine LS.on ?_; refine ld1 (v := .int _ _) ?_; refine LS.on ?_; refine gtI ?_; refine pk (v := .bool _) ?_; refine mvB ?_
  refine LS.part 40 (fun u => ?_) (fun u => ?_)
  · have u := of_decide_eq_true u
    rw [if_pos (.inr (.inl u))] at hB
    refine LS.off ?_; refine LS.off ?_; refine LS.off ?_; refine LS.off ?_; refine LS.offU ?_; refine LS.offU ?_; refine LS.offU ?_; refine LS.off ?_; refine LS.off ?_; refine LS.offU ?_; refine LS.offU ?_; refine LS.offU ?_; refine LS.offU ?_; refine LS.off ?_; refine pk (v := .bool _) ?_; refine LS.done ?_
    refine zN ?_
    refine RS.condT ?_
    refine zN ?_; refine asI ?_; refine LS.done ?_; refine zN ?_; refine RS.ret1 (v := .int _ _) Tryz.func48 fun w hw => ?_
    exact ⟨by rw [hB], hw.below⟩
  have u := of_decide_eq_false u
  refine LS.on ?_; refine fld ?_; refine LS.on ?_; refine ld1 (v := .int _ _) ?_; refine LS.on ?_; refine eqI ?_; refine LS.on ?_; refine mvB ?_
  refine LS.part 44 (fun k3 => ?_) (fun k3 => ?_)
  · have k3 := of_decide_eq_true k3
    have hpe : peeredP r.kind = true := by simp [peeredP, k3]
    refine LS.off ?_; refine LS.off ?_; refine LS.off ?_; refine LS.on ?_; refine pk (v := .bool _) ?_; refine LS.on ?_; refine mvB ?_; refine LS.on ?_; refine fld ?_; refine LS.on ?_; refine ld1 (v := .slice _ _ _) ?_; refine LS.on ?_
    refine callP ?_ (hc := fun w' hw => peers_x r.peers _ w' (hp_.mono hw.imm))
    refine LS.on ?_; refine not_ ?_; refine LS.on ?_; refine pk (v := .bool _) ?_; refine pk (v := .bool _) ?_; refine LS.done ?_
    refine zN ?_
    refine RS.cond (fun q => ?_) (fun q => ?_)
    · rw [if_pos (.inr (.inr ⟨hpe, by simpa using q⟩))] at hB
      refine zN ?_; refine asI ?_; refine LS.done ?_; refine zN ?_; refine RS.ret1 (v := .int _ _) Tryz.func48 fun w hw => ?_
      exact ⟨by rw [hB], hw.below⟩
    · have hG : ¬ (r.gang < 1 ∨ 999999 < r.gang ∨ (peeredP r.kind = true ∧ risingP r.peers = false)) := by
        rintro (h | h | ⟨_, h⟩)
        · exact x h
        · exact u h
        · rw [h] at q; cases q
      rw [if_neg hG] at hB
      refine zN ?_; refine fld ?_; refine ld1 (v := .int _ _) ?_; refine eqI ?_; refine LS.done ?_
      refine zN ?_
      refine RS.cond (fun v => ?_) (fun v => ?_)
      · have v := of_decide_eq_true v
        refine zN ?_; refine fld ?_; refine ld1 (v := .slice _ _ _) ?_
        refine callP ?_ (hc := fun w' hw => placesD_x r.places _ w' (hq.mono hw.imm) hb)
        refine asI ?_; refine LS.done ?_
        refine zN ?_; refine RS.ret1 (v := .int _ _) Tryz.func48 fun w hw => ?_
        exact ⟨by rw [hB, if_pos v], hw.below⟩
      · have v := of_decide_eq_false v
        refine zN ?_; refine asI ?_; refine LS.done ?_; refine zN ?_; refine RS.ret1 (v := .int _ _) Tryz.func48 fun w hw => ?_
        exact ⟨by rw [hB, if_neg v], hw.below⟩
  have k3 := of_decide_eq_false k3
  refine LS.on ?_; refine fld ?_; refine LS.on ?_; refine ld1 (v := .int _ _) ?_; refine LS.on ?_; refine eqI ?_; refine LS.on ?_; refine pk (v := .bool _) ?_; refine LS.on ?_; refine mvB ?_
  refine LS.part 49 (fun k7 => ?_) (fun k7 => ?_)
  · have k7 := of_decide_eq_true k7
    have hpe : peeredP r.kind = true := by simp [peeredP, k7]
    refine LS.on ?_; refine fld ?_; refine LS.on ?_; refine ld1 (v := .slice _ _ _) ?_; refine LS.on ?_
    refine callP ?_ (hc := fun w' hw => peers_x r.peers _ w' (hp_.mono hw.imm))
    refine LS.on ?_; refine not_ ?_; refine LS.on ?_; refine pk (v := .bool _) ?_; refine pk (v := .bool _) ?_; refine LS.done ?_
    refine zN ?_
    refine RS.cond (fun q => ?_) (fun q => ?_)
    · rw [if_pos (.inr (.inr ⟨hpe, by simpa using q⟩))] at hB
      refine zN ?_; refine asI ?_; refine LS.done ?_; refine zN ?_; refine RS.ret1 (v := .int _ _) Tryz.func48 fun w hw => ?_
      exact ⟨by rw [hB], hw.below⟩
    · have hG : ¬ (r.gang < 1 ∨ 999999 < r.gang ∨ (peeredP r.kind = true ∧ risingP r.peers = false)) := by
        rintro (h | h | ⟨_, h⟩)
        · exact x h
        · exact u h
        · rw [h] at q; cases q
      rw [if_neg hG] at hB
      refine zN ?_; refine fld ?_; refine ld1 (v := .int _ _) ?_; refine eqI ?_; refine LS.done ?_
      refine zN ?_
      refine RS.cond (fun v => ?_) (fun v => ?_)
      · have v := of_decide_eq_true v
        refine zN ?_; refine fld ?_; refine ld1 (v := .slice _ _ _) ?_
        refine callP ?_ (hc := fun w' hw => placesD_x r.places _ w' (hq.mono hw.imm) hb)
        refine asI ?_; refine LS.done ?_
        refine zN ?_; refine RS.ret1 (v := .int _ _) Tryz.func48 fun w hw => ?_
        exact ⟨by rw [hB, if_pos v], hw.below⟩
      · have v := of_decide_eq_false v
        refine zN ?_; refine asI ?_; refine LS.done ?_; refine zN ?_; refine RS.ret1 (v := .int _ _) Tryz.func48 fun w hw => ?_
        exact ⟨by rw [hB, if_neg v], hw.below⟩
  have k7 := of_decide_eq_false k7
  have hpe : peeredP r.kind = false := by simp [peeredP, k3, k7]
  have hG : ¬ (r.gang < 1 ∨ 999999 < r.gang ∨ (peeredP r.kind = true ∧ risingP r.peers = false)) := by
    rintro (h | h | ⟨h, _⟩)
    · exact x h
    · exact u h
    · rw [hpe] at h; cases h
  rw [if_neg hG] at hB
  refine LS.off ?_; refine LS.off ?_; refine LS.off ?_; refine LS.off ?_; refine LS.on ?_; refine pk (v := .bool _) ?_; refine pk (v := .bool _) ?_; refine LS.done ?_
  refine zN ?_
  refine RS.condF ?_
  refine zN ?_; refine fld ?_; refine ld1 (v := .int _ _) ?_; refine eqI ?_; refine LS.done ?_
  refine zN ?_
  refine RS.cond (fun v => ?_) (fun v => ?_)
  · have v := of_decide_eq_true v
    refine zN ?_; refine fld ?_; refine ld1 (v := .slice _ _ _) ?_
    refine callP ?_ (hc := fun w' hw => placesD_x r.places _ w' (hq.mono hw.imm) hb)
    refine asI ?_; refine LS.done ?_
    refine zN ?_; refine RS.ret1 (v := .int _ _) Tryz.func48 fun w hw => ?_
    exact ⟨by rw [hB, if_pos v], hw.below⟩
  · have v := of_decide_eq_false v
    refine zN ?_; refine asI ?_; refine LS.done ?_; refine zN ?_; refine RS.ret1 (v := .int _ _) Tryz.func48 fun w hw => ?_
    exact ⟨by rw [hB, if_neg v], hw.below⟩
end Go.Proofs.YtealabaiamaojaaGreatDoor
namespace Go.Proofs.YtealabaiamaojaaGreatDoor
open Go.JW Go.RowKit
section
variable {w0 : World} {M : Nat → Prop} {σ : PH} {K : List HP}
theorem parseD_x (s : Bs) (hs : s.length ≤ 90000) (w : World) (hw : Sat w0 M σ K w) :
    Calls Tryz.prog 19 #[.string (B s)] w fun e w' => ∃ v σ', PH.le σ σ' ∧ ParseA s v σ' ∧ e = .returned v ∧ Sat w0 M σ' K w' := by
  obtain ⟨hws, hwn⟩ := words_small hs
  have hz : I64 0 := ⟨by decide, by decide⟩
  refine RS.enterK Tryz.func19 Tryz.ntmps19 rfl rfl hw ?_
  refine zN ?_; refine alloc_ (fun b2 => ?_); refine asI ?_; refine LS.done ?_
  refine zN ?_; refine mvS ?_
  refine callQ (fun v σ' => RepL σ' v ((wordsP s).map B)) (rcB b2 0 0 nilV nilV ⟨#[]⟩ 0 0 nilV nilV false :: K) (fun v9 σ1 hle1 hq1 => ?_) (hc := fun w' hw => words_x s hs w' hw)
  obtain ⟨a9, c9, rfl⟩ := hq1.form
  skip
  refine callQ (ReadA (wordsP s)) (rcB b2 0 0 nilV nilV ⟨#[]⟩ 0 0 nilV nilV false :: K) (fun v σ2 hle2 hq2 => ?_) (hc := fun w' hw => read_x (wordsP s) _ hq1 hws hwn w' hw)
  obtain ⟨cs, is, rr, rfl, his, hrep, hrr⟩ := hq2
  have hrep0 := hrep
  obtain ⟨vp, vq, vm, vt, rfl, h1, h2, hp_, hq, h3, h4, h5, hm, ht⟩ := hrep
  obtain ⟨ap, cp, rfl⟩ := hp_.form
  obtain ⟨aq, cq, rfl⟩ := hq.form
  obtain ⟨am, cm, rfl⟩ := hm.form
  obtain ⟨at_, ct, rfl⟩ := ht.form
  refine mvT ?_; refine extr (v := _) ?_; refine extr (v := .bool _) ?_; refine alloc_ (fun b4 => ?_); refine st (.agg _) _ ?_; refine asB ?_; refine LS.done ?_
  refine zN ?_; refine mvB ?_; refine not_ ?_; refine LS.done ?_
  cases hO : readO (wordsP s) with
  | none =>
    rw [hO] at his
    subst his
    have hP : parseP s = (rec0, 8) := by unfold parseP; rw [hO]
    refine zN ?_
    refine RS.condT ?_
    refine zN ?_; refine bld (vals := []) [_, _, _, _, _, _, _, _, _, _] ?_; refine st (.agg _) _ ?_; refine asI ?_; refine LS.done ?_
    refine zN ?_
    refine RS.retCT (ty := 33) (v := .int .i64 8) Tryz.func19 (recC rec0 nilV nilV nilV nilV) fun w hw => ?_
    exact ⟨_, σ2, PH.le_trans hle1 hle2, ⟨_, by rw [hP], by rw [hP]; exact rec0_rep σ2 0 hz⟩, rfl, hw.weak fun F h => h.tail.tail⟩
  | some r =>
    rw [hO] at his
    subst his
    obtain rfl := hrr r hO
    have hsm := read_small hO hws hwn
    refine zN ?_
    refine RS.condF ?_
    refine zN ?_; refine ldA (recC rr (.slice ap rr.peers.length cp) (.slice aq rr.places.length cq) (.slice am rr.node.marks.length cm) (.slice at_ rr.node.taints.length ct)) ?_
    refine callP ?_ (hc := fun w' hw => checkD_x _ rr w' (Rep.mono hrep0 hw.imm) hsm.2.2.1)
    refine asI ?_; refine LS.done ?_
    refine zN ?_; refine mvI ?_; refine neI ?_; refine LS.done ?_
    refine zN ?_
    refine RS.cond (fun z => ?_) (fun z => ?_)
    · have z : ¬ checkP rr = 0 := by simpa using z
      have hP : parseP s = (rec0, checkP rr) := by unfold parseP; rw [hO]; simp only; rw [if_neg z]
      refine zN ?_; refine bld (vals := []) [_, _, _, _, _, _, _, _, _, _] ?_; refine mvI ?_; refine st (.agg _) _ ?_; refine asI ?_; refine LS.done ?_
      refine zN ?_
      refine RS.retCT (ty := 33) (v := .int .i64 (checkP rr)) Tryz.func19 (recC rec0 nilV nilV nilV nilV) fun w hw => ?_
      exact ⟨_, σ2, PH.le_trans hle1 hle2, ⟨_, by rw [hP], by rw [hP]; exact rec0_rep σ2 0 hz⟩, rfl, hw.weak fun F h => h.tail.tail⟩
    · have z : checkP rr = 0 := by simpa using z
      have hP : parseP s = (rr, 0) := by unfold parseP; rw [hO]; simp only; rw [if_pos z]
      refine zN ?_; refine ldA [_, _, _, _, _, _, _, _, _, _] ?_; refine st (.agg _) _ ?_; refine asI ?_; refine LS.done ?_
      refine zN ?_
      refine RS.retCT (ty := 33) (v := .int .i64 0) Tryz.func19 (recC rr (.slice ap rr.peers.length cp) (.slice aq rr.places.length cq) (.slice am rr.node.marks.length cm) (.slice at_ rr.node.taints.length ct)) fun w hw => ?_
      exact ⟨_, σ2, PH.le_trans hle1 hle2, ⟨_, by rw [hP], by rw [hP]; exact hrep0⟩, rfl, hw.weak fun F h => h.tail.tail⟩
end
end Go.Proofs.YtealabaiamaojaaGreatDoor
namespace Go.Proofs.YtealabaiamaojaaGreatDoor
open Go.JW Go.RowKit

def letter (p : ByteArray) (at_ : Int) : ByteArray := p ++ (List.foldl (fun (r : ByteArray) (n : Int) => r.push (UInt8.ofNat n.toNat)) ByteArray.empty [IntKind.u8.wrap (97 + at_)])
theorem letter_size (p : ByteArray) (a : Int) : (letter p a).size = p.size + 1 := by
  simp only [letter, ByteArray.size_append, List.foldl]; rw [ByteArray.size_push]; rfl

def nodeOf (a n : Int) : NodeD :=
  { name := nameOf a, cpu := n % 12, mem := n.tdiv 12 % 12, marks := setOf (n.tdiv 144), taints := if n.tdiv 23 % 3 = 0 then setOf (n.tdiv 31) else [], closed := decide (n.tdiv 17 % 9 = 0) }
theorem nameOf_size (a : Int) : (nameOf a).size ≤ 16 := by
  unfold nameOf
  rcases Nat.lt_or_ge (a % 8).toNat 8 with h | h
  · have : ∀ i : Fin 8, (names8.getD i.val ⟨#[]⟩).size ≤ 16 := by decide
    exact this ⟨_, h⟩
  · have := wmod a 8 (by omega); omega
theorem lnode_c (a n : Int) (hn : I64 n) (w : World) : Calls Tryz.prog 30 #[.int .i64 a, .int .i64 n] w fun e w' =>
    ∃ v, e = .returned v ∧ Below w.heap.size w w' ∧ ∃ cs, v = .agg (List.toArray cs) ∧ Rep.rep (since w w') cs (nodeOf a n) := by
  obtain ⟨a1, a2⟩ := wmod n 12 (by omega)
  obtain ⟨b1, b2⟩ := wmod (n.tdiv 12) 12 (by omega)
  refine RS.enter Tryz.func30 Tryz.ntmps30 rfl rfl ?_
  refine zN ?_; refine alloc_ (fun b4 => ?_); refine LS.done ?_
  refine zN ?_; refine mvI ?_
  refine callP ?_ (hc := fun w _ => lname_c _ w)
  refine mvI ?_
  refine callP ?_ (hc := fun w _ => w3_c _ _ (by omega) (by omega) w)
  refine mvI ?_; refine quoN ?_
  refine callP ?_ (hc := fun w _ => w3_c _ _ (by omega) (by omega) w)
  refine bld (vals := [(0, .int _ _), (1, .int _ _)]) [_, _] ?_; refine mvI ?_; refine quoN ?_
  refine callT (fun v τ => RepL τ v (setOf (n.tdiv 144))) (fun v τ1 σ2 hq1 hN1 hle2 hτ1 => ?_) (fun w _ => lset_c _ w)
  obtain ⟨a1', c1', rfl⟩ := hq1.form
  refine mvI ?_; refine quoN ?_
  refine callP ?_ (hc := fun w _ => w3_c _ _ (by omega) (by omega) w)
  refine eqI ?_; refine bld (vals := [(0, .string _), (1, .agg (List.toArray [_, _])), (2, .slice _ _ _), (4, .bool _)]) [_, _, _, _, _, _] ?_; refine alloc_ (fun b5 => ?_); refine st (.agg _) _ ?_; refine LS.done ?_
  refine zN ?_; refine mvI ?_; refine quoN ?_
  refine callP ?_ (hc := fun w _ => w3_c _ _ (by omega) (by omega) w)
  refine eqI ?_; refine LS.done ?_; refine zN ?_
  refine RS.cond (fun e => ?_) (fun e => ?_)
  all_goals simp only [decide_eq_true_eq, decide_eq_false_iff_not] at e
  · refine zN ?_; refine mvI ?_; refine quoN ?_
    refine callT (fun v τ => RepL τ v (setOf (n.tdiv 31))) (fun v τ2 σ3 hq2 hN2 hle3 hτ2 => ?_) (fun w _ => lset_c _ w)
    obtain ⟨a2', c2', rfl⟩ := hq2.form
    refine fld ?_; refine st (.slice _ _ _) _ ?_; refine LS.done ?_
    refine zN ?_; refine ldA [_, _, _, _, _, _] ?_; refine st (.agg _) _ ?_; refine LS.done ?_; refine zN ?_; refine RS.retC (ty := 31) Tryz.func30 [_, _, _, _, _, _] fun w hw => ?_
    refine ⟨_, rfl, hw.below, _, rfl, _, _, rfl, by show (nameOf a).size ≤ _; have := nameOf_size a; omega, by show I64 (n % 12); omega, by show I64 (n.tdiv 12 % 12); omega, ?_, ?_⟩
    · exact hq1.mono (hN1.le_since (PH.le_trans hτ1 hle3) hw)
    · show RepL _ _ (if n.tdiv 23 % 3 = 0 then setOf (n.tdiv 31) else []); rw [if_pos e]; exact hq2.mono (hN2.le_since hτ2 hw)
  · refine zN ?_
    refine zN ?_; refine ldA [_, _, _, _, _, _] ?_; refine st (.agg _) _ ?_; refine LS.done ?_; refine zN ?_; refine RS.retC (ty := 31) Tryz.func30 [_, _, _, _, _, _] fun w hw => ?_
    refine ⟨_, rfl, hw.below, _, rfl, _, _, rfl, by show (nameOf a).size ≤ _; have := nameOf_size a; omega, by show I64 (n % 12); omega, by show I64 (n.tdiv 12 % 12); omega, ?_, ?_⟩
    · exact hq1.mono (hN1.le_since hτ1 hw)
    · show RepL _ _ (if n.tdiv 23 % 3 = 0 then setOf (n.tdiv 31) else []); rw [if_neg e]; exact RepL.nil _ _ _
end Go.Proofs.YtealabaiamaojaaGreatDoor
namespace Go.Proofs.YtealabaiamaojaaGreatDoor
open Go.JW Go.RowKit
theorem isSet_ofN (n : Int) : isSet (setOf n) = true := by
  simp only [setOf, setN]
  by_cases h0 : bitOf n 0 = 1 <;> by_cases h1 : bitOf n 1 = 1 <;> by_cases h2 : bitOf n 2 = 1 <;> by_cases h3 : bitOf n 3 = 1 <;> simp only [h0, h1, h2, h3, if_true, if_false] <;> decide +kernel
theorem isSet_orN (c : Prop) [Decidable c] (n : Int) : isSet (if c then setOf n else []) = true := by
  split
  · exact isSet_ofN n
  · decide
theorem isName_ofN (a : Int) : isName (nameOf a) = true := by
  obtain ⟨h1, h2⟩ := wmod a 8 (by omega)
  have h : (a % 8).toNat < 8 := by omega
  have : ∀ i : Fin 8, isName (names8.getD i.val ⟨#[]⟩) = true := by decide +kernel
  exact this ⟨_, h⟩
theorem node_okN (a n : Int) : nodeErr (nodeOf a n) = 0 := by
  obtain ⟨a1, a2⟩ := wmod n 12 (by omega)
  obtain ⟨b1, b2⟩ := wmod (n.tdiv 12) 12 (by omega)
  have h : sizeOk (n % 12) (n.tdiv 12 % 12) = true := by simp only [sizeOk, size1, Bool.and_eq_true, decide_eq_true_eq]; omega
  simp only [nodeErr, nodeOf, isName_ofN, h, isSet_ofN, isSet_orN]; rfl
def peersTo (n : Int) : Nat → List Int
  | 0 => []
  | k + 1 => if bitOf n (k + 1) = 1 ∨ (k + 1 = 4 ∧ peersTo n k = []) then peersTo n k ++ [((k + 1 : Nat) : Int)] else peersTo n k
def peersOf (n : Int) : List Int := peersTo n 4
theorem peersTo_len (n : Int) : ∀ k, (peersTo n k).length ≤ k := by
  intro k
  induction k with
  | zero => exact Nat.le_refl _
  | succ k ih => 
    simp only [peersTo]
    split
    · simp; omega
    · omega
theorem peers_okN (n : Int) : risingP (peersOf n) = true := by
  simp only [peersOf, peersTo]
  by_cases h1 : bitOf n (0 + 1) = 1 <;> by_cases h2 : bitOf n (1 + 1) = 1 <;> by_cases h3 : bitOf n (1 + 1 + 1) = 1 <;> by_cases h4 : bitOf n (2 + 1 + 1) = 1 <;> simp [h1, h2, h3, h4] <;> decide
theorem pnames_ok : ∀ i : Fin 8, isName (letter ⟨#[112]⟩ (i.val : Int)) = true := by decide +kernel
theorem pnames_inj : ∀ i j : Fin 8, letter ⟨#[112]⟩ (i.val : Int) = letter ⟨#[112]⟩ (j.val : Int) → i = j := by decide +kernel
def placeK (i : Nat) (k : Int) : PlaceD := ⟨letter ⟨#[112]⟩ (i : Int), nameOf k, k.tdiv 8 % 1099511627777, k % 9, decide (k.tdiv 3 % 3 = 0)⟩
def kAtN (ns : List Int) (i : Nat) : Int := if i < ns.length then ns.getD i 0 else i
def placeAt (ns : List Int) (i : Nat) : PlaceD := placeK i (kAtN ns i)
def placesN (ns : List Int) (m : Nat) : List PlaceD := (List.range m).map (placeAt ns)
def manyN (ns : List Int) : Nat := max 1 (min 8 ns.length)
def makeP (kind gang : Int) (ns : List Int) (name : Int) : RecD :=
  let k := 1 + kind % 7
  let g := 1 + gang % 999999
  if k = 1 then { rec0 with kind := k, node := nodeOf name (if ns.length = 0 then 5 else ns.getD 0 0) }
  else if k = 2 then { rec0 with kind := k, node := { node0 with name := nameOf name } }
  else if k = 3 then { rec0 with kind := k, gang := g, peers := peersOf name, places := placesN ns (manyN ns) }
  else if k = 7 then { rec0 with kind := k, gang := g, peers := peersOf name }
  else { rec0 with kind := k, gang := g }
theorem placeAt_ok (ns : List Int) (i : Nat) (h : i < 8) : placeE (placeAt ns i) = 0 := by
  obtain ⟨k, hk⟩ : ∃ k : Int, k = kAtN ns i := ⟨_, rfl⟩
  obtain ⟨a1, a2⟩ := wmod (k.tdiv 8) 1099511627777 (by omega)
  obtain ⟨b1, b2⟩ := wmod k 9 (by omega)
  have h1 : sizeOk (k.tdiv 8 % 1099511627777) (k % 9) = true := by simp only [sizeOk, size1, Bool.and_eq_true, decide_eq_true_eq]; omega
  have h2 := pnames_ok ⟨i, h⟩
  unfold placeE placeAt placeK
  simp only [← hk]
  rw [if_neg (by rw [h2, isName_ofN]; simp), if_neg (by rw [h1]; simp)]
theorem manyN_in (ns : List Int) : 1 ≤ manyN ns ∧ manyN ns ≤ 8 := by unfold manyN; omega
theorem placesN_ok (ns : List Int) (m : Nat) (h : 1 ≤ m ∧ m ≤ 8) : placesE (placesN ns m) = 0 := by
  have hl : (placesN ns m).length = m := by simp [placesN]
  unfold placesE
  rw [if_neg (by rw [hl]; omega), placesBad_ok fun i hi => by
    rw [hl] at hi
    simp only [placesN, List.getElem_map, List.getElem_range]
    exact placeAt_ok ns i (by omega)]
  rw [if_neg (by decide), dup_not fun i k hki hi hk => by
    rw [hl] at hi hk
    simp only [placesN, List.getElem_map, List.getElem_range]
    intro e
    have := pnames_inj ⟨i, by omega⟩ ⟨k, by omega⟩ e
    simp only [Fin.mk.injEq] at this
    omega]
  decide
theorem make_ok (kind gang : Int) (ns : List Int) (name : Int) : checkP (makeP kind gang ns name) = 0 := by
  obtain ⟨a1, a2⟩ := wmod kind 7 (by omega)
  obtain ⟨b1, b2⟩ := wmod gang 999999 (by omega)
  have hn := node_okN name (if ns = [] then 5 else ns[0]?.getD 0)
  have hnm := isName_ofN name
  have hp := peers_okN name
  have hl := placesN_ok ns _ (manyN_in ns)
  obtain ⟨k, hk⟩ : ∃ k, k = 1 + kind % 7 := ⟨_, rfl⟩
  unfold makeP
  simp only [← hk]
  have h7 : k = 1 ∨ k = 2 ∨ k = 3 ∨ k = 4 ∨ k = 5 ∨ k = 6 ∨ k = 7 := by omega
  have e0 : (⟨#[]⟩ : ByteArray).size = 0 := rfl
  have hg1 : ¬ (1 + gang % 999999 < 1) := by omega
  have hg2 : ¬ (999999 < 1 + gang % 999999) := by omega
  rcases h7 with rfl | rfl | rfl | rfl | rfl | rfl | rfl <;> simp [checkP, moreP, gangsP, peeredP, bareP, rec0, node0, hn, hnm, hp, hl, hg1, hg2, e0]
end Go.Proofs.YtealabaiamaojaaGreatDoor
namespace Go.Proofs.YtealabaiamaojaaGreatDoor
open Go.JW Go.RowKit
theorem peers4_c (n : Int) (w : World) : Calls Tryz.prog 32 #[.int .i64 n] w fun e w' => ∃ v, e = .returned v ∧ Below w.heap.size w w' ∧ RepL (since w w') v (peersOf n) := by
  refine RS.enter Tryz.func32 Tryz.ntmps32 rfl rfl ?_
  refine zN ?_; refine asL ?_; refine LS.done ?_
  refine zN ?_; refine asL ?_; refine LS.done ?_
  refine zN ?_; refine asI ?_; refine LS.done ?_
  refine zN ?_
  refine RS.nilD w.heap.size Int 3 ?_
  refine RS.loopF (X := Nat × Value) 3 28 (fun x => x.1 ≤ 4) (fun x => [(3, x.2), (4, .int .i64 ((x.1 + 1 : Nat) : Int))]) (fun _ => hp w) (fun x => [rowD w.heap.size 3 x.2 (peersTo n x.1)]) (fun x => 4 - x.1) (0, nilV) (by simp) ⟨rfl, rfl, trivial⟩ rfl ⟨fun h => h⟩ ?_
  rintro ⟨k, v⟩ g hk ih
  dsimp only at hk
  have hln := peersTo_len n k
  refine RS.formD (l := peersTo n k) v (fun a c ev _ => ?_); subst ev
  refine zN ?_; refine mvI ?_; refine leI ?_; refine LS.done ?_
  refine zN ?_
  by_cases hlt : k < 4
  · refine RS.condT ?_ (h := by simp; omega)
    have hwi : ((k + 1 : Nat) : Int) + 1 = ((k + 1 + 1 : Nat) : Int) := by omega
    have hI : I64 ((k + 1 : Nat) : Int) := by constructor <;> omega
    have hcell : ∀ τ : PH, CellsL τ [Value.int .i64 ((k + 1 : Nat) : Int)] [((k + 1 : Nat) : Int)] := fun τ => CellsL.one_ (show Rep.rep τ [Value.int .i64 ((k + 1 : Nat) : Int)] ((k + 1 : Nat) : Int) from ⟨rfl, hI⟩)
    refine zN ?_; refine mvI ?_; refine mvI ?_; refine cvU ?_; refine shrI ?_
    refine callP ?_ (hc := fun w _ => w4_c _ _ (by omega) (by omega) w)
    refine eqI ?_; refine mvB ?_
    refine LS.cut 5 24 [(23, .bool (decide (bitOf n (k + 1) = 1 ∨ (k + 1 = 4 ∧ peersTo n k = []))))] (fun gg => ?_) (fun J => ?_)
    rotate_left
    · refine LS.part 15 (fun z => ?_) (fun z => ?_)
      · refine LS.off ?_; refine LS.off ?_; refine LS.off ?_; refine LS.offU ?_; refine LS.offU ?_; refine LS.offU ?_; refine LS.off ?_; refine pk (v := .bool _) ?_; refine LS.done ?_
        exact J ⟨boolV (by symm; exact decide_eq_true (.inl (of_decide_eq_true z))), trivial⟩ (by repeat (first | with_reducible exact Out.refl _ _ _ | exact Out.hv | refine Out.upd ?_ | refine Out.hvIn ?_))
      · have z := of_decide_eq_false z
        refine LS.on ?_; refine mvI ?_; refine LS.on ?_; refine eqI ?_; refine LS.on ?_; refine mvB ?_
        refine LS.part 18 (fun y => ?_) (fun y => ?_)
        · have y := of_decide_eq_true y
          refine LS.on ?_; refine mvL ?_; refine LS.on ?_; refine lenL ?_; refine LS.on ?_; refine eqI ?_; refine LS.on ?_; refine pk (v := .bool _) ?_; refine pk (v := .bool _) ?_; refine LS.done ?_
          exact J ⟨boolV (by
            rw [decide_eq_decide]
            constructor
            · intro h; exact .inr ⟨by omega, List.eq_nil_of_length_eq_zero (by omega)⟩
            · rintro (h | ⟨_, h⟩)
              · exact absurd h z
              · rw [h]; rfl), trivial⟩ (by repeat (first | with_reducible exact Out.refl _ _ _ | exact Out.hv | refine Out.upd ?_ | refine Out.hvIn ?_))
        · have y := of_decide_eq_false y
          refine LS.off ?_; refine LS.off ?_; refine LS.off ?_; refine LS.on ?_; refine pk (v := .bool _) ?_; refine pk (v := .bool _) ?_; refine LS.done ?_
          exact J ⟨boolV (by
            symm; apply decide_eq_false
            rintro (h | ⟨h, _⟩)
            · exact absurd h z
            · omega), trivial⟩ (by repeat (first | with_reducible exact Out.refl _ _ _ | exact Out.hv | refine Out.upd ?_ | refine Out.hvIn ?_))
    refine zN ?_
    refine RS.cond (fun z => ?_) (fun z => ?_)
    · have z := of_decide_eq_true z
      refine zN ?_; refine mvL ?_; refine mvI ?_; refine bldS [.int .i64 ((k + 1 : Nat) : Int)] [.int .i64 ((k + 1 : Nat) : Int)] (fun b26 => ?_); refine appD (v := .slice a (peersTo n k).length c) (l' := [((k + 1 : Nat) : Int)]) (vy := .slice (some ⟨b26, 0, none⟩) 1 1) (fun w' hw => ⟨_, srcB hw TSlice.eq, hcell _⟩) (fun v27 => ?_); refine as_ (v := v27) ?_; refine LS.done ?_
      refine zN ?_; refine mvI ?_; (first | refine addN ?_ | refine addI ?_); refine asI ?_; refine LS.done ?_; refine zN ?_
      exact ih (k + 1, v27) hlt (by (try dsimp only); omega) ⟨rfl, intV hwi, trivial⟩ (by repeat (first | with_reducible exact Out.refl _ _ _ | exact Out.hv | refine Out.upd ?_ | refine Out.hvIn ?_)) ⟨fun h => by simp only [peersTo]; rw [if_pos z]; exact h.tail⟩ rfl
    · have z := of_decide_eq_false z
      refine zN ?_; refine mvI ?_; (first | refine addN ?_ | refine addI ?_); refine asI ?_; refine LS.done ?_; refine zN ?_
      exact ih (k + 1, _) hlt (by (try dsimp only); omega) ⟨rfl, intV hwi, trivial⟩ (by repeat (first | with_reducible exact Out.refl _ _ _ | exact Out.hv | refine Out.upd ?_ | refine Out.hvIn ?_)) ⟨fun h => by simp only [peersTo]; rw [if_neg z]; exact h⟩ rfl
  · refine RS.condF ?_ (h := by simp; omega)
    obtain rfl : k = 4 := by omega
    refine zN ?_; refine mvL ?_; refine asL ?_; refine LS.done ?_; refine zN ?_; refine RS.ret1 (v := .slice _ _ _) Tryz.func32 fun w hw => ?_
    exact ⟨_, rfl, hw.below, hw.rowNewD (l := peersTo n 4) (Nat.le_refl _) (by omega)⟩
theorem placeK_rep (τ : PH) (i : Nat) (k : Int) : Rep.rep τ (placeC (placeK i k)) (placeK i k) := by
  obtain ⟨a1, a2⟩ := wmod (k.tdiv 8) 1099511627777 (by omega)
  obtain ⟨b1, b2⟩ := wmod k 9 (by omega)
  refine ⟨rfl, ?_, ?_, ?_, ?_⟩
  · show (letter _ _).size ≤ _; rw [letter_size]; decide
  · show (nameOf k).size ≤ _; have := nameOf_size k; omega
  · show I64 (k.tdiv 8 % 1099511627777); omega
  · show I64 (k % 9); omega
theorem placesN_succ (ns : List Int) (i : Nat) : placesN ns (i + 1) = placesN ns i ++ [placeAt ns i] := by unfold placesN; rw [List.range_succ, List.map_append]; rfl
theorem placesN_len (ns : List Int) (i : Nat) : (placesN ns i).length = i := by simp [placesN]
abbrev mkTy : TypeId := 37
theorem make_c (kind gang name : Int) (ns : List Int) (vn : Value) (w : World) (hr : RepL (hp w) vn ns) : Calls Tryz.prog 13 #[.int .i64 kind, .int .i64 gang, vn, .int .i64 name] w fun e w' =>
    ∃ v, e = .returned v ∧ Below w.heap.size w w' ∧ ∃ cs, v = .agg (List.toArray cs) ∧ Rep.rep (since w w') cs (makeP kind gang ns name) := by
  obtain ⟨an, cn, rfl⟩ := hr.form
  have hlen : ns.length ≤ 140737488355328 := hr.1
  obtain ⟨a1, a2⟩ := wmod kind 7 (by omega)
  obtain ⟨b1, b2⟩ := wmod gang 999999 (by omega)
  have z : I64 0 := ⟨by decide, by decide⟩
  have hgI : I64 (1 + gang % 999999) := ⟨by omega, by omega⟩
  have hwk : IntKind.i64.wrap (1 + kind % 7) = 1 + kind % 7 := wrapEq (by omega) (by omega)
  have hwg : IntKind.i64.wrap (1 + gang % 999999) = 1 + gang % 999999 := wrapEq (by omega) (by omega)
  have hm : manyN ns = max 1 (min 8 ns.length) := rfl
  refine RS.enter Tryz.func13 Tryz.ntmps13 rfl rfl ?_
  refine zN ?_; refine alloc_ (fun b8 => ?_); refine LS.done ?_
  refine zN ?_; refine mvI ?_
  refine callP ?_ (hc := fun w _ => w4_c _ _ (by omega) (by omega) w)
  (first | refine addN ?_ | refine addI ?_); refine mvI ?_
  refine callP ?_ (hc := fun w _ => w4_c _ _ (by omega) (by omega) w)
  (first | refine addN ?_ | refine addI ?_); refine bld (vals := [(0, .int _ _), (1, .int _ _)]) [_, _, _, _, _, _, _, _, _, _] ?_; refine alloc_ (fun b9 => ?_); refine st (.agg _) _ ?_; refine LS.done ?_
  refine zN ?_; refine asI ?_; refine LS.done ?_
  refine zN ?_; refine mvL ?_; refine lenL ?_; refine gtI ?_; refine LS.done ?_
  obtain ⟨k, hk⟩ : ∃ k, k = 1 + kind % 7 := ⟨_, rfl⟩
  have hk7 : k = 1 ∨ k = 2 ∨ k = 3 ∨ k = 4 ∨ k = 5 ∨ k = 6 ∨ k = 7 := by omega
  have hkI : I64 k := ⟨by omega, by omega⟩
  unfold makeP
  simp only [← hk]
  obtain ⟨n0, hn0⟩ : ∃ n0 : Int, n0 = if ns.length = 0 then 5 else ns.getD 0 0 := ⟨_, rfl⟩
  rw [← hn0]
  repeat refine RS.seq ?_
  refine RS.cut (X := Unit) 10 26 (fun _ => True) (fun _ => [(10, .int .i64 n0)]) (fun _ => hp w) (fun _ => [rcB b9 k (1 + gang % 999999) nilV nilV ⟨#[]⟩ 0 0 nilV nilV false, rcB b8 0 0 nilV nilV ⟨#[]⟩ 0 0 nilV nilV false]) ?_ (fun J => ?_)
  rotate_left
  · refine RS.cond (fun c => ?_) (fun c => ?_)
    · have c := of_decide_eq_true c
      obtain ⟨b, o, rfl, hrow⟩ := hr.addr (fun h => by simp [h] at c)
      obtain ⟨hcell, h64⟩ := hrow.int 0 (by omega)
      have e0 : ns[0]'(by omega) = n0 := by rw [hn0, if_neg (by omega)]; simp [List.getD_eq_getElem?_getD, show 0 < ns.length by omega]
      rw [e0] at hcell
      refine zN ?_; refine mvL ?_; refine idx (i := 0) ?_ (hi := by omega); refine ldS hcell ?_; refine asI ?_; refine LS.done ?_
      exact J () trivial ⟨rfl, trivial⟩ (by repeat (first | with_reducible exact Out.refl _ _ _ | exact Out.hv | refine Out.upd ?_ | refine Out.hvIn ?_)) ⟨fun h => h⟩ rfl
    · have c := of_decide_eq_false c
      have e0 : n0 = 5 := by rw [hn0, if_pos (by omega)]
      refine RS.skip ?_
      exact J () trivial ⟨by rw [e0]; rfl, trivial⟩ (by repeat (first | with_reducible exact Out.refl _ _ _ | exact Out.hv | refine Out.upd ?_ | refine Out.hvIn ?_)) ⟨fun h => h⟩ rfl
  rintro _ g _
  have hn64 : I64 n0 := by
    rw [hn0]; split
    · exact ⟨by decide, by decide⟩
    · rename_i h0
      obtain ⟨b, o, e, hrow⟩ := hr.addr (fun h => by simp [h] at h0)
      obtain ⟨_, h64⟩ := hrow.int 0 (by omega)
      simpa [List.getD_eq_getElem?_getD, show 0 < ns.length by omega] using h64
  refine zN ?_; refine fld ?_; refine ld1 (v := .int _ _) ?_; refine LS.done ?_
  refine zN ?_; refine eqI ?_; refine asB ?_; refine LS.done ?_
  refine zN ?_
  rcases hk7 with rfl | rfl | rfl | rfl | rfl | rfl | rfl
  · refine RS.condT ?_
    refine zN ?_; refine mvI ?_; refine mvI ?_
    refine callT (fun v τ => ∃ cs, v = .agg (List.toArray cs) ∧ Rep.rep τ cs (nodeOf name n0)) (fun v τ1 σ1 hq hN hle hτ => ?_) (fun w _ => lnode_c name n0 hn64 w)
    obtain ⟨cs, rfl, vm, vt, rfl, m1, m2, m3, hm1, ht1⟩ := hq
    obtain ⟨am, cm, rfl⟩ := hm1.form
    obtain ⟨at_, ct, rfl⟩ := ht1.form
    refine fld ?_; refine st (.int _ _) _ ?_; refine fld ?_; refine st (.agg _) _ ?_; refine LS.done ?_
    refine zN ?_
    refine zN ?_; refine ldA [_, _, _, _, _, _, _, _, _, _] ?_; refine st (.agg _) _ ?_; refine LS.done ?_
    refine zN ?_; refine RS.retC (ty := 33) Tryz.func13 [_, _, _, _, _, _, _, _, _, _] fun w hw => ?_
    exact ⟨_, rfl, hw.below, _, rfl, _, _, _, _, rfl, hkI, z, RepL.nil _ _ _, RepL.nil _ _ _, m1, m2, m3, hm1.mono (hN.le_since hτ hw), ht1.mono (hN.le_since hτ hw)⟩
  · refine RS.condF ?_
    refine zN ?_; refine eqI ?_; refine asB ?_; refine LS.done ?_
    refine zN ?_
    refine RS.condT ?_
    refine zN ?_; refine mvI ?_
    refine callP ?_ (hc := fun w _ => lname_c _ w)
    refine fld ?_; refine st (.int _ _) _ ?_; refine fld ?_; refine fld ?_; refine st (.string _) _ ?_; refine LS.done ?_
    refine zN ?_
    refine zN ?_; refine ldA [_, _, _, _, _, _, _, _, _, _] ?_; refine st (.agg _) _ ?_; refine LS.done ?_
    refine zN ?_; refine RS.retC (ty := 33) Tryz.func13 [_, _, _, _, _, _, _, _, _, _] fun w hw => ?_
    exact ⟨_, rfl, hw.below, _, rfl, _, _, _, _, rfl, hkI, z, RepL.nil _ _ _, RepL.nil _ _ _, by show (nameOf name).size ≤ _; have := nameOf_size name; omega, z, z, RepL.nil _ _ _, RepL.nil _ _ _⟩
  · refine RS.condF ?_
    refine zN ?_; refine eqI ?_; refine asB ?_; refine LS.done ?_
    refine zN ?_
    refine RS.condF ?_
    refine zN ?_; refine eqI ?_; refine asB ?_; refine LS.done ?_
    refine zN ?_
    refine RS.condT ?_
    refine zN ?_; refine mvI ?_
    refine callT (fun v τ => RepL τ v (peersOf name)) (fun v τ1 σ1 hq hN hle hτ => ?_) (fun w _ => peers4_c name w)
    obtain ⟨ap, cp, rfl⟩ := hq.form
    have k1 := hle
    refine fld ?_; refine st (.slice _ _ _) _ ?_; refine LS.done ?_
    refine zN ?_; refine asI ?_; refine LS.done ?_
    refine zN ?_
    refine RS.nilD w.heap.size PlaceD mkTy ?_
    refine RS.loopF (X := Nat × Value × PH) 11 94 (fun x => x.1 ≤ manyN ns ∧ PH.le σ1 x.2.2) (fun x => [(11, .int .i64 x.1)]) (fun x => x.2.2)
      (fun x => [rowD w.heap.size mkTy x.2.1 (placesN ns x.1), rcB b9 3 (1 + gang % 999999) (.slice ap (peersOf name).length cp) x.2.1 ⟨#[]⟩ 0 0 nilV nilV false, rcB b8 0 0 nilV nilV ⟨#[]⟩ 0 0 nilV nilV false]) (fun x => manyN ns - x.1) (0, nilV, σ1) ⟨Nat.zero_le _, PH.le_refl _⟩ ⟨rfl, trivial⟩ rfl ⟨fun h => h⟩ ?_
    rintro ⟨i, vq, σ2⟩ g2 ⟨hi, hle⟩ ih
    dsimp only at hi hle
    have hpl := placesN_len ns i
    refine zN ?_; refine mvI ?_; refine ltI ?_; refine mvB ?_
    refine LS.cut 47 59 [(58, .bool (decide (i < manyN ns)))] (fun gg => ?_) (fun J => ?_)
    rotate_left
    · refine LS.part 49 (fun z1 => ?_) (fun z1 => ?_)
      · have z1 := of_decide_eq_true z1
        refine LS.on ?_; refine mvI ?_; refine LS.on ?_; refine mvL ?_; refine LS.on ?_; refine lenL ?_; refine LS.on ?_; refine ltI ?_; refine pk (v := .bool _) ?_; refine mvB ?_
        refine LS.part 55 (fun z2 => ?_) (fun z2 => ?_)
        · have z2 := of_decide_eq_true z2
          refine LS.off ?_; refine LS.off ?_; refine pk (v := .bool _) ?_; refine LS.done ?_
          exact J ⟨boolV (by symm; apply decide_eq_true; omega), trivial⟩ (by repeat (first | with_reducible exact Out.refl _ _ _ | exact Out.hv | refine Out.upd ?_ | refine Out.hvIn ?_))
        · have z2 := of_decide_eq_false z2
          refine LS.on ?_; refine mvI ?_; refine LS.on ?_; refine eqI ?_; refine pk (v := .bool _) ?_; refine LS.done ?_
          exact J ⟨boolV (by rw [decide_eq_decide]; omega), trivial⟩ (by repeat (first | with_reducible exact Out.refl _ _ _ | exact Out.hv | refine Out.upd ?_ | refine Out.hvIn ?_))
      · have z1 := of_decide_eq_false z1
        refine LS.off ?_; refine LS.off ?_; refine LS.off ?_; refine LS.off ?_; refine pk (v := .bool _) ?_; refine mvB ?_; refine LS.on ?_; refine mvI ?_; refine LS.on ?_; refine eqI ?_; refine pk (v := .bool _) ?_; refine LS.done ?_
        exact J ⟨boolV (by rw [decide_eq_decide]; omega), trivial⟩ (by repeat (first | with_reducible exact Out.refl _ _ _ | exact Out.hv | refine Out.upd ?_ | refine Out.hvIn ?_))
    refine zN ?_
    refine RS.cond (fun c => ?_) (fun c => ?_)
    · have c := of_decide_eq_true c
      have hi8 : i < 8 := by omega
      have hp1 : (⟨#[112]⟩ : ByteArray).size = 1 := rfl
      have hf1 : (List.foldl (fun (r : ByteArray) (n : Int) => r.push (UInt8.ofNat n.toNat)) ByteArray.empty [IntKind.u8.wrap (97 + (i : Int))]).size = 1 := by simp only [List.foldl]; rw [ByteArray.size_push]; rfl
      refine zN ?_; refine mvI ?_; refine asI ?_; refine LS.done ?_
      refine zN ?_; refine mvI ?_; refine mvL ?_; refine lenL ?_; refine ltI ?_; refine LS.done ?_
      refine zN ?_
      by_cases hin : i < ns.length
      · refine RS.condT ?_ (h := by simp; omega)
        obtain ⟨b, o, rfl, hrow⟩ := hr.addr (List.ne_nil_of_length_pos (by omega))
        obtain ⟨hcell, h64⟩ := (hrow.mono (PH.le_trans k1 hle)).int i hin
        have e0 : ns[i] = ns.getD i 0 := by simp [List.getD_eq_getElem?_getD, hin]
        rw [e0] at hcell h64
        refine zN ?_; refine mvL ?_; refine mvI ?_; refine idx (i := i) ?_; refine ldS hcell ?_; refine asI ?_; refine LS.done ?_
        have hkk : ns.getD i 0 = kAtN ns i := by unfold kAtN; first | rw [if_pos hin] | rw [if_neg hin]
        refine zD ?_; refine RS.draw [.free, .ex, .free, .free, .free, .ex, .ex, .free, .free, .ex, .free, .free, .ex, .free, .ex, .free, .free, .free, .ex, .free, .free, .ex, .eff, .free, .st] [rcB b9 3 (1 + gang % 999999) (.slice ap (peersOf name).length cp) vq ⟨#[]⟩ 0 0 nilV nilV false] ?_ (by kernel_rfl) (by kernel_rfl) (by infer_instance); refine D.fld ?_; refine D.ld1 (v := vq) ?_; refine D.mvI ?_; (first | refine D.addN ?_ | refine D.addI ?_); refine D.cvI ?_
        refine D.bldL [.int .u8 _] [.int .u8 _] ?_
        refine D.b2s (c0 := 1) [IntKind.u8.wrap (97 + (i : Int))] 75 ?_ (fun us σ' _ ⟨⟨b, h1, h2⟩, _⟩ => ⟨b, h1, fun j hj => by simp [PH.cell, h2]⟩); refine D.addS ?_; refine D.mvI ?_
        refine D.callP ?_ (hc := fun _ _ w _ _ _ => lname_c _ w)
        refine D.mvI ?_; refine D.quoN ?_
        refine D.callP ?_ (hc := fun _ _ w _ _ _ => w4_c _ _ (by omega) (by omega) w)
        refine D.mvI ?_
        refine D.callP ?_ (hc := fun _ _ w _ _ _ => w4_c _ _ (by omega) (by omega) w)
        refine D.bld (vals := [(0, .int _ _), (1, .int _ _)]) [_, _] ?_; refine D.mvI ?_; refine D.quoN ?_
        refine D.callP ?_ (hc := fun _ _ w _ _ _ => w4_c _ _ (by omega) (by omega) w)
        refine D.eqI ?_; refine D.bld (vals := [(0, .string _), (1, .string _), (2, .agg (List.toArray [_, _])), (3, .bool _)]) [_, _, _, _, _] ?_; refine D.litT w.heap.size [placeK i (ns.getD i 0)] (vs := fun us => [.agg (List.toArray (placeC (placeK i (ns.getD i 0))))]) ?_ (fun us σ' _ _ => ⟨placeK_rep _ i (ns.getD i 0), trivial⟩); refine D.appD vq [placeK i (ns.getD i 0)] (vy := fun us => us 91) ?_ (fun us σ' _ ⟨h1, _⟩ => ⟨_, h1, PH.le_refl _⟩); refine D.fld ?_
        refine D.stU 92 (fun us => recC { rec0 with kind := 3, gang := 1 + gang % 999999 } (.slice ap (peersOf name).length cp) (us 92) nilV nilV) ?_
        refine D.done (fun us σ3 hle3 hfs => ?_)
        have k3 := hle3
        refine RS.ow ?_
        refine zN ?_; refine mvI ?_; (first | refine addN ?_ | refine addI ?_); refine asI ?_; refine LS.done ?_; refine zN ?_
        have hsu : placesN ns i ++ [placeK i (ns.getD i 0)] = placesN ns (i + 1) := by rw [placesN_succ]; unfold placeAt; rw [← hkk]
        exact ih (i + 1, us 92, _) ⟨by (try dsimp only); omega, PH.le_trans hle k3⟩ (by (try dsimp only); omega) ⟨rfl, trivial⟩ (by repeat (first | with_reducible exact Out.refl _ _ _ | exact Out.hv | refine Out.upd ?_ | refine Out.hvIn ?_)) ⟨fun h => by simp only [← hsu]; exact h⟩ rfl
      · refine RS.condF ?_ (h := by simp; omega)
        have hkk : (i : Int) = kAtN ns i := by unfold kAtN; first | rw [if_pos hin] | rw [if_neg hin]
        refine zD ?_; refine RS.draw [.free, .ex, .free, .free, .free, .ex, .ex, .free, .free, .ex, .free, .free, .ex, .free, .ex, .free, .free, .free, .ex, .free, .free, .ex, .eff, .free, .st] [rcB b9 3 (1 + gang % 999999) (.slice ap (peersOf name).length cp) vq ⟨#[]⟩ 0 0 nilV nilV false] ?_ (by kernel_rfl) (by kernel_rfl) (by infer_instance); refine D.fld ?_; refine D.ld1 (v := vq) ?_; refine D.mvI ?_; (first | refine D.addN ?_ | refine D.addI ?_); refine D.cvI ?_
        refine D.bldL [.int .u8 _] [.int .u8 _] ?_
        refine D.b2s (c0 := 1) [IntKind.u8.wrap (97 + (i : Int))] 75 ?_ (fun us σ' _ ⟨⟨b, h1, h2⟩, _⟩ => ⟨b, h1, fun j hj => by simp [PH.cell, h2]⟩); refine D.addS ?_; refine D.mvI ?_
        refine D.callP ?_ (hc := fun _ _ w _ _ _ => lname_c _ w)
        refine D.mvI ?_; refine D.quoN ?_
        refine D.callP ?_ (hc := fun _ _ w _ _ _ => w4_c _ _ (by omega) (by omega) w)
        refine D.mvI ?_
        refine D.callP ?_ (hc := fun _ _ w _ _ _ => w4_c _ _ (by omega) (by omega) w)
        refine D.bld (vals := [(0, .int _ _), (1, .int _ _)]) [_, _] ?_; refine D.mvI ?_; refine D.quoN ?_
        refine D.callP ?_ (hc := fun _ _ w _ _ _ => w4_c _ _ (by omega) (by omega) w)
        refine D.eqI ?_; refine D.bld (vals := [(0, .string _), (1, .string _), (2, .agg (List.toArray [_, _])), (3, .bool _)]) [_, _, _, _, _] ?_; refine D.litT w.heap.size [placeK i ((i : Int))] (vs := fun us => [.agg (List.toArray (placeC (placeK i ((i : Int)))))]) ?_ (fun us σ' _ _ => ⟨placeK_rep _ i ((i : Int)), trivial⟩); refine D.appD vq [placeK i ((i : Int))] (vy := fun us => us 91) ?_ (fun us σ' _ ⟨h1, _⟩ => ⟨_, h1, PH.le_refl _⟩); refine D.fld ?_
        refine D.stU 92 (fun us => recC { rec0 with kind := 3, gang := 1 + gang % 999999 } (.slice ap (peersOf name).length cp) (us 92) nilV nilV) ?_
        refine D.done (fun us σ3 hle3 hfs => ?_)
        have k3 := hle3
        refine RS.ow ?_
        refine zN ?_; refine mvI ?_; (first | refine addN ?_ | refine addI ?_); refine asI ?_; refine LS.done ?_; refine zN ?_
        have hsu : placesN ns i ++ [placeK i ((i : Int))] = placesN ns (i + 1) := by rw [placesN_succ]; unfold placeAt; rw [← hkk]
        exact ih (i + 1, us 92, _) ⟨by (try dsimp only); omega, PH.le_trans hle k3⟩ (by (try dsimp only); omega) ⟨rfl, trivial⟩ (by repeat (first | with_reducible exact Out.refl _ _ _ | exact Out.hv | refine Out.upd ?_ | refine Out.hvIn ?_)) ⟨fun h => by simp only [← hsu]; exact h⟩ rfl
    · have c := of_decide_eq_false c
      obtain rfl : i = manyN ns := by omega
      have hm8 := manyN_in ns
      refine RS.exit ?_
      refine RS.formD (l := placesN ns (manyN ns)) vq (fun a7 c7 e7 _ => ?_); subst e7
      refine zN ?_
      refine zN ?_; refine ldA [_, _, _, _, _, _, _, _, _, _] ?_; refine st (.agg _) _ ?_; refine LS.done ?_
      refine zN ?_; refine RS.retC (ty := 33) Tryz.func13 [_, _, _, _, _, _, _, _, _, _] fun w hw => ?_
      exact ⟨_, rfl, hw.below, _, rfl, _, _, _, _, rfl, hkI, hgI, hq.mono (hN.le_since (PH.le_trans hτ hle) hw), hw.rowNewD (l := placesN ns (manyN ns)) (Nat.le_refl _) (by omega), Nat.zero_le _, z, z, RepL.nil _ _ _, RepL.nil _ _ _⟩
  · refine RS.condF ?_
    refine zN ?_; refine eqI ?_; refine asB ?_; refine LS.done ?_
    refine zN ?_
    refine RS.condF ?_
    refine zN ?_; refine eqI ?_; refine asB ?_; refine LS.done ?_
    refine zN ?_
    refine RS.condF ?_
    refine zN ?_; refine eqI ?_; refine asB ?_; refine LS.done ?_
    refine zN ?_
    refine RS.condF ?_
    refine zN ?_
    refine zN ?_; refine ldA [_, _, _, _, _, _, _, _, _, _] ?_; refine st (.agg _) _ ?_; refine LS.done ?_
    refine zN ?_; refine RS.retC (ty := 33) Tryz.func13 [_, _, _, _, _, _, _, _, _, _] fun w hw => ?_
    exact ⟨_, rfl, hw.below, _, rfl, _, _, _, _, rfl, hkI, hgI, RepL.nil _ _ _, RepL.nil _ _ _, Nat.zero_le _, z, z, RepL.nil _ _ _, RepL.nil _ _ _⟩
  · refine RS.condF ?_
    refine zN ?_; refine eqI ?_; refine asB ?_; refine LS.done ?_
    refine zN ?_
    refine RS.condF ?_
    refine zN ?_; refine eqI ?_; refine asB ?_; refine LS.done ?_
    refine zN ?_
    refine RS.condF ?_
    refine zN ?_; refine eqI ?_; refine asB ?_; refine LS.done ?_
    refine zN ?_
    refine RS.condF ?_
    refine zN ?_
    refine zN ?_; refine ldA [_, _, _, _, _, _, _, _, _, _] ?_; refine st (.agg _) _ ?_; refine LS.done ?_
    refine zN ?_; refine RS.retC (ty := 33) Tryz.func13 [_, _, _, _, _, _, _, _, _, _] fun w hw => ?_
    exact ⟨_, rfl, hw.below, _, rfl, _, _, _, _, rfl, hkI, hgI, RepL.nil _ _ _, RepL.nil _ _ _, Nat.zero_le _, z, z, RepL.nil _ _ _, RepL.nil _ _ _⟩
  · refine RS.condF ?_
    refine zN ?_; refine eqI ?_; refine asB ?_; refine LS.done ?_
    refine zN ?_
    refine RS.condF ?_
    refine zN ?_; refine eqI ?_; refine asB ?_; refine LS.done ?_
    refine zN ?_
    refine RS.condF ?_
    refine zN ?_; refine eqI ?_; refine asB ?_; refine LS.done ?_
    refine zN ?_
    refine RS.condF ?_
    refine zN ?_
    refine zN ?_; refine ldA [_, _, _, _, _, _, _, _, _, _] ?_; refine st (.agg _) _ ?_; refine LS.done ?_
    refine zN ?_; refine RS.retC (ty := 33) Tryz.func13 [_, _, _, _, _, _, _, _, _, _] fun w hw => ?_
    exact ⟨_, rfl, hw.below, _, rfl, _, _, _, _, rfl, hkI, hgI, RepL.nil _ _ _, RepL.nil _ _ _, Nat.zero_le _, z, z, RepL.nil _ _ _, RepL.nil _ _ _⟩
  · refine RS.condF ?_
    refine zN ?_; refine eqI ?_; refine asB ?_; refine LS.done ?_
    refine zN ?_
    refine RS.condF ?_
    refine zN ?_; refine eqI ?_; refine asB ?_; refine LS.done ?_
    refine zN ?_
    refine RS.condF ?_
    refine zN ?_; refine eqI ?_; refine asB ?_; refine LS.done ?_
    refine zN ?_
    refine RS.condT ?_
    refine zN ?_; refine mvI ?_
    refine callT (fun v τ => RepL τ v (peersOf name)) (fun v τ1 σ1 hq hN hle hτ => ?_) (fun w _ => peers4_c name w)
    obtain ⟨ap, cp, rfl⟩ := hq.form
    refine fld ?_; refine st (.slice _ _ _) _ ?_; refine LS.done ?_
    refine zN ?_
    refine zN ?_; refine ldA [_, _, _, _, _, _, _, _, _, _] ?_; refine st (.agg _) _ ?_; refine LS.done ?_
    refine zN ?_; refine RS.retC (ty := 33) Tryz.func13 [_, _, _, _, _, _, _, _, _, _] fun w hw => ?_
    exact ⟨_, rfl, hw.below, _, rfl, _, _, _, _, rfl, hkI, hgI, hq.mono (hN.le_since hτ hw), RepL.nil _ _ _, Nat.zero_le _, z, z, RepL.nil _ _ _, RepL.nil _ _ _⟩
end Go.Proofs.YtealabaiamaojaaGreatDoor
namespace Go.Proofs.YtealabaiamaojaaGreatDoor
open Go.JW Go.RowKit
end Go.Proofs.YtealabaiamaojaaGreatDoor
namespace Go.Proofs.YtealabaiamaojaaGreatDoor
open Go.JW Go.RowKit
structure Fm where
  a1 : Option Addr
  a2 : Option Addr
  a3 : Option Addr
  a4 : Option Addr
  c1 : Nat
  c2 : Nat
  c3 : Nat
  c4 : Nat
abbrev rcV (R : RecD) (f : Fm) : List Value := recC R (.slice f.a1 R.peers.length f.c1) (.slice f.a2 R.places.length f.c2) (.slice f.a3 R.node.marks.length f.c3) (.slice f.a4 R.node.taints.length f.c4)
abbrev rcW (b : Nat) (R : RecD) (f : Fm) : HP := rcB b R.kind R.gang (.slice f.a1 R.peers.length f.c1) (.slice f.a2 R.places.length f.c2) R.node.name R.node.cpu R.node.mem (.slice f.a3 R.node.marks.length f.c3) (.slice f.a4 R.node.taints.length f.c4) R.node.closed
theorem rep_form {σ : PH} {cs : List Value} {R : RecD} (h : Rep.rep σ cs R) : ∃ f, cs = rcV R f := by
  obtain ⟨vp, vq, vm, vt, rfl, _, _, hp_, hq, _, _, _, hm, ht⟩ := h
  obtain ⟨a1, c1, rfl⟩ := hp_.form
  obtain ⟨a2, c2, rfl⟩ := hq.form
  obtain ⟨a3, c3, rfl⟩ := hm.form
  obtain ⟨a4, c4, rfl⟩ := ht.form
  exact ⟨⟨a1, a2, a3, a4, c1, c2, c3, c4⟩, rfl⟩
theorem text_small {R : RecD} (h : checkP R = 0) : (textP R).length ≤ 90000 := by have := textP_size h; omega
end Go.Proofs.YtealabaiamaojaaGreatDoor
namespace Go.JW
open Go.Proofs.YtealabaiamaojaaGreatDoor
section
variable {P : Program} {f : FuncId} {R : Ending → World → Prop} {k : List Item} {n : Nat} {fr : Nat → Value} {w0 : World} {M : Nat → Prop} {σ : PH} {Kf : Us → List HP}
variable {H : HS} {O : List (Nat × Obj)} {Kb : List HP} {E : List Nat} {tags : List Tag} {rest : List Oper} {d : Nat} {ty : TypeId} {pos : String} {aft : Array Edge} {x y z : Operand} {t t' : TypeId}
end
end Go.JW
namespace Go.Proofs.YtealabaiamaojaaGreatDoor
open Go.JW Go.RowKit
def TRec (r : RecD) : Value → PH → Prop := fun v σ => ∃ cs, v = .agg (List.toArray cs) ∧ Rep.rep σ cs r
theorem TRec.mono (r : RecD) : MonoT (TRec r) := fun _ _ _ ⟨cs, h1, h2⟩ hs => ⟨cs, h1, Rep.mono h2 hs⟩
theorem ParseA.mono (s : Bs) : MonoT (ParseA s) := fun _ _ _ ⟨cs, h1, h2⟩ hs => ⟨cs, h1, Rep.mono h2 hs⟩
end Go.Proofs.YtealabaiamaojaaGreatDoor
namespace Go.Proofs.YtealabaiamaojaaGreatDoor
open Go.JW Go.RowKit Go.Lib
def enc (rs : List Int) : Bs := rs.flatMap encodeRune
def ok1 (r : Int) : Prop := 0 ≤ r ∧ r < 2048 ∧ r ≠ 10
def Uni (s : Bs) : Prop := ∃ rs, (∀ r ∈ rs, ok1 r) ∧ s = enc rs
theorem uni_nil : Uni [] := ⟨[], by simp, rfl⟩
theorem enc_app (a b : List Int) : enc (a ++ b) = enc a ++ enc b := by simp [enc]
theorem uni_app {a b : Bs} (ha : Uni a) (hb : Uni b) : Uni (a ++ b) := by
  obtain ⟨x, hx, rfl⟩ := ha
  obtain ⟨y, hy, rfl⟩ := hb
  exact ⟨x ++ y, fun r hr => (List.mem_append.1 hr).elim (hx r) (hy r), (enc_app x y).symm⟩
theorem enc_one {r : Int} (h0 : 0 ≤ r) (h1 : r < 128) : encodeRune r = [UInt8.ofNat r.toNat] := by
  unfold encodeRune; rw [encodeRuneZ_one h0 (by omega)]; rfl
theorem enc_two {r : Int} (h0 : 128 ≤ r) (h1 : r < 2048) : encodeRune r = [UInt8.ofNat (192 + r / 64).toNat, UInt8.ofNat (128 + r % 64).toNat] := by
  unfold encodeRune; rw [encodeRuneZ_two h0 (by omega)]; rfl
theorem uni_ascii {l : Bs} (h : ∀ c ∈ l, c.toNat < 128 ∧ c.toNat ≠ 10) : Uni l := by
  refine ⟨l.map fun c => (c.toNat : Int), ?_, ?_⟩
  · intro r hr
    obtain ⟨c, hc, rfl⟩ := List.mem_map.1 hr
    have := h c hc
    exact ⟨by omega, by omega, by omega⟩
  · induction l with
    | nil => rfl
    | cons c l ih =>
      have h1 := h c (by simp)
      have h2 := ih fun d hd => h d (by simp [hd])
      simp only [enc, List.map_cons, List.flatMap_cons] at h2 ⊢
      rw [enc_one (by omega) (by omega), ← h2, Int.toNat_natCast, UInt8.ofNat_toNat]
      rfl
theorem uni_cons {c : UInt8} {l : Bs} (h : c.toNat < 128 ∧ c.toNat ≠ 10) (hl : Uni l) : Uni (c :: l) :=
  uni_app (a := [c]) (uni_ascii (by simp [h])) hl
def rnF : Nat → Bs → List Int
  | 0, _ => []
  | f + 1, l => if l = [] then [] else ((decodeL l).1 : Int) :: rnF f (l.drop (decodeL l).2)
theorem at_rnF (l : Bs) : ∀ (f pos : Nat), (runesAt (B l) f pos).map (·.2) = rnF f (l.drop pos)
  | 0, pos => rfl
  | f + 1, pos => by
    have hd : decodeL (l.drop pos) = Utf8.decode (B l) pos := decodeL_drop (B l) pos
    by_cases h : pos < l.length
    · have hne : l.drop pos ≠ [] := by intro h0; have := congrArg List.length h0; simp at this; omega
      rw [runesAt, if_pos (by rw [B_size]; exact h), rnF, if_neg hne, List.map_cons, at_rnF l f, hd, List.drop_drop]
    · rw [runesAt, if_neg (by rw [B_size]; exact h), rnF, if_pos (List.drop_eq_nil_of_le (by omega))]; rfl
def Rn (l : Bs) : List Int := (runes (B l)).map (·.2)
theorem Rn_F (l : Bs) : Rn l = rnF l.length l := by
  unfold Rn runes
  rw [at_rnF, B_size, List.drop_zero]
theorem dec_enc (r : Int) (t : Bs) (h : 0 ≤ r ∧ r < 2048) : decodeL (encodeRune r ++ t) = (r.toNat, (encodeRune r).length) := by
  by_cases h1 : r < 128
  · rw [enc_one h.1 h1, decodeL_N]
    have : (UInt8.ofNat r.toNat).toNat = r.toNat := by rw [UInt8.toNat_ofNat']; omega
    simp only [List.cons_append, List.nil_append, List.getD_cons_zero, this, List.length_cons, List.length_nil]
    rw [decodeN, if_pos (by omega)]
  · have e1 : (UInt8.ofNat (192 + r / 64).toNat).toNat = (192 + r / 64).toNat := by rw [UInt8.toNat_ofNat']; omega
    have e2 : (UInt8.ofNat (128 + r % 64).toNat).toNat = (128 + r % 64).toNat := by rw [UInt8.toNat_ofNat']; omega
    rw [enc_two (by omega) h.2, decodeL_N]
    simp only [List.cons_append, List.nil_append, List.getD_cons_zero, List.getD_cons_succ, e1, e2, List.length_cons, List.length_nil]
    rw [decodeN, if_neg (by omega), if_pos (by omega), if_pos (by omega)]
    exact Prod.ext (by show _ = r.toNat; omega) rfl
theorem enc_ne (r : Int) (h : 0 ≤ r ∧ r < 2048) : 1 ≤ (encodeRune r).length := by
  by_cases h1 : r < 128
  · rw [enc_one h.1 h1]; exact Nat.le_refl _
  · rw [enc_two (by omega) h.2]; exact Nat.le_succ _
theorem rnF_enc : ∀ (rs : List Int) (f : Nat), (∀ r ∈ rs, 0 ≤ r ∧ r < 2048) → (enc rs).length ≤ f → rnF f (enc rs) = rs
  | [], 0, _, _ => rfl
  | [], f + 1, _, _ => by simp [rnF, enc]
  | r :: rs, f, h, hf => by
    have hr := h r (by simp)
    have hl := enc_ne r hr
    have he : enc (r :: rs) = encodeRune r ++ enc rs := rfl
    have hs := congrArg List.length he
    rw [List.length_append] at hs
    cases f with
    | zero => omega
    | succ f =>
      have hne : encodeRune r ++ enc rs ≠ [] := by intro h0; rw [← he] at h0; rw [h0] at hs; simp only [List.length_nil] at hs; omega
      rw [he, rnF, if_neg hne, dec_enc r _ hr, List.drop_left, rnF_enc rs f (fun x hx => h x (by simp [hx])) (by omega)]
      congr 1
      omega
theorem Rn_enc {rs : List Int} (h : ∀ r ∈ rs, ok1 r) : Rn (enc rs) = rs := by
  rw [Rn_F, rnF_enc _ _ (fun r hr => ⟨(h r hr).1, (h r hr).2.1⟩) (Nat.le_refl _)]
theorem enc_rn : ∀ (f : Nat) (l : Bs), l.length ≤ f → (∀ r ∈ rnF f l, r ≠ 65533) → enc (rnF f l) = l
  | 0, l, hf, _ => by
    have : l = [] := List.length_eq_zero_iff.1 (by omega)
    rw [this]; rfl
  | f + 1, l, hf, h => by
    by_cases hn : l = []
    · rw [hn, rnF, if_pos rfl]; rfl
    · rw [rnF, if_neg hn] at h ⊢
      have h1 := h _ (List.mem_cons_self ..)
      have hw := decodeL_width l
      have h2 := enc_rn f (l.drop (decodeL l).2) (by rw [List.length_drop]; omega) fun r hr => h r (List.mem_cons_of_mem _ hr)
      show encodeRune _ ++ enc _ = l
      rw [h2, encode_decode l hn (by omega), List.take_append_drop]
theorem uni_name {s : ByteArray} (h : isName s = true) : Uni (bs s) := by
  have hn : nameRunes (runes s) = true := by simp only [isName, Bool.and_eq_true] at h; exact h.1
  have hk : ∀ r ∈ Rn (bs s), ok1 r := by
    intro r hr
    unfold Rn at hr
    rw [B_bs] at hr
    obtain ⟨x, hx, rfl⟩ := List.mem_map.1 hr
    simp only [nameRunes, List.all_eq_true] at hn
    have := hn x hx
    simp [isLetter, isDigit] at this
    unfold ok1
    omega
  refine ⟨Rn (bs s), hk, ?_⟩
  rw [Rn_F] at hk ⊢
  exact (enc_rn _ _ (Nat.le_refl _) fun r hr => by have := hk r hr; unfold ok1 at this; omega).symm
theorem uni_digF : ∀ (f n : Nat), Uni (digF f n)
  | 0, _ => uni_nil
  | f + 1, n => by
    have h1 : ∀ d, d < 10 → Uni [UInt8.ofNat (48 + d)] := fun d hd => uni_ascii (by intro c hc; rw [List.mem_singleton] at hc; rw [hc, dig_nat hd]; omega)
    unfold digF
    split
    · exact h1 n (by omega)
    · exact uni_app (uni_digF f _) (h1 _ (by omega))
theorem uni_dig (n : Nat) : Uni (digN n) := uni_digF 20 n
theorem uni_vec (c m : Int) : Uni (vecT c m) := uni_app (uni_dig _) (uni_cons (by decide) (uni_dig _))
theorem uni_flag (b : Bool) : Uni (flagT b) := by cases b <;> exact uni_ascii (by decide)
theorem uni_signed (c : UInt8) (hc : c.toNat < 128 ∧ c.toNat ≠ 10) : ∀ l : List Bs, (∀ x ∈ l, Uni x) → Uni (signedT c l)
  | [], _ => uni_nil
  | x :: l, h => uni_cons hc (uni_app (h x (by simp)) (uni_signed c hc l fun y hy => h y (by simp [hy])))
theorem uni_comma : ∀ l : List Int, Uni (commaT l)
  | [] => uni_nil
  | _ :: l => uni_cons (by decide) (uni_app (uni_dig _) (uni_comma l))
theorem uni_peers : ∀ l : List Int, Uni (peersT l)
  | [] => uni_nil
  | _ :: l => uni_app (uni_dig _) (uni_comma l)
theorem uni_join : ∀ l : List Bs, (∀ x ∈ l, Uni x) → Uni (joinB l)
  | [], _ => uni_nil
  | [w], h => h w (by simp)
  | w :: v :: ws, h => uni_app (h w (by simp)) (uni_cons (by decide) (uni_join (v :: ws) fun x hx => h x (List.mem_cons_of_mem _ hx)))
theorem uni_place {p : PlaceD} (h : placeE p = 0) : Uni (placeT p) := by
  have : isName p.pod = true ∧ isName p.node = true := by
    unfold placeE at h
    by_cases h1 : isName p.pod = false ∨ isName p.node = false
    · rw [if_pos h1] at h; omega
    · simp at h1; exact h1
  exact uni_app (uni_app (uni_app (uni_name this.1) (uni_cons (by decide) (uni_name this.2))) (uni_cons (by decide) (uni_vec _ _))) (uni_flag _)
theorem uni_set {l : List ByteArray} (h : isSet l = true) : ∀ x ∈ l.map bs, Uni x := by
  simp only [isSet, Bool.and_eq_true, setTo, List.all_eq_true, List.mem_range] at h
  intro x hx
  obtain ⟨y, hy, rfl⟩ := List.mem_map.1 hx
  obtain ⟨i, hi, rfl⟩ := List.mem_iff_getElem.1 hy
  have := h.1 i hi
  simp only [setAtI, Bool.and_eq_true] at this
  have h2 := this.1
  rw [show l.getD i ⟨#[]⟩ = l[i] by simp [List.getD_eq_getElem?_getD, hi]] at h2
  exact uni_name h2
theorem uni_node {n : NodeD} (h : nodeErr n = 0) : Uni (nodeT n) := by
  unfold nodeErr at h
  cases e1 : isName n.name with
  | false => rw [e1, if_pos rfl] at h; cases h
  | true =>
    rw [e1, if_neg (by simp)] at h
    cases e2 : sizeOk n.cpu n.mem with
    | false => rw [e2, if_pos rfl] at h; cases h
    | true =>
      rw [e2, if_neg (by simp)] at h
      cases e3 : (!isSet n.marks || !isSet n.taints) with
      | true => rw [e3, if_pos rfl] at h; cases h
      | false =>
        simp only [Bool.or_eq_false_iff, Bool.not_eq_false'] at e3
        exact uni_app (uni_app (uni_app (uni_app (uni_name e1) (uni_cons (by decide) (uni_vec _ _))) (uni_signed 43 (by decide) _ (uni_set e3.1))) (uni_signed 126 (by decide) _ (uni_set e3.2))) (uni_flag _)
theorem uni_places {l : List PlaceD} (h : placesE l = 0) : ∀ p ∈ l, placeE p = 0 := by
  unfold placesE at h
  by_cases h1 : l.length < 1 ∨ 8 < l.length
  · rw [if_pos h1] at h; cases h
  · rw [if_neg h1] at h
    by_cases h2 : placesBad l ≠ 0
    · rw [if_pos h2] at h; exact absurd h h2
    · exact placesBad_zero.1 (by simpa using h2)
theorem uni_verb (k : Int) : Uni (verbT k) := by
  unfold verbT
  repeat' split
  all_goals exact uni_ascii (by decide)
theorem uni_text {r : RecD} (h : checkP r = 0) : Uni (textP r) := by
  unfold textP
  refine uni_join _ ?_
  cases okr_of h with
  | node n hn => 
    intro x hx
    simp [textW] at hx
    rcases hx with rfl | rfl
    · exact uni_verb 1
    · exact uni_node hn
  | gone nm hn =>
    intro x hx
    simp [textW] at hx
    rcases hx with rfl | rfl
    · exact uni_verb 2
    · exact uni_name hn
  | prep g p l hg hp hl =>
    intro x hx
    simp [textW, peeredP] at hx
    rcases hx with rfl | rfl | rfl | ⟨a, ha, rfl⟩
    · exact uni_verb 3
    · exact uni_dig _
    · exact uni_peers _
    · exact uni_place (uni_places hl a ha)
  | gang g p hg hp =>
    intro x hx
    simp [textW, peeredP] at hx
    rcases hx with rfl | rfl | rfl
    · exact uni_verb 7
    · exact uni_dig _
    · exact uni_peers _
  | plain k g hk hg =>
    intro x hx
    have h1 : k ≠ 1 ∧ k ≠ 2 ∧ k ≠ 3 ∧ k ≠ 7 := by omega
    simp [textW, peeredP, h1] at hx
    rcases hx with rfl | rfl
    · exact uni_verb _
    · exact uni_dig _
theorem runes_back {l : Bs} (h : Uni l) : runesBytes (Rn l) = B l := by
  obtain ⟨rs, hk, rfl⟩ := h
  rw [Rn_enc hk]
  have hstep : ∀ r, ok1 r → Utf8.encode r = B (encodeRune r) := by
    intro r hr
    unfold ok1 at hr
    by_cases h1 : r < 128
    · rw [enc_one hr.1 h1]
      have hv : Utf8.valid r = true := by simp [Utf8.valid]; omega
      simp only [Utf8.encode, hv, if_true]
      rw [if_pos (by omega)]; rfl
    · rw [enc_two (by omega) hr.2.1]
      have hv : Utf8.valid r = true := by simp [Utf8.valid]; omega
      simp only [Utf8.encode, hv, if_true]
      rw [if_neg (by omega), if_pos (by omega), show (192 + r / 64).toNat = 192 + r.toNat / 64 by omega, show (128 + r % 64).toNat = 128 + r.toNat % 64 by omega]
      rfl
  have : ∀ (l : List Int) (s : Bs), (∀ r ∈ l, ok1 r) → l.foldl (fun r n => r ++ Utf8.encode n) (B s) = B (s ++ enc l) := by
    intro l
    induction l with
    | nil => intro s _; simp [enc]
    | cons r l ih =>
      intro s h
      rw [List.foldl_cons, hstep r (h r (by simp)), ← B_app, ih _ fun x hx => h x (by simp [hx]), List.append_assoc]
      rfl
  exact this rs [] hk
theorem runes_no {l : Bs} (h : Uni l) : ∀ r ∈ Rn l, 0 ≤ r ∧ r < 2048 ∧ r ≠ 10 := by
  obtain ⟨rs, hk, rfl⟩ := h
  rw [Rn_enc hk]
  exact hk
theorem Rn_le (l : Bs) : (Rn l).length ≤ l.length := by
  unfold Rn
  rw [List.length_map]
  have := runes_le (B l)
  rwa [B_size] at this
def lineR (l : Bs) : List Int := Rn l ++ [10]
def tapeR (L : List Bs) : List Int := L.flatMap lineR
def Unis (L : List Bs) : Prop := ∀ l ∈ L, Uni l
theorem tapeR_app (a b : List Bs) : tapeR (a ++ b) = tapeR a ++ tapeR b := by simp [tapeR]
theorem tapeR_one (l : Bs) : tapeR [l] = lineR l := by simp [tapeR]
theorem idx_line {l : Bs} (h : Uni l) (rest : List Int) : (lineR l ++ rest).idxOf 10 = (Rn l).length := by
  have h1 := runes_no h
  have : (10 : Int) ∉ Rn l := fun hm => (h1 _ hm).2.2 rfl
  unfold lineR
  rw [List.append_assoc, List.idxOf_append, if_neg this]
  simp
def endR_ (L : List Bs) (j : Nat) : Nat := (tapeR (L.take j)).length
theorem tape_split (L : List Bs) (j : Nat) : tapeR L = tapeR (L.take j) ++ tapeR (L.drop j) := by rw [← tapeR_app, List.take_append_drop]
theorem tape_drop (L : List Bs) (j : Nat) : (tapeR L).drop (endR_ L j) = tapeR (L.drop j) := by
  rw [tape_split L j]; exact List.drop_left
theorem tape_take (L : List Bs) (j : Nat) : (tapeR L).take (endR_ L j) = tapeR (L.take j) := by
  rw [tape_split L j]; exact List.take_left
theorem tape_end_le (L : List Bs) (j : Nat) : endR_ L j ≤ (tapeR L).length := by
  rw [tape_split L j, List.length_append]; unfold endR_; omega
theorem tape_next {L : List Bs} {j : Nat} (h : j < L.length) : endR_ L (j + 1) = endR_ L j + ((Rn L[j]).length + 1) := by
  unfold endR_
  rw [List.take_succ_eq_append_getElem h, tapeR_app, List.length_append, tapeR_one]
  simp [lineR]
theorem tape_cons {L : List Bs} {j : Nat} (h : j < L.length) : tapeR (L.drop j) = lineR L[j] ++ tapeR (L.drop (j + 1)) := by
  rw [List.drop_eq_getElem_cons h]; rfl
theorem tape_idx {L : List Bs} {j : Nat} (hu : Unis L) (h : j < L.length) : (tapeR (L.drop j)).idxOf 10 = (Rn L[j]).length := by
  rw [tape_cons h, idx_line (hu _ (List.getElem_mem h))]
theorem tape_mem {L : List Bs} {j : Nat} (h : j < L.length) : (10 : Int) ∈ tapeR (L.drop j) := by
  rw [tape_cons h]; simp [lineR]
theorem tape_len {L : List Bs} (h : ∀ l ∈ L, l.length ≤ 5000) : (tapeR L).length ≤ 5001 * L.length := by
  induction L with
  | nil => simp [tapeR]
  | cons l L ih =>
    have h1 := ih fun x hx => h x (List.mem_cons_of_mem _ hx)
    have h2 := h l (List.mem_cons_self ..)
    have h3 := Rn_le l
    have e : tapeR (l :: L) = lineR l ++ tapeR L := rfl
    rw [e, List.length_append, List.length_cons]
    simp only [lineR, List.length_append, List.length_cons, List.length_nil]
    omega
def keepN (len last : Nat) (k : Int) : Nat := last + (min (max k 0) ((len : Int) - last)).toNat
theorem keepN_le {len last : Nat} (k : Int) (h : last ≤ len) : keepN len last k ≤ len ∧ last ≤ keepN len last k := by unfold keepN; omega
def linesP (rs : List RecD) : List Bs := rs.map textP
def Oks (rs : List RecD) : Prop := ∀ r ∈ rs, checkP r = 0
theorem lines_uni {rs : List RecD} (h : Oks rs) : Unis (linesP rs) := by
  intro l hl
  obtain ⟨r, hr, rfl⟩ := List.mem_map.1 hl
  exact uni_text (h r hr)
end Go.Proofs.YtealabaiamaojaaGreatDoor
