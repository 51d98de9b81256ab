/- The walk of LineFirst. -/
import Derived.Test.YtaiofgmhlfccgaaGreatDoorQ5
namespace Go.Proofs.YtaiofgmhlfccgaaGreatDoor
open Go.JW Go.RowKit
def verbs7B : List ByteArray := [⟨#[110, 111, 100, 101, 32]⟩, ⟨#[103, 111, 110, 101, 32]⟩, ⟨#[112, 114, 101, 112, 97, 114, 101, 32]⟩, ⟨#[99, 111, 109, 109, 105, 116, 32]⟩, ⟨#[97, 98, 111, 114, 116, 32]⟩, ⟨#[114, 101, 108, 101, 97, 115, 101, 32]⟩, ⟨#[103, 97, 110, 103, 32]⟩]
abbrev vbB (b : Nat) : HP := blk b (.cells (List.toArray (verbs7B.map Value.string)) 9 (0, 0))
theorem verbs7B_at : ∀ i : Fin 7, verbs7B.getD i.val ⟨#[]⟩ = B (verbT ((i.val : Int) + 1) ++ [32]) := by decide +kernel
theorem textP_verb {R : RecD} (h : checkP R = 0) : ∃ t, textP R = (verbT R.kind ++ [32]) ++ t ∧ t ≠ [] ∧ t.length ≤ 5000 := by
  have hW := textW_eq h
  have hs := textP_size h
  have hw1 : word1 R ≠ [] := (textW_size h).1 |> fun _ => by
    have := (read_text (okr_of h)).2.2 (word1 R) (by rw [hW]; simp)
    exact this.1
  refine ⟨(textP R).drop (verbT R.kind ++ [32]).length, ?_, ?_, ?_⟩
  · unfold textP; rw [hW]; simp [joinB]
  · unfold textP; rw [hW]
    intro e
    have := congrArg List.length e
    cases hx : word1 R with
    | nil => exact hw1 hx
    | cons a l =>
      rw [hx] at this
      cases hr : ((if peeredP R.kind = true then [peersT R.peers] else []) ++ R.places.map placeT) with
      | nil => rw [hr] at this; simp [joinB] at this
      | cons y ys => rw [hr] at this; simp [joinB] at this
  · rw [List.length_drop]; omega
theorem parse_holds (t : Bs) : parseP ([104, 111, 108, 100, 115, 32] ++ t) = (rec0, 8) := by
  have hs : splitB ([104, 111, 108, 100, 115, 32] ++ t) = [104, 111, 108, 100, 115] :: splitB t := split_word (w := [104, 111, 108, 100, 115]) (by decide)
  have hr : readO (wordsP ([104, 111, 108, 100, 115, 32] ++ t)) = none := by
    unfold wordsP
    rw [hs]
    split
    · rfl
    · cases splitB t with
      | nil => rfl
      | cons u l => exact read0 (by decide)
  unfold parseP
  rw [hr]
theorem first_c (kind : Int) (_ : I64 kind) (gang : Int) (_ : I64 gang) (ns : List Int) (name : Int) (_ : I64 name) (other : Int) (_ : I64 other) (vn : Value) (w : World) (lib : LibAt (hp w)) (hr : RepL (hp w) vn ns) :
    Calls Tryz.prog 10 #[.int .i64 kind, .int .i64 gang, vn, .int .i64 name, .int .i64 other] w fun e w' => e = .returned (.bool true) ∧ Below w.heap.size w w' := by
  obtain ⟨an, cn, rfl⟩ := hr.form
  obtain ⟨R, hR⟩ : ∃ R, R = makeP kind gang ns name := ⟨_, rfl⟩
  have hok : checkP R = 0 := by rw [hR]; exact make_ok _ _ _ _
  have hkk : 1 ≤ R.kind ∧ R.kind ≤ 7 := by cases okr_of hok <;> simp <;> omega
  refine RS.enter Tryz.func10 Tryz.ntmps10 rfl rfl ?_
  (repeat (first | refine zS ?_ | refine zR ?_ | refine zQ ?_ | refine zK ?_ | refine zI ?_ | refine zB ?_ | refine zE ?_)); refine asB ?_; refine LS.done ?_
  (repeat (first | refine zS ?_ | refine zR ?_ | refine zQ ?_ | refine zK ?_ | refine zI ?_ | refine zB ?_ | refine zE ?_)); skip
  refine callQ (fun v _ => v = .bool true) [] (fun v σ1 k1 hq => ?_) (hc := fun w' hw => known_s lib w' hw)
  subst hq
  refine not_ ?_; refine LS.done ?_
  (repeat (first | refine zS ?_ | refine zR ?_ | refine zQ ?_ | refine zK ?_ | refine zI ?_ | refine zB ?_ | refine zE ?_))
  refine RS.condF ?_
  (repeat (first | refine zS ?_ | refine zR ?_ | refine zQ ?_ | refine zK ?_ | refine zI ?_ | refine zB ?_ | refine zE ?_)); refine mvI ?_; refine mvI ?_; refine mvL ?_; refine mvI ?_
  refine callT (fun v τ => ∃ cs, v = .agg (List.toArray cs) ∧ Rep.rep τ cs R) (fun v τ2 σ2 hq hN k2 hτ => ?_) (fun w' hw => by rw [hR]; exact make_c kind gang name ns _ w' (hr.mono (PH.le_trans k1 hw.imm)))
  obtain ⟨cs, rfl, hrep⟩ := hq
  have hrep := Rep.mono hrep hτ
  obtain ⟨f, rfl⟩ := rep_form hrep
  have k12 := PH.le_trans k1 k2
  refine alloc_ (fun b11 => ?_); refine st (.agg _) _ ?_; refine LS.done ?_
  refine RS.to (K' := [rcW b11 R f]) ?_ ⟨fun h => h⟩
  (repeat (first | refine zS ?_ | refine zR ?_ | refine zQ ?_ | refine zK ?_ | refine zI ?_ | refine zB ?_ | refine zE ?_)); refine ldA (rcV R f) ?_
  refine callP ?_ (hc := fun w' hw => text_w _ R w' (Rep.mono hrep hw.imm) hok (lib.mono (PH.le_trans k12 hw.imm)))
  refine asS ?_; refine LS.done ?_
  (repeat (first | refine zS ?_ | refine zR ?_ | refine zQ ?_ | refine zK ?_ | refine zI ?_ | refine zB ?_ | refine zE ?_)); refine bldS [.string _, .string _, .string _, .string _, .string _, .string _, .string _] [.string _, .string _, .string _, .string _, .string _, .string _, .string _] (fun b31 => ?_); refine asL ?_; refine LS.done ?_
  obtain ⟨t, ht, hne, htl⟩ := textP_verb hok
  obtain ⟨p, hp⟩ : ∃ p, p = verbT R.kind ++ [32] := ⟨_, rfl⟩
  rw [← hp] at ht
  have hv : nth (verbs7B.map Value.string) (0 + (R.kind - 1).toNat * 1) = some (.string (B p)) := by
    have h7 := verbs7B_at ⟨(R.kind - 1).toNat, by omega⟩
    rw [nth_str _ _ (by simp [verbs7B]; omega)]
    simp only at h7
    rw [h7, hp, show (((R.kind - 1).toNat : Nat) : Int) + 1 = R.kind by omega]
  have hpl : p.length ≤ 8 := by rw [hp]; have := verbT_size R.kind; simp; omega
  have hbp : (B p).size = p.length := B_size p
  have htne : 0 < t.length := List.length_pos_iff.2 hne
  have hlen : (textP R).length = p.length + t.length := by rw [ht, List.length_append]
  have hbt : (B (textP R)).size = p.length + t.length := by rw [B_size, hlen]
  have htk : (textP R).take p.length = p := by rw [ht]; simp
  have hdr : (textP R).drop p.length = t := by rw [ht]; simp
  have hbtt : (B t).size = t.length := B_size t
  (repeat (first | refine zS ?_ | refine zR ?_ | refine zQ ?_ | refine zK ?_ | refine zI ?_ | refine zB ?_ | refine zE ?_)); refine mvL ?_; refine fld ?_; refine ld1 (v := .int _ _) ?_; (first | refine subN ?_ | refine subI ?_); refine idx (i := (R.kind - 1).toNat) ?_ (hj := by omega); refine ld1 (v := .string (B p)) ?_ (hv := hv); refine asS ?_; refine LS.done ?_
  (repeat (first | refine zS ?_ | refine zR ?_ | refine zQ ?_ | refine zK ?_ | refine zI ?_ | refine zB ?_ | refine zE ?_)); refine mvS ?_; refine lenS ?_; refine mvS ?_; refine lenS ?_; refine leI ?_; refine mvB ?_
  refine LS.part 43 (fun z => ?_) (fun z => ?_)
  · exact absurd (of_decide_eq_true z) (by omega)
  refine LS.on ?_; refine mvS ?_; refine LS.on ?_; refine mvS ?_; refine LS.on ?_; refine lenS ?_; refine LS.on ?_; refine slcUpto (u := textP R) p.length ?_; refine LS.on ?_; refine mvS ?_; refine LS.on ?_; refine neS ?_; rw [htk, decide_eq_true (show B p = B p from rfl)]; refine pk (v := .bool _) ?_; refine LS.done ?_
  (repeat (first | refine zS ?_ | refine zR ?_ | refine zQ ?_ | refine zK ?_ | refine zI ?_ | refine zB ?_ | refine zE ?_))
  refine RS.condF ?_
  (repeat (first | refine zS ?_ | refine zR ?_ | refine zQ ?_ | refine zK ?_ | refine zI ?_ | refine zB ?_ | refine zE ?_)); refine mvI ?_
  refine callP ?_ (hc := fun w _ => w4_c _ _ (by omega) (by omega) w)
  refine asI ?_; refine LS.done ?_
  obtain ⟨m1, m2⟩ := wmod other 7 (by omega)
  obtain ⟨q, hq⟩ : ∃ q, q = verbT (other % 7 + 1) ++ [32] := ⟨_, rfl⟩
  have hvq : nth (verbs7B.map Value.string) (0 + (other % 7).toNat * 1) = some (.string (B q)) := by
    have h7 := verbs7B_at ⟨(other % 7).toNat, by omega⟩
    rw [nth_str _ _ (by simp [verbs7B]; omega)]
    simp only at h7
    rw [h7, hq, show (((other % 7).toNat : Nat) : Int) = other % 7 by omega]
  have hql : q.length ≤ 8 := by rw [hq]; have := verbT_size (other % 7 + 1); simp; omega
  have hbq : (B q).size = q.length := B_size q
  have hs1 : (B q).size + (B t).size ≤ 9223372036854775807 := by omega
  have hll : (q ++ t).length ≤ 90000 := by rw [List.length_append]; omega
  have hpt : p.length ≤ (textP R).length := by omega
  obtain ⟨LT, hLT⟩ : ∃ L, L = q ++ t := ⟨_, rfl⟩
  have hadd : B q ++ B ((textP R).drop p.length) = B LT := by rw [hdr, B_add, hLT]
  rw [← hLT] at hll
  have hs2 : (B q).size + (B ((textP R).drop p.length)).size ≤ 9223372036854775807 := by rw [hdr]; exact hs1
  refine RS.to (K' := [vbB b31, rcW b11 R f]) ?_ ⟨fun h => h⟩
  (repeat (first | refine RS.seq ?_ | refine RS.region ?_ | refine RS.skip ?_ | refine RS.inBlock ?_ | refine RS.block ?_ | refine RS.exit ?_)); refine RS.draw [.free, .free, .free, .ex, .free, .free, .free, .free, .free, .eff, .ex, .ex, .free, .own, .st, .free] [vbB b31, rcW b11 R f] ?_ (by kernel_rfl) (by kernel_rfl) (by infer_instance); refine D.mvL ?_; refine D.mvI ?_; refine D.idx (i := (other % 7).toNat) ?_ (hj := by omega); refine D.ld1 (v := .string (B q)) ?_ (hv := hvq); refine D.mvS ?_; refine D.mvS ?_; refine D.lenS ?_; refine D.slcFromT (u := textP R) p.length ?_ hpt; refine D.addS ?_ (hs := hs2); rw [hadd]
  refine D.callW [.string (B LT)] (ParseA LT) (ParseA.mono LT) [vbB b31, rcW b11 R f] ?_ (hc := fun σ' w' X hle hw => parse_s (K := X :: _) LT hll (lib.mono (PH.le_trans k12 hle)) w' hw)
  refine D.mvFT (ParseA LT) (ParseA.mono LT) ?_ (fun us σ' hle hf => hf.1)
  refine D.exFT (TRec (parseP LT).1) (TRec.mono _) ?_ (fun us σ' hle hf => by obtain ⟨cs, h1, h2⟩ := hf.1; exact ⟨_, _, h1, rfl, cs, rfl, h2⟩)
  refine D.exVF (.int .i64 (parseP LT).2) ?_ (fun us σ' hle hf => by obtain ⟨cs, h1, h2⟩ := hf.2.1; exact ⟨_, h1, rfl⟩)
  refine D.alloc_ ?_
  refine D.stO (fun us => cellsL (us 64)) ?_ (fun us σ' hle hf => by
    obtain ⟨cs, h1, h2⟩ := hf.2.1
    have e : cellsL (us 64) = cs := by rw [h1]; rfl
    exact ⟨by show (cellsL (us 64)).length = _; rw [e]; exact Rep.len h2, by show (cellsL (us 64)).all _ = true; rw [e]; exact Rep.one h2, rfl⟩)
  refine D.asI ?_; refine D.done (fun us σ1 hle1 hfs => ?_)
  have k3 := hle1
  obtain ⟨cs, hcs, hrep3⟩ := hfs.2.1
  obtain ⟨f3, rfl⟩ := rep_form hrep3
  refine RS.openOwn (fun b16 h16 => ?_); refine RS.as 16 (.pointer (some ⟨b16, 0, none⟩)) h16 ?_
  refine RS.to (K' := [rcW b16 (parseP LT).1 f3, vbB b31, rcW b11 R f]) ?_ ⟨fun h => by rw [hcs] at h; exact h⟩
  (repeat (first | refine RS.seq ?_ | refine RS.region ?_ | refine RS.skip ?_ | refine RS.inBlock ?_ | refine RS.block ?_ | refine RS.exit ?_)); refine RS.draw [.free, .free, .free, .ex, .free, .free, .free, .free, .free, .eff, .ex, .ex, .free, .own, .st, .free] [rcW b16 (parseP LT).1 f3, vbB b31, rcW b11 R f] ?_ (by kernel_rfl) (by kernel_rfl) (by infer_instance); refine D.mvL ?_; refine D.mvI ?_; refine D.idx (i := (other % 7).toNat) ?_ (hj := by omega); refine D.ld1 (v := .string (B q)) ?_ (hv := hvq); refine D.mvS ?_; refine D.mvS ?_; refine D.lenS ?_; refine D.slcFromT (u := textP R) p.length ?_ hpt; refine D.addS ?_ (hs := hs2); rw [hadd]
  refine D.callW [.string (B LT)] (ParseA LT) (ParseA.mono LT) [rcW b16 (parseP LT).1 f3, vbB b31, rcW b11 R f] ?_ (hc := fun σ' w' X hle hw => parseD_x (K := X :: _) LT hll w' hw)
  refine D.mvFT (ParseA LT) (ParseA.mono LT) ?_ (fun us σ' hle hf => hf.1)
  refine D.exFT (TRec (parseP LT).1) (TRec.mono _) ?_ (fun us σ' hle hf => by obtain ⟨cs, h1, h2⟩ := hf.1; exact ⟨_, _, h1, rfl, cs, rfl, h2⟩)
  refine D.exVF (.int .i64 (parseP LT).2) ?_ (fun us σ' hle hf => by obtain ⟨cs, h1, h2⟩ := hf.2.1; exact ⟨_, h1, rfl⟩)
  refine D.alloc_ ?_
  refine D.stO (fun us => cellsL (us 77)) ?_ (fun us σ' hle hf => by
    obtain ⟨cs, h1, h2⟩ := hf.2.1
    have e : cellsL (us 77) = cs := by rw [h1]; rfl
    exact ⟨by show (cellsL (us 77)).length = _; rw [e]; exact Rep.len h2, by show (cellsL (us 77)).all _ = true; rw [e]; exact Rep.one h2, rfl⟩)
  refine D.asI ?_; refine D.done (fun us σ1 hle1 hfs => ?_)
  have k4 := hle1
  obtain ⟨cs, hcs4, hrep4⟩ := hfs.2.1
  obtain ⟨f4, rfl⟩ := rep_form hrep4
  refine RS.openOwn (fun b18 h18 => ?_); refine RS.as 18 (.pointer (some ⟨b18, 0, none⟩)) h18 ?_
  refine RS.to (K' := [rcW b18 (parseP LT).1 f4, rcW b16 (parseP LT).1 f3, vbB b31, rcW b11 R f]) ?_ ⟨fun h => by rw [hcs4] at h; exact h⟩
  have hhl : ([104, 111, 108, 100, 115, 32] ++ t).length ≤ 90000 := by rw [List.length_append]; simp; omega
  have s6 : (⟨#[104, 111, 108, 100, 115, 32]⟩ : ByteArray).size = 6 := rfl
  have hbd : (B ((textP R).drop p.length)).size = t.length := by rw [hdr]; exact hbtt
  (repeat (first | refine zS ?_ | refine zR ?_ | refine zQ ?_ | refine zK ?_ | refine zI ?_ | refine zB ?_ | refine zE ?_)); refine mvS ?_; refine mvS ?_; refine lenS ?_; refine slcFrom (u := textP R) p.length ?_; refine addS ?_; rw [hdr, show (⟨#[104, 111, 108, 100, 115, 32]⟩ : ByteArray) ++ B t = B ([104, 111, 108, 100, 115, 32] ++ t) from (B_app _ _).symm]
  refine callQ (ParseA ([104, 111, 108, 100, 115, 32] ++ t)) [rcW b18 (parseP LT).1 f4, rcW b16 (parseP LT).1 f3, vbB b31, rcW b11 R f] (fun v σ5 k5 hq => ?_) (hc := fun w' hw => parse_s ([104, 111, 108, 100, 115, 32] ++ t) hhl (lib.mono (PH.le_trans k12 (PH.le_trans k3 k4))) w' hw)
  obtain ⟨cs, rfl, hrep5⟩ := hq
  rw [parse_holds] at hrep5 ⊢
  obtain ⟨f5, rfl⟩ := rep_form hrep5
  refine mvT ?_; refine extr (v := _) ?_; refine extr (v := .int _ _) ?_; refine alloc_ (fun b20 => ?_); refine st (.agg _) _ ?_; refine asI ?_; refine LS.done ?_
  refine RS.to (K' := [rcW b20 rec0 f5, rcW b18 (parseP LT).1 f4, rcW b16 (parseP LT).1 f3, vbB b31, rcW b11 R f]) ?_ ⟨fun h => h⟩
  (repeat (first | refine zS ?_ | refine zR ?_ | refine zQ ?_ | refine zK ?_ | refine zI ?_ | refine zB ?_ | refine zE ?_)); refine mvI ?_; refine mvI ?_; refine eqI ?_; rw [decide_eq_true (show (parseP LT).2 = (parseP LT).2 from rfl)]; refine mvB ?_; refine LS.on ?_; refine ldA (rcV (parseP LT).1 f3) ?_; refine LS.on ?_; refine ldA (rcV (parseP LT).1 f4) ?_; refine LS.on ?_
  refine callP ?_ (hc := fun w' hw => same_x _ _ (parseP LT).1 (parseP LT).1 w' (Rep.mono hrep3 (PH.le_trans k4 (PH.le_trans k5 hw.imm))) (Rep.mono hrep4 (PH.le_trans k5 hw.imm)))
  rw [decide_eq_true (show (parseP LT).1 = (parseP LT).1 from rfl)]
  refine pk (v := .bool _) ?_; refine mvB ?_; refine LS.on ?_; refine mvI ?_; refine LS.on ?_; refine eqI ?_; refine pk (v := .bool _) ?_; refine asB ?_; refine LS.done ?_
  (repeat (first | refine zS ?_ | refine zR ?_ | refine zQ ?_ | refine zK ?_ | refine zI ?_ | refine zB ?_ | refine zE ?_)); refine RS.ret1 (v := .bool _) Tryz.func10 fun w hw => ?_
  exact ⟨rfl, hw.below⟩
end Go.Proofs.YtaiofgmhlfccgaaGreatDoor
