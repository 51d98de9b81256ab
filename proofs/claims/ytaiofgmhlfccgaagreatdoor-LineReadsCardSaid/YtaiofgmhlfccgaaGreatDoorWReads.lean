/- The walk of LineReads. -/
import Derived.Test.YtaiofgmhlfccgaaGreatDoorQ5
namespace Go.Proofs.YtaiofgmhlfccgaaGreatDoor
open Go.JW Go.RowKit
abbrev tyY2 : TypeId := 5
abbrev tyS2 : TypeId := 9
/-- The texts that are read. -/
def texts11 (S T more raw : Bs) (k : Nat) : List Bs := [T, S.take k, S.take k ++ more ++ S.drop k, raw, S ++ [32] ++ raw, [32] ++ S, S ++ [32], more ++ S, [110, 111, 100, 101, 32] ++ raw, [112, 114, 101, 112, 97, 114, 101, 32, 49, 32, 49, 32] ++ raw, [103, 97, 110, 103, 32, 49, 32] ++ raw]
theorem texts11_len {S T more raw : Bs} {k : Nat} (h1 : S.length ≤ 5000) (h2 : T.length ≤ 5000) (h3 : more.length ≤ 60) (h4 : raw.length ≤ 300) : ∀ x ∈ texts11 S T more raw k, x.length ≤ 90000 := by
  intro x hx
  simp only [texts11, List.mem_cons, List.not_mem_nil, or_false] at hx
  have hk : (S.take k).length ≤ S.length := by rw [List.length_take]; omega
  have hd : (S.drop k).length ≤ S.length := by rw [List.length_drop]; omega
  rcases hx with rfl | rfl | rfl | rfl | rfl | rfl | rfl | rfl | rfl | rfl | rfl <;> (try simp only [List.length_append, List.length_cons, List.length_nil]) <;> omega
abbrev txB (b : Nat) (S T more raw : Bs) (k : Nat) : HP := blk b (.cells (List.toArray ((texts11 S T more raw k).map fun x => Value.string (B x))) 9 (0, 0))
theorem nth_tx (l : List Bs) (i : Nat) (h : i < l.length) : nth (l.map fun x => Value.string (B x)) (0 + i * 1) = some (.string (B (l.getD i []))) := by
  rw [nth_eq]; simp [h]
theorem reads_c (kind : Int) (_ : I64 kind) (gang : Int) (_ : I64 gang) (ns : List Int) (name : Int) (_ : I64 name) (at_ : Int) (_ : I64 at_) (y : Int) (cut : Int) (_ : I64 cut) (moreA : ByteArray) (hm : moreA.size ≤ 140737488355328) (rawA : ByteArray) (hw_ : rawA.size ≤ 140737488355328) (vn : Value) (w : World) (lib : LibAt (hp w)) (hr : RepL (hp w) vn ns) :
    Calls Tryz.prog 5 #[.int .i64 kind, .int .i64 gang, vn, .int .i64 name, .int .i64 at_, .int .u8 y, .int .i64 cut, .string moreA, .string rawA] w fun e w' => e = .returned (.bool true) ∧ Below w.heap.size w w' := by
  obtain ⟨an, cn, rfl⟩ := hr.form
  obtain ⟨more, rfl⟩ : ∃ u, moreA = B u := ⟨bs moreA, (B_bs _).symm⟩
  obtain ⟨raw, rfl⟩ : ∃ u, rawA = B u := ⟨bs rawA, (B_bs _).symm⟩
  have bm : (B more).size = more.length := B_size _
  have br : (B raw).size = raw.length := B_size _
  obtain ⟨R, hR⟩ : ∃ R, R = makeP kind gang ns name := ⟨_, rfl⟩
  have hok : checkP R = 0 := by rw [hR]; exact make_ok _ _ _ _
  refine RS.enter Tryz.func5 Tryz.ntmps5 rfl rfl ?_
  (repeat (first | refine zS ?_ | refine zR ?_ | refine zQ ?_ | refine zK ?_ | refine zI ?_ | refine zB ?_ | refine zE ?_)); refine asB ?_; refine LS.done ?_
  (repeat (first | refine zS ?_ | refine zR ?_ | refine zQ ?_ | refine zK ?_ | refine zI ?_ | refine zB ?_ | refine zE ?_)); skip
  refine callQ (fun v _ => v = .bool true) [] (fun v σ1 k1 hq => ?_) (hc := fun w' hw => known_s lib w' hw)
  subst hq
  refine not_ ?_; refine LS.done ?_
  (repeat (first | refine zS ?_ | refine zR ?_ | refine zQ ?_ | refine zK ?_ | refine zI ?_ | refine zB ?_ | refine zE ?_))
  refine RS.condF ?_
  (repeat (first | refine zS ?_ | refine zR ?_ | refine zQ ?_ | refine zK ?_ | refine zI ?_ | refine zB ?_ | refine zE ?_)); refine mvS ?_; refine lenS ?_; refine gtI ?_; refine mvB ?_
  refine LS.part 33 (fun z => ?_) (fun z => ?_)
  · refine LS.off ?_; refine LS.off ?_; refine LS.off ?_; refine pk (v := .bool _) ?_; refine LS.done ?_
    (repeat (first | refine zS ?_ | refine zR ?_ | refine zQ ?_ | refine zK ?_ | refine zI ?_ | refine zB ?_ | refine zE ?_))
    refine RS.condT ?_
    (repeat (first | refine zS ?_ | refine zR ?_ | refine zQ ?_ | refine zK ?_ | refine zI ?_ | refine zB ?_ | refine zE ?_)); refine asB ?_; refine LS.done ?_; (repeat (first | refine zS ?_ | refine zR ?_ | refine zQ ?_ | refine zK ?_ | refine zI ?_ | refine zB ?_ | refine zE ?_)); refine RS.ret1 (v := .bool _) Tryz.func5 fun w hw => ?_
    exact ⟨rfl, hw.below⟩
  have z := of_decide_eq_false z
  refine LS.on ?_; refine mvS ?_; refine LS.on ?_; refine lenS ?_; refine LS.on ?_; refine gtI ?_; refine pk (v := .bool _) ?_; refine LS.done ?_
  (repeat (first | refine zS ?_ | refine zR ?_ | refine zQ ?_ | refine zK ?_ | refine zI ?_ | refine zB ?_ | refine zE ?_))
  refine RS.cond (fun z2 => ?_) (fun z2 => ?_)
  · (repeat (first | refine zS ?_ | refine zR ?_ | refine zQ ?_ | refine zK ?_ | refine zI ?_ | refine zB ?_ | refine zE ?_)); refine asB ?_; refine LS.done ?_; (repeat (first | refine zS ?_ | refine zR ?_ | refine zQ ?_ | refine zK ?_ | refine zI ?_ | refine zB ?_ | refine zE ?_)); refine RS.ret1 (v := .bool _) Tryz.func5 fun w hw => ?_
    exact ⟨rfl, hw.below⟩
  have z2 := of_decide_eq_false z2
  have hml : more.length ≤ 60 := by omega
  have hrl : raw.length ≤ 300 := by omega
  (repeat (first | refine zS ?_ | refine zR ?_ | refine zQ ?_ | refine zK ?_ | refine zI ?_ | refine zB ?_ | refine zE ?_)); refine mvI ?_; refine mvI ?_; refine mvL ?_; refine mvI ?_
  refine callT (fun v τ => ∃ cs, v = .agg (List.toArray cs) ∧ Rep.rep τ cs R) (fun v τ2 σ2 hq hN k2 hτ => ?_) (fun w' hw => by rw [hR]; exact make_c kind gang name ns _ w' (hr.mono (PH.le_trans k1 hw.imm)))
  obtain ⟨cs, rfl, hrep⟩ := hq
  have hrep := Rep.mono hrep hτ
  obtain ⟨f, rfl⟩ := rep_form hrep
  have k12 := PH.le_trans k1 k2
  skip
  refine callP ?_ (hc := fun w' hw => textD_x _ R w' (Rep.mono hrep hw.imm) hok)
  obtain ⟨S, hS⟩ : ∃ S, S = textP R := ⟨_, rfl⟩
  have hSl : S.length ≤ 5000 := by rw [hS]; exact textP_size hok
  have hSn : S ≠ [] := by
    rw [hS]; unfold textP; rw [textW_eq hok]; simp [joinB]
  have hSp : 0 < S.length := List.length_pos_iff.2 hSn
  have bS : (B S).size = S.length := B_size _
  rw [← hS]
  refine asS ?_; refine LS.done ?_
  (repeat (first | refine zS ?_ | refine zR ?_ | refine zQ ?_ | refine zK ?_ | refine zI ?_ | refine zB ?_ | refine zE ?_)); refine mvS ?_; refine s2b (u := S) (fun b45 z => ?_); refine asL ?_; refine LS.done ?_
  (repeat (first | refine zS ?_ | refine zR ?_ | refine zQ ?_ | refine zK ?_ | refine zI ?_ | refine zB ?_ | refine zE ?_)); refine mvL ?_; refine mvI ?_; refine mvL ?_; refine lenL ?_
  refine callP ?_ (hc := fun w _ => w4_c _ _ (by omega) (by omega) w)
  obtain ⟨m1, m2⟩ := wmod at_ (S.length : Int) (by omega)
  obtain ⟨i, hi⟩ : ∃ i : Nat, at_ % (S.length : Int) = i := ⟨(at_ % (S.length : Int)).toNat, by omega⟩
  have hil : i < S.length := by omega
  rw [hi]
  obtain ⟨c, hc⟩ : ∃ c, S[i]? = some c := ⟨S[i], List.getElem?_eq_getElem hil⟩
  refine idx (i := i) ?_; refine ldY i c ?_ hc; refine mvI ?_; refine addI ?_; rw [addY_eq]; refine idx (i := i) ?_; refine stY i (addY c y) ?_ hil; refine LS.done ?_
  obtain ⟨T, hT⟩ : ∃ T, T = S.set i (addY c y) := ⟨_, rfl⟩
  have hTl : T.length = S.length := by rw [hT]; exact List.length_set ..
  rw [← hT]
  (repeat (first | refine zS ?_ | refine zR ?_ | refine zQ ?_ | refine zK ?_ | refine zI ?_ | refine zB ?_ | refine zE ?_)); refine mvI ?_; refine mvS ?_; refine lenS ?_; (first | refine addN ?_ | refine addI ?_)
  refine callP ?_ (hc := fun w _ => w4_c _ _ (by omega) (by omega) w)
  obtain ⟨n1, n2⟩ := wmod cut ((B S).size + 1 : Int) (by omega)
  obtain ⟨k, hk⟩ : ∃ k : Nat, cut % ((B S).size + 1 : Int) = k := ⟨(cut % ((B S).size + 1 : Int)).toNat, by omega⟩
  rw [hk]
  have hkl : k ≤ S.length := by omega
  refine asI ?_; refine LS.done ?_
  have e32 : (⟨#[32]⟩ : ByteArray) = B [32] := rfl
  have eN : (⟨#[110, 111, 100, 101, 32]⟩ : ByteArray) = B [110, 111, 100, 101, 32] := rfl
  have eP : (⟨#[112, 114, 101, 112, 97, 114, 101, 32, 49, 32, 49, 32]⟩ : ByteArray) = B [112, 114, 101, 112, 97, 114, 101, 32, 49, 32, 49, 32] := rfl
  have eG : (⟨#[103, 97, 110, 103, 32, 49, 32]⟩ : ByteArray) = B [103, 97, 110, 103, 32, 49, 32] := rfl
  have btk : (B (S.take k)).size ≤ S.length := by rw [B_size, List.length_take]; omega
  have bdk : (B (S.drop k)).size ≤ S.length := by rw [B_size, List.length_drop]; omega
  have b1 : (B (S.take k ++ more)).size ≤ S.length + more.length := by rw [B_size, List.length_append, List.length_take]; omega
  have b2 : (B (S ++ [32])).size = S.length + 1 := by rw [B_size, List.length_append]; rfl
  have b32 : (B [32]).size = 1 := rfl
  have bN : (B [110, 111, 100, 101, 32]).size = 5 := rfl
  have bP : (B [112, 114, 101, 112, 97, 114, 101, 32, 49, 32, 49, 32]).size = 12 := rfl
  have bG : (B [103, 97, 110, 103, 32, 49, 32]).size = 7 := rfl
  have y1 : (B (S.take k)).size + (B more).size ≤ 9223372036854775807 := by omega
  have y2 : (B (S.take k ++ more)).size + (B (S.drop k)).size ≤ 9223372036854775807 := by omega
  have y3 : (B S).size + (⟨#[32]⟩ : ByteArray).size ≤ 9223372036854775807 := by rw [e32]; omega
  have y4 : (B (S ++ [32])).size + (B raw).size ≤ 9223372036854775807 := by omega
  have y5 : (⟨#[32]⟩ : ByteArray).size + (B S).size ≤ 9223372036854775807 := by rw [e32]; omega
  have y6 : (B more).size + (B S).size ≤ 9223372036854775807 := by omega
  have y7 : (⟨#[110, 111, 100, 101, 32]⟩ : ByteArray).size + (B raw).size ≤ 9223372036854775807 := by rw [eN]; omega
  have y8 : (⟨#[112, 114, 101, 112, 97, 114, 101, 32, 49, 32, 49, 32]⟩ : ByteArray).size + (B raw).size ≤ 9223372036854775807 := by rw [eP]; omega
  have y9 : (⟨#[103, 97, 110, 103, 32, 49, 32]⟩ : ByteArray).size + (B raw).size ≤ 9223372036854775807 := by rw [eG]; omega
  refine RS.to (K' := [byB b45 tyY2 T z]) ?_ ⟨fun h => h⟩
  (repeat (first | refine RS.seq ?_ | refine RS.region ?_ | refine RS.skip ?_ | refine RS.inBlock ?_ | refine RS.block ?_ | refine RS.exit ?_)); refine RS.draw [.free, .ex, .free, .free, .free, .free, .free, .free, .free, .free, .free, .free, .free, .free, .free, .free, .free, .free, .free, .free, .free, .free, .free, .free, .free, .free, .free, .free, .free, .free, .free, .free, .ex, .ex] [byB b45 tyY2 T z] ?_ (by kernel_rfl) (by kernel_rfl) (by infer_instance); refine D.mvL ?_; refine D.b2sY (u := T) ?_ (hm := hTl.symm); refine D.mvS ?_; refine D.mvI ?_; refine D.slcUptoT (u := S) k ?_ hkl; refine D.mvS ?_; refine D.mvI ?_; refine D.slcUptoT (u := S) k ?_ hkl; refine D.mvS ?_; refine D.addS ?_ (hs := y1); rw [B_add]; refine D.mvS ?_; refine D.mvI ?_; refine D.slcFromT (u := S) k ?_ hkl; refine D.addS ?_ (hs := y2); rw [B_add]; refine D.mvS ?_; refine D.mvS ?_; refine D.addS ?_ (hs := y3); rw [e32, B_add]; refine D.mvS ?_; refine D.addS ?_ (hs := y4); rw [B_add]; refine D.mvS ?_; refine D.addS ?_ (hs := y5); rw [e32, B_add]; refine D.mvS ?_; refine D.addS ?_ (hs := y3); rw [e32, B_add]; refine D.mvS ?_; refine D.mvS ?_; refine D.addS ?_ (hs := y6); rw [B_add]; refine D.mvS ?_; refine D.addS ?_ (hs := y7); rw [eN, B_add]; refine D.mvS ?_; refine D.addS ?_ (hs := y8); rw [eP, B_add]; refine D.mvS ?_; refine D.addS ?_ (hs := y9); rw [eG, B_add]
  refine D.bldL ((texts11 S T more raw k).map fun x => Value.string (B x)) ((texts11 S T more raw k).map fun x => Value.string (B x)) ?_
  refine D.asU (TLit tyS2 11 ((texts11 S T more raw k).map fun x => Value.string (B x))) (fun _ _ _ ⟨b, h1, h2⟩ hs => ⟨b, h1, hs _ _ h2⟩) ?_ (fun us σ' hle hf => by exact hf.1); refine D.done (fun us σ1 hle1 hfs => ?_)
  obtain ⟨σ1', hσ⟩ : ∃ s, s = σ1 := ⟨_, rfl⟩
  rw [← hσ] at hle1 hfs ⊢
  have k3 := hle1
  obtain ⟨b93, e22, hb93⟩ := hfs.1
  refine RS.ow ?_
  refine RS.as 22 (.slice (some ⟨b93, 0, none⟩) 11 11) e22 ?_
  have hlen := texts11_len (T := T) (k := k) hSl (by omega) hml hrl
  obtain ⟨l, hl⟩ : ∃ l, l = texts11 S T more raw k := ⟨_, rfl⟩
  have hll : l.length = 11 := by rw [hl]; rfl
  rw [← hl] at hb93 hlen
  have k123 := PH.le_trans k12 k3
  (repeat (first | refine zS ?_ | refine zR ?_ | refine zQ ?_ | refine zK ?_ | refine zI ?_ | refine zB ?_ | refine zE ?_)); refine asI ?_; refine LS.done ?_
  (repeat (first | refine zS ?_ | refine zR ?_ | refine zQ ?_ | refine zK ?_ | refine zI ?_ | refine zB ?_ | refine zE ?_))
  refine RS.loopF (X := Nat × PH) 23 125 (fun x => x.1 ≤ 11 ∧ PH.le σ1' x.2) (fun x => [(23, .int .i64 x.1)]) (fun x => x.2) (fun _ => [byB b45 tyY2 T z]) (fun x => 11 - x.1) (0, σ1') ⟨by omega, PH.le_refl _⟩ ⟨rfl, trivial⟩ rfl ⟨fun h => h⟩ ?_
  rintro ⟨j, σ4⟩ g ⟨hj, k4⟩ ih
  dsimp only at hj k4
  (repeat (first | refine zS ?_ | refine zR ?_ | refine zQ ?_ | refine zK ?_ | refine zI ?_ | refine zB ?_ | refine zE ?_)); refine mvI ?_; refine mvL ?_; refine lenL ?_; refine ltI ?_; refine LS.done ?_
  (repeat (first | refine zS ?_ | refine zR ?_ | refine zQ ?_ | refine zK ?_ | refine zI ?_ | refine zB ?_ | refine zE ?_))
  by_cases hlt : j < 11
  · refine RS.condT ?_ (h := by simp; omega)
    obtain ⟨u, hu⟩ : ∃ u, u = l[j]'(by omega) := ⟨_, rfl⟩
    have hul : u.length ≤ 90000 := hlen u (by rw [hu]; exact List.getElem_mem _)
    have hcell : σ4.cell b93 (0 + j * 1) = some (.string (B u)) := by
      have h1 : σ1'.cell b93 (0 + j * 1) = some (.string (B u)) := by
        simp only [PH.cell, hb93, Nat.zero_add, Nat.mul_one]
        simp [hu, show j < l.length by omega]
      exact PH.cell_mono k4 h1
    (repeat (first | refine zS ?_ | refine zR ?_ | refine zQ ?_ | refine zK ?_ | refine zI ?_ | refine zB ?_ | refine zE ?_)); refine mvL ?_; refine mvI ?_; refine idx (i := j) ?_; refine ldS hcell ?_
    refine callQ (ParseA u) [byB b45 tyY2 T z] (fun v σ5 k5 hq => ?_) (hc := fun w' hw => parse_s u hul (lib.mono (PH.le_trans k123 k4)) w' hw)
    obtain ⟨cs, rfl, hrep5⟩ := hq
    obtain ⟨f5, rfl⟩ := rep_form hrep5
    refine mvT ?_; refine extr (v := _) ?_; refine extr (v := .int _ _) ?_; refine alloc_ (fun b24 => ?_); refine st (.agg _) _ ?_; refine asI ?_; refine LS.done ?_
    refine RS.to (K' := [rcW b24 (parseP u).1 f5, byB b45 tyY2 T z]) ?_ ⟨fun h => h⟩
    (repeat (first | refine zS ?_ | refine zR ?_ | refine zQ ?_ | refine zK ?_ | refine zI ?_ | refine zB ?_ | refine zE ?_)); refine mvL ?_; refine mvI ?_; refine idx (i := j) ?_; refine ldS (PH.cell_mono k5 hcell) ?_
    refine callQ (ParseA u) [rcW b24 (parseP u).1 f5, byB b45 tyY2 T z] (fun v σ6 k6 hq => ?_) (hc := fun w' hw => parseD_x u hul w' hw)
    obtain ⟨cs, rfl, hrep6⟩ := hq
    obtain ⟨f6, rfl⟩ := rep_form hrep6
    refine mvT ?_; refine extr (v := _) ?_; refine extr (v := .int _ _) ?_; refine alloc_ (fun b26 => ?_); refine st (.agg _) _ ?_; refine asI ?_; refine LS.done ?_
    refine RS.to (K' := [rcW b26 (parseP u).1 f6, rcW b24 (parseP u).1 f5, byB b45 tyY2 T z]) ?_ ⟨fun h => h⟩
    (repeat (first | refine zS ?_ | refine zR ?_ | refine zQ ?_ | refine zK ?_ | refine zI ?_ | refine zB ?_ | refine zE ?_)); refine mvI ?_; refine mvI ?_; refine neI ?_; rw [decide_eq_true (show (parseP u).2 = (parseP u).2 from rfl)]; refine mvB ?_; refine LS.on ?_; refine ldA (rcV (parseP u).1 f5) ?_; refine LS.on ?_; refine ldA (rcV (parseP u).1 f6) ?_; refine LS.on ?_
    refine callP ?_ (hc := fun w' hw => same_x _ _ (parseP u).1 (parseP u).1 w' (Rep.mono hrep5 (PH.le_trans k6 hw.imm)) (Rep.mono hrep6 hw.imm))
    rw [decide_eq_true (show (parseP u).1 = (parseP u).1 from rfl)]
    refine LS.on ?_; refine not_ ?_; refine pk (v := .bool _) ?_; refine LS.done ?_
    (repeat (first | refine zS ?_ | refine zR ?_ | refine zQ ?_ | refine zK ?_ | refine zI ?_ | refine zB ?_ | refine zE ?_))
    refine RS.condF ?_
    (repeat (first | refine zS ?_ | refine zR ?_ | refine zQ ?_ | refine zK ?_ | refine zI ?_ | refine zB ?_ | refine zE ?_)); refine mvI ?_; (first | refine addN ?_ | refine addI ?_); refine asI ?_; refine LS.done ?_; (repeat (first | refine zS ?_ | refine zR ?_ | refine zQ ?_ | refine zK ?_ | refine zI ?_ | refine zB ?_ | refine zE ?_))
    exact ih (j + 1, σ6) ⟨hlt, PH.le_trans k4 (PH.le_trans k5 k6)⟩ (by (try dsimp only); omega) ⟨rfl, trivial⟩ (by repeat (first | with_reducible exact Out.refl _ _ _ | exact Out.hv | refine Out.upd ?_ | refine Out.hvIn ?_)) ⟨fun h => h.tail.tail⟩ rfl
  · refine RS.condF ?_ (h := by simp; omega)
    (repeat (first | refine zS ?_ | refine zR ?_ | refine zQ ?_ | refine zK ?_ | refine zI ?_ | refine zB ?_ | refine zE ?_)); refine asB ?_; refine LS.done ?_; (repeat (first | refine zS ?_ | refine zR ?_ | refine zQ ?_ | refine zK ?_ | refine zI ?_ | refine zB ?_ | refine zE ?_)); refine RS.ret1 (v := .bool _) Tryz.func5 fun w hw => ?_
    exact ⟨rfl, hw.below⟩
end Go.Proofs.YtaiofgmhlfccgaaGreatDoor
