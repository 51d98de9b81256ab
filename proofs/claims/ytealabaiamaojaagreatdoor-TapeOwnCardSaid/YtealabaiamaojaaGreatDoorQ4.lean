/- The base of the walks: rules, contracts, plain laws, part 4. -/
import Derived.Test.YtealabaiamaojaaGreatDoorQ3
namespace Go.Proofs.YtealabaiamaojaaGreatDoor
open Go.JW Go.RowKit
theorem peers4_c (n : Int) (w : World) : Calls Tryz.prog 32 #[.int .i64 n] w fun e w' => ∃ v, e = .returned v ∧ Below w.heap.size w w' ∧ RepQ 3 (since w w') v (peersOf n) := by
  refine RS.enter Tryz.func32 Tryz.ntmps32 rfl rfl ?_
  refine zN ?_; refine asL ?_; refine LS.done ?_
  refine zN ?_; refine asL ?_; refine LS.done ?_
  refine zN ?_; refine asI ?_; refine LS.done ?_
  refine zN ?_
  refine RS.nilD w.heap.size Int 3 ?_
  refine RS.loopF (X := Nat × Value) 3 28 (fun x => x.1 ≤ 4) (fun x => [(3, x.2), (4, .int .i64 ((x.1 + 1 : Nat) : Int))]) (fun _ => hp w) (fun x => [rowD w.heap.size 3 x.2 (peersTo n x.1)]) (fun x => 4 - x.1) (0, nilV) (by simp) ⟨rfl, rfl, trivial⟩ rfl ⟨fun h => h⟩ ?_
  rintro ⟨k, v⟩ g hk ih
  dsimp only at hk
  have hln := peersTo_len n k
  refine RS.formD (l := peersTo n k) v (fun a c ev _ => ?_); subst ev
  refine zN ?_; refine mvI ?_; refine JW.leI ?_; refine LS.done ?_
  refine zN ?_
  by_cases hlt : k < 4
  · refine RS.condT ?_ (h := by simp; omega)
    have hwi : ((k + 1 : Nat) : Int) + 1 = ((k + 1 + 1 : Nat) : Int) := by omega
    have hI : I64 ((k + 1 : Nat) : Int) := by constructor <;> omega
    have hcell : ∀ τ : PH, CellsL τ [Value.int .i64 ((k + 1 : Nat) : Int)] [((k + 1 : Nat) : Int)] := fun τ => CellsL.one_ (show Rep.rep τ [Value.int .i64 ((k + 1 : Nat) : Int)] ((k + 1 : Nat) : Int) from ⟨rfl, hI⟩)
    refine zN ?_; refine mvI ?_; refine mvI ?_; refine cvU ?_; refine shrI ?_
    refine callP ?_ (hc := fun w _ => w4_c _ _ (by omega) (by omega) w)
    refine eqI ?_; refine mvB ?_
    refine LS.cut 5 24 [(23, .bool (decide (bitOf n (k + 1) = 1 ∨ (k + 1 = 4 ∧ peersTo n k = []))))] (fun gg => ?_) (fun J => ?_)
    rotate_left
    · refine LS.part 15 (fun z => ?_) (fun z => ?_)
      · refine LS.off ?_; refine LS.off ?_; refine LS.off ?_; refine LS.offU ?_; refine LS.offU ?_; refine LS.offU ?_; refine LS.off ?_; refine pk (v := .bool _) ?_; refine LS.done ?_
        exact J ⟨boolV (by symm; exact decide_eq_true (.inl (of_decide_eq_true z))), trivial⟩ (by repeat (first | with_reducible exact Out.refl _ _ _ | exact Out.hv | refine Out.upd ?_ | refine Out.hvIn ?_))
      · have z := of_decide_eq_false z
        refine LS.on ?_; refine mvI ?_; refine LS.on ?_; refine eqI ?_; refine LS.on ?_; refine mvB ?_
        refine LS.part 18 (fun y => ?_) (fun y => ?_)
        · have y := of_decide_eq_true y
          refine LS.on ?_; refine mvL ?_; refine LS.on ?_; refine lenL ?_; refine LS.on ?_; refine eqI ?_; refine LS.on ?_; refine pk (v := .bool _) ?_; refine pk (v := .bool _) ?_; refine LS.done ?_
          exact J ⟨boolV (by
            rw [decide_eq_decide]
            constructor
            · intro h; exact .inr ⟨by omega, List.eq_nil_of_length_eq_zero (by omega)⟩
            · rintro (h | ⟨_, h⟩)
              · exact absurd h z
              · rw [h]; rfl), trivial⟩ (by repeat (first | with_reducible exact Out.refl _ _ _ | exact Out.hv | refine Out.upd ?_ | refine Out.hvIn ?_))
        · have y := of_decide_eq_false y
          refine LS.off ?_; refine LS.off ?_; refine LS.off ?_; refine LS.on ?_; refine pk (v := .bool _) ?_; refine pk (v := .bool _) ?_; refine LS.done ?_
          exact J ⟨boolV (by
            symm; apply decide_eq_false
            rintro (h | ⟨h, _⟩)
            · exact absurd h z
            · omega), trivial⟩ (by repeat (first | with_reducible exact Out.refl _ _ _ | exact Out.hv | refine Out.upd ?_ | refine Out.hvIn ?_))
    refine zN ?_
    refine RS.cond (fun z => ?_) (fun z => ?_)
    · have z := of_decide_eq_true z
      refine zN ?_; refine mvL ?_; refine mvI ?_; refine bldS [.int .i64 ((k + 1 : Nat) : Int)] [.int .i64 ((k + 1 : Nat) : Int)] (fun b26 => ?_); refine appD (v := .slice a (peersTo n k).length c) (l' := [((k + 1 : Nat) : Int)]) (vy := .slice (some ⟨b26, 0, none⟩) 1 1) (fun w' hw => ⟨_, srcB hw TSlice.eq, hcell _⟩) (fun v27 => ?_); refine as_ (v := v27) ?_; refine LS.done ?_
      refine zN ?_; refine mvI ?_; (first | refine addN ?_ | refine addI ?_); refine asI ?_; refine LS.done ?_; refine zN ?_
      exact ih (k + 1, v27) hlt (by (try dsimp only); omega) ⟨rfl, intV hwi, trivial⟩ (by repeat (first | with_reducible exact Out.refl _ _ _ | exact Out.hv | refine Out.upd ?_ | refine Out.hvIn ?_)) ⟨fun h => by simp only [peersTo]; rw [if_pos z]; exact h.tail⟩ rfl
    · have z := of_decide_eq_false z
      refine zN ?_; refine mvI ?_; (first | refine addN ?_ | refine addI ?_); refine asI ?_; refine LS.done ?_; refine zN ?_
      exact ih (k + 1, _) hlt (by (try dsimp only); omega) ⟨rfl, intV hwi, trivial⟩ (by repeat (first | with_reducible exact Out.refl _ _ _ | exact Out.hv | refine Out.upd ?_ | refine Out.hvIn ?_)) ⟨fun h => by simp only [peersTo]; rw [if_neg z]; exact h⟩ rfl
  · refine RS.condF ?_ (h := by simp; omega)
    obtain rfl : k = 4 := by omega
    refine zN ?_; refine mvL ?_; refine asL ?_; refine LS.done ?_; refine zN ?_; refine RS.ret1 (v := .slice _ _ _) Tryz.func32 fun w hw => ?_
    exact ⟨_, rfl, hw.below, hw.rowNewD (l := peersTo n 4) (Nat.le_refl _) (by omega), hw.ownNewD (l := peersTo n 4)⟩
theorem placeK_rep (τ : PH) (i : Nat) (k : Int) : Rep.rep τ (placeC (placeK i k)) (placeK i k) := by
  obtain ⟨a1, a2⟩ := wmod (k.tdiv 8) 1099511627777 (by omega)
  obtain ⟨b1, b2⟩ := wmod k 9 (by omega)
  refine ⟨rfl, ?_, ?_, ?_, ?_⟩
  · show (letter _ _).size ≤ _; rw [letter_size]; decide
  · show (nameOf k).size ≤ _; have := nameOf_size k; omega
  · show I64 (k.tdiv 8 % 1099511627777); omega
  · show I64 (k % 9); omega
theorem placesN_succ (ns : List Int) (i : Nat) : placesN ns (i + 1) = placesN ns i ++ [placeAt ns i] := by unfold placesN; rw [List.range_succ, List.map_append]; rfl
theorem placesN_len (ns : List Int) (i : Nat) : (placesN ns i).length = i := by simp [placesN]
abbrev mkTy : TypeId := 37
def OwnR (τ : PH) (cs : List Value) (r : RecD) : Prop := ∃ vp vq vm vt, cs = recC r vp vq vm vt ∧ OwnV 3 1 τ vp r.peers.length ∧ OwnV 9 1 τ vm r.node.marks.length
theorem make_c (kind gang name : Int) (ns : List Int) (vn : Value) (w : World) (hr : RepL (hp w) vn ns) : Calls Tryz.prog 13 #[.int .i64 kind, .int .i64 gang, vn, .int .i64 name] w fun e w' =>
    ∃ v, e = .returned v ∧ Below w.heap.size w w' ∧ ∃ cs, v = .agg (List.toArray cs) ∧ Rep.rep (since w w') cs (makeP kind gang ns name) ∧ OwnR (since w w') cs (makeP kind gang ns name) := by
  obtain ⟨an, cn, rfl⟩ := hr.form
  have hlen : ns.length ≤ 140737488355328 := hr.1
  obtain ⟨a1, a2⟩ := wmod kind 7 (by omega)
  obtain ⟨b1, b2⟩ := wmod gang 999999 (by omega)
  have z : I64 0 := ⟨by decide, by decide⟩
  have hgI : I64 (1 + gang % 999999) := ⟨by omega, by omega⟩
  have hwk : IntKind.i64.wrap (1 + kind % 7) = 1 + kind % 7 := wrapEq (by omega) (by omega)
  have hwg : IntKind.i64.wrap (1 + gang % 999999) = 1 + gang % 999999 := wrapEq (by omega) (by omega)
  have hm : manyN ns = max 1 (min 8 ns.length) := rfl
  refine RS.enter Tryz.func13 Tryz.ntmps13 rfl rfl ?_
  refine zN ?_; refine alloc_ (fun b8 => ?_); refine LS.done ?_
  refine zN ?_; refine mvI ?_
  refine callP ?_ (hc := fun w _ => w4_c _ _ (by omega) (by omega) w)
  (first | refine addN ?_ | refine addI ?_); refine mvI ?_
  refine callP ?_ (hc := fun w _ => w4_c _ _ (by omega) (by omega) w)
  (first | refine addN ?_ | refine addI ?_); refine bld (vals := [(0, .int _ _), (1, .int _ _)]) [_, _, _, _, _, _, _, _, _, _] ?_; refine alloc_ (fun b9 => ?_); refine st (.agg _) _ ?_; refine LS.done ?_
  refine zN ?_; refine asI ?_; refine LS.done ?_
  refine zN ?_; refine mvL ?_; refine lenL ?_; refine gtI ?_; refine LS.done ?_
  obtain ⟨k, hk⟩ : ∃ k, k = 1 + kind % 7 := ⟨_, rfl⟩
  have hk7 : k = 1 ∨ k = 2 ∨ k = 3 ∨ k = 4 ∨ k = 5 ∨ k = 6 ∨ k = 7 := by omega
  have hkI : I64 k := ⟨by omega, by omega⟩
  unfold makeP
  simp only [← hk]
  obtain ⟨n0, hn0⟩ : ∃ n0 : Int, n0 = if ns.length = 0 then 5 else ns.getD 0 0 := ⟨_, rfl⟩
  rw [← hn0]
  repeat refine RS.seq ?_
  refine RS.cut (X := Unit) 10 26 (fun _ => True) (fun _ => [(10, .int .i64 n0)]) (fun _ => hp w) (fun _ => [rcB b9 k (1 + gang % 999999) nilV nilV ⟨#[]⟩ 0 0 nilV nilV false, rcB b8 0 0 nilV nilV ⟨#[]⟩ 0 0 nilV nilV false]) ?_ (fun J => ?_)
  rotate_left
  · refine RS.cond (fun c => ?_) (fun c => ?_)
    · have c := of_decide_eq_true c
      obtain ⟨b, o, rfl, hrow⟩ := hr.addr (fun h => by simp [h] at c)
      obtain ⟨hcell, h64⟩ := hrow.int 0 (by omega)
      have e0 : ns[0]'(by omega) = n0 := by rw [hn0, if_neg (by omega)]; simp [List.getD_eq_getElem?_getD, show 0 < ns.length by omega]
      rw [e0] at hcell
      refine zN ?_; refine mvL ?_; refine idx (i := 0) ?_ (hi := by omega); refine ldS hcell ?_; refine asI ?_; refine LS.done ?_
      exact J () trivial ⟨rfl, trivial⟩ (by repeat (first | with_reducible exact Out.refl _ _ _ | exact Out.hv | refine Out.upd ?_ | refine Out.hvIn ?_)) ⟨fun h => h⟩ rfl
    · have c := of_decide_eq_false c
      have e0 : n0 = 5 := by rw [hn0, if_pos (by omega)]
      refine RS.skip ?_
      exact J () trivial ⟨by rw [e0]; rfl, trivial⟩ (by repeat (first | with_reducible exact Out.refl _ _ _ | exact Out.hv | refine Out.upd ?_ | refine Out.hvIn ?_)) ⟨fun h => h⟩ rfl
  rintro _ g _
  have hn64 : I64 n0 := by
    rw [hn0]; split
    · exact ⟨by decide, by decide⟩
    · rename_i h0
      obtain ⟨b, o, e, hrow⟩ := hr.addr (fun h => by simp [h] at h0)
      obtain ⟨_, h64⟩ := hrow.int 0 (by omega)
      simpa [List.getD_eq_getElem?_getD, show 0 < ns.length by omega] using h64
  refine zN ?_; refine fld ?_; refine ld1 (v := .int _ _) ?_; refine LS.done ?_
  refine zN ?_; refine eqI ?_; refine asB ?_; refine LS.done ?_
  refine zN ?_
  rcases hk7 with rfl | rfl | rfl | rfl | rfl | rfl | rfl
  · refine RS.condT ?_
    refine zN ?_; refine mvI ?_; refine mvI ?_
    refine callT (fun v τ => ∃ cs, v = .agg (List.toArray cs) ∧ Rep.rep τ cs (nodeOf name n0) ∧ ∃ vm vt, cs = nodeC (nodeOf name n0) vm vt ∧ OwnV 9 1 τ vm (setOf (n0.tdiv 144)).length) (fun v τ1 σ1 hq hN hle hτ => ?_) (fun w _ => lnode_c name n0 hn64 w)
    obtain ⟨cs, rfl, ⟨vm, vt, rfl, m1, m2, m3, hm1, ht1⟩, vm2, vt2, e2, hom⟩ := hq
    obtain ⟨rfl, rfl⟩ : vm = vm2 ∧ vt = vt2 := by simp only [nodeC, List.cons.injEq, true_and, and_true] at e2; exact ⟨e2.1, e2.2⟩
    obtain ⟨am, cm, rfl⟩ := hm1.form
    obtain ⟨at_, ct, rfl⟩ := ht1.form
    refine fld ?_; refine st (.int _ _) _ ?_; refine fld ?_; refine st (.agg _) _ ?_; refine LS.done ?_
    refine zN ?_
    refine zN ?_; refine ldA [_, _, _, _, _, _, _, _, _, _] ?_; refine st (.agg _) _ ?_; refine LS.done ?_
    refine zN ?_; refine RS.retC (ty := 33) Tryz.func13 [_, _, _, _, _, _, _, _, _, _] fun w hw => ?_
    exact ⟨_, rfl, hw.below, _, rfl, ⟨_, _, _, _, rfl, hkI, z, RepL.nil _ _ _, RepQ.nil _ _ _, m1, m2, m3, hm1.mono (hN.le_since hτ hw), ht1.mono (hN.le_since hτ hw)⟩, _, _, _, _, rfl, .inl rfl, hom.mono (hN.le_since hτ hw)⟩
  · refine RS.condF ?_
    refine zN ?_; refine eqI ?_; refine asB ?_; refine LS.done ?_
    refine zN ?_
    refine RS.condT ?_
    refine zN ?_; refine mvI ?_
    refine callP ?_ (hc := fun w _ => lname_c _ w)
    refine fld ?_; refine st (.int _ _) _ ?_; refine fld ?_; refine fld ?_; refine st (.string _) _ ?_; refine LS.done ?_
    refine zN ?_
    refine zN ?_; refine ldA [_, _, _, _, _, _, _, _, _, _] ?_; refine st (.agg _) _ ?_; refine LS.done ?_
    refine zN ?_; refine RS.retC (ty := 33) Tryz.func13 [_, _, _, _, _, _, _, _, _, _] fun w hw => ?_
    exact ⟨_, rfl, hw.below, _, rfl, ⟨_, _, _, _, rfl, hkI, z, RepL.nil _ _ _, RepQ.nil _ _ _, by show (nameOf name).size ≤ _; have := nameOf_size name; omega, z, z, RepL.nil _ _ _, RepL.nil _ _ _⟩, _, _, _, _, rfl, .inl rfl, .inl rfl⟩
  · refine RS.condF ?_
    refine zN ?_; refine eqI ?_; refine asB ?_; refine LS.done ?_
    refine zN ?_
    refine RS.condF ?_
    refine zN ?_; refine eqI ?_; refine asB ?_; refine LS.done ?_
    refine zN ?_
    refine RS.condT ?_
    refine zN ?_; refine mvI ?_
    refine callT (fun v τ => RepQ 3 τ v (peersOf name)) (fun v τ1 σ1 hq hN hle hτ => ?_) (fun w _ => peers4_c name w)
    obtain ⟨ap, cp, rfl⟩ := hq.form
    have k1 := hle
    refine fld ?_; refine st (.slice _ _ _) _ ?_; refine LS.done ?_
    refine zN ?_; refine asI ?_; refine LS.done ?_
    refine zN ?_
    refine RS.nilD w.heap.size PlaceD mkTy ?_
    refine RS.loopF (X := Nat × Value × PH) 11 94 (fun x => x.1 ≤ manyN ns ∧ PH.le σ1 x.2.2) (fun x => [(11, .int .i64 x.1)]) (fun x => x.2.2)
      (fun x => [rowD w.heap.size mkTy x.2.1 (placesN ns x.1), rcB b9 3 (1 + gang % 999999) (.slice ap (peersOf name).length cp) x.2.1 ⟨#[]⟩ 0 0 nilV nilV false, rcB b8 0 0 nilV nilV ⟨#[]⟩ 0 0 nilV nilV false]) (fun x => manyN ns - x.1) (0, nilV, σ1) ⟨Nat.zero_le _, PH.le_refl _⟩ ⟨rfl, trivial⟩ rfl ⟨fun h => h⟩ ?_
    rintro ⟨i, vq, σ2⟩ g2 ⟨hi, hle⟩ ih
    dsimp only at hi hle
    have hpl := placesN_len ns i
    refine zN ?_; refine mvI ?_; refine ltI ?_; refine mvB ?_
    refine LS.cut 47 59 [(58, .bool (decide (i < manyN ns)))] (fun gg => ?_) (fun J => ?_)
    rotate_left
    · refine LS.part 49 (fun z1 => ?_) (fun z1 => ?_)
      · have z1 := of_decide_eq_true z1
        refine LS.on ?_; refine mvI ?_; refine LS.on ?_; refine mvL ?_; refine LS.on ?_; refine lenL ?_; refine LS.on ?_; refine ltI ?_; refine pk (v := .bool _) ?_; refine mvB ?_
        refine LS.part 55 (fun z2 => ?_) (fun z2 => ?_)
        · have z2 := of_decide_eq_true z2
          refine LS.off ?_; refine LS.off ?_; refine pk (v := .bool _) ?_; refine LS.done ?_
          exact J ⟨boolV (by symm; apply decide_eq_true; omega), trivial⟩ (by repeat (first | with_reducible exact Out.refl _ _ _ | exact Out.hv | refine Out.upd ?_ | refine Out.hvIn ?_))
        · have z2 := of_decide_eq_false z2
          refine LS.on ?_; refine mvI ?_; refine LS.on ?_; refine eqI ?_; refine pk (v := .bool _) ?_; refine LS.done ?_
          exact J ⟨boolV (by rw [decide_eq_decide]; omega), trivial⟩ (by repeat (first | with_reducible exact Out.refl _ _ _ | exact Out.hv | refine Out.upd ?_ | refine Out.hvIn ?_))
      · have z1 := of_decide_eq_false z1
        refine LS.off ?_; refine LS.off ?_; refine LS.off ?_; refine LS.off ?_; refine pk (v := .bool _) ?_; refine mvB ?_; refine LS.on ?_; refine mvI ?_; refine LS.on ?_; refine eqI ?_; refine pk (v := .bool _) ?_; refine LS.done ?_
        exact J ⟨boolV (by rw [decide_eq_decide]; omega), trivial⟩ (by repeat (first | with_reducible exact Out.refl _ _ _ | exact Out.hv | refine Out.upd ?_ | refine Out.hvIn ?_))
    refine zN ?_
    refine RS.cond (fun c => ?_) (fun c => ?_)
    · have c := of_decide_eq_true c
      have hi8 : i < 8 := by omega
      have hp1 : (⟨#[112]⟩ : ByteArray).size = 1 := rfl
      have hf1 : (List.foldl (fun (r : ByteArray) (n : Int) => r.push (UInt8.ofNat n.toNat)) ByteArray.empty [IntKind.u8.wrap (97 + (i : Int))]).size = 1 := by simp only [List.foldl]; rw [ByteArray.size_push]; rfl
      refine zN ?_; refine mvI ?_; refine asI ?_; refine LS.done ?_
      refine zN ?_; refine mvI ?_; refine mvL ?_; refine lenL ?_; refine ltI ?_; refine LS.done ?_
      refine zN ?_
      by_cases hin : i < ns.length
      · refine RS.condT ?_ (h := by simp; omega)
        obtain ⟨b, o, rfl, hrow⟩ := hr.addr (List.ne_nil_of_length_pos (by omega))
        obtain ⟨hcell, h64⟩ := (hrow.mono (PH.le_trans k1 hle)).int i hin
        have e0 : ns[i] = ns.getD i 0 := by simp [List.getD_eq_getElem?_getD, hin]
        rw [e0] at hcell h64
        refine zN ?_; refine mvL ?_; refine mvI ?_; refine idx (i := i) ?_; refine ldS hcell ?_; refine asI ?_; refine LS.done ?_
        have hkk : ns.getD i 0 = kAtN ns i := by unfold kAtN; first | rw [if_pos hin] | rw [if_neg hin]
        refine zD ?_; refine RS.draw [.free, .ex, .free, .free, .free, .ex, .ex, .free, .free, .ex, .free, .free, .ex, .free, .ex, .free, .free, .free, .ex, .free, .free, .ex, .eff, .free, .st] [rcB b9 3 (1 + gang % 999999) (.slice ap (peersOf name).length cp) vq ⟨#[]⟩ 0 0 nilV nilV false] ?_ (by kernel_rfl) (by kernel_rfl) (by infer_instance); refine D.fld ?_; refine D.ld1 (v := vq) ?_; refine D.mvI ?_; (first | refine D.addN ?_ | refine D.addI ?_); refine D.cvI ?_
        refine D.bldL [.int .u8 _] [.int .u8 _] ?_
        refine D.b2s (c0 := 1) [IntKind.u8.wrap (97 + (i : Int))] 75 ?_ (fun us σ' _ ⟨⟨b, h1, h2⟩, _⟩ => ⟨b, h1, fun j hj => by simp [PH.cell, h2]⟩); refine D.addS ?_; refine D.mvI ?_
        refine D.callP ?_ (hc := fun _ _ w _ _ _ => lname_c _ w)
        refine D.mvI ?_; refine D.quoN ?_
        refine D.callP ?_ (hc := fun _ _ w _ _ _ => w4_c _ _ (by omega) (by omega) w)
        refine D.mvI ?_
        refine D.callP ?_ (hc := fun _ _ w _ _ _ => w4_c _ _ (by omega) (by omega) w)
        refine D.bld (vals := [(0, .int _ _), (1, .int _ _)]) [_, _] ?_; refine D.mvI ?_; refine D.quoN ?_
        refine D.callP ?_ (hc := fun _ _ w _ _ _ => w4_c _ _ (by omega) (by omega) w)
        refine D.eqI ?_; refine D.bld (vals := [(0, .string _), (1, .string _), (2, .agg (List.toArray [_, _])), (3, .bool _)]) [_, _, _, _, _] ?_; refine D.litT w.heap.size [placeK i (ns.getD i 0)] (vs := fun us => [.agg (List.toArray (placeC (placeK i (ns.getD i 0))))]) ?_ (fun us σ' _ _ => ⟨placeK_rep _ i (ns.getD i 0), trivial⟩); refine D.appD vq [placeK i (ns.getD i 0)] (vy := fun us => us 91) ?_ (fun us σ' _ ⟨h1, _⟩ => ⟨_, h1, PH.le_refl _⟩); refine D.fld ?_
        refine D.stU 92 (fun us => recC { rec0 with kind := 3, gang := 1 + gang % 999999 } (.slice ap (peersOf name).length cp) (us 92) nilV nilV) ?_
        refine D.done (fun us σ3 hle3 hfs => ?_)
        have k3 := hle3
        refine RS.ow ?_
        refine zN ?_; refine mvI ?_; (first | refine addN ?_ | refine addI ?_); refine asI ?_; refine LS.done ?_; refine zN ?_
        have hsu : placesN ns i ++ [placeK i (ns.getD i 0)] = placesN ns (i + 1) := by rw [placesN_succ]; unfold placeAt; rw [← hkk]
        exact ih (i + 1, us 92, _) ⟨by (try dsimp only); omega, PH.le_trans hle k3⟩ (by (try dsimp only); omega) ⟨rfl, trivial⟩ (by repeat (first | with_reducible exact Out.refl _ _ _ | exact Out.hv | refine Out.upd ?_ | refine Out.hvIn ?_)) ⟨fun h => by simp only [← hsu]; exact h⟩ rfl
      · refine RS.condF ?_ (h := by simp; omega)
        have hkk : (i : Int) = kAtN ns i := by unfold kAtN; first | rw [if_pos hin] | rw [if_neg hin]
        refine zD ?_; refine RS.draw [.free, .ex, .free, .free, .free, .ex, .ex, .free, .free, .ex, .free, .free, .ex, .free, .ex, .free, .free, .free, .ex, .free, .free, .ex, .eff, .free, .st] [rcB b9 3 (1 + gang % 999999) (.slice ap (peersOf name).length cp) vq ⟨#[]⟩ 0 0 nilV nilV false] ?_ (by kernel_rfl) (by kernel_rfl) (by infer_instance); refine D.fld ?_; refine D.ld1 (v := vq) ?_; refine D.mvI ?_; (first | refine D.addN ?_ | refine D.addI ?_); refine D.cvI ?_
        refine D.bldL [.int .u8 _] [.int .u8 _] ?_
        refine D.b2s (c0 := 1) [IntKind.u8.wrap (97 + (i : Int))] 75 ?_ (fun us σ' _ ⟨⟨b, h1, h2⟩, _⟩ => ⟨b, h1, fun j hj => by simp [PH.cell, h2]⟩); refine D.addS ?_; refine D.mvI ?_
        refine D.callP ?_ (hc := fun _ _ w _ _ _ => lname_c _ w)
        refine D.mvI ?_; refine D.quoN ?_
        refine D.callP ?_ (hc := fun _ _ w _ _ _ => w4_c _ _ (by omega) (by omega) w)
        refine D.mvI ?_
        refine D.callP ?_ (hc := fun _ _ w _ _ _ => w4_c _ _ (by omega) (by omega) w)
        refine D.bld (vals := [(0, .int _ _), (1, .int _ _)]) [_, _] ?_; refine D.mvI ?_; refine D.quoN ?_
        refine D.callP ?_ (hc := fun _ _ w _ _ _ => w4_c _ _ (by omega) (by omega) w)
        refine D.eqI ?_; refine D.bld (vals := [(0, .string _), (1, .string _), (2, .agg (List.toArray [_, _])), (3, .bool _)]) [_, _, _, _, _] ?_; refine D.litT w.heap.size [placeK i ((i : Int))] (vs := fun us => [.agg (List.toArray (placeC (placeK i ((i : Int)))))]) ?_ (fun us σ' _ _ => ⟨placeK_rep _ i ((i : Int)), trivial⟩); refine D.appD vq [placeK i ((i : Int))] (vy := fun us => us 91) ?_ (fun us σ' _ ⟨h1, _⟩ => ⟨_, h1, PH.le_refl _⟩); refine D.fld ?_
        refine D.stU 92 (fun us => recC { rec0 with kind := 3, gang := 1 + gang % 999999 } (.slice ap (peersOf name).length cp) (us 92) nilV nilV) ?_
        refine D.done (fun us σ3 hle3 hfs => ?_)
        have k3 := hle3
        refine RS.ow ?_
        refine zN ?_; refine mvI ?_; (first | refine addN ?_ | refine addI ?_); refine asI ?_; refine LS.done ?_; refine zN ?_
        have hsu : placesN ns i ++ [placeK i ((i : Int))] = placesN ns (i + 1) := by rw [placesN_succ]; unfold placeAt; rw [← hkk]
        exact ih (i + 1, us 92, _) ⟨by (try dsimp only); omega, PH.le_trans hle k3⟩ (by (try dsimp only); omega) ⟨rfl, trivial⟩ (by repeat (first | with_reducible exact Out.refl _ _ _ | exact Out.hv | refine Out.upd ?_ | refine Out.hvIn ?_)) ⟨fun h => by simp only [← hsu]; exact h⟩ rfl
    · have c := of_decide_eq_false c
      obtain rfl : i = manyN ns := by omega
      have hm8 := manyN_in ns
      refine RS.exit ?_
      refine RS.formD (l := placesN ns (manyN ns)) vq (fun a7 c7 e7 _ => ?_); subst e7
      refine zN ?_
      refine zN ?_; refine ldA [_, _, _, _, _, _, _, _, _, _] ?_; refine st (.agg _) _ ?_; refine LS.done ?_
      refine zN ?_; refine RS.retC (ty := 33) Tryz.func13 [_, _, _, _, _, _, _, _, _, _] fun w hw => ?_
      exact ⟨_, rfl, hw.below, _, rfl, ⟨_, _, _, _, rfl, hkI, hgI, hq.1.mono (hN.le_since (PH.le_trans hτ hle) hw), ⟨hw.rowNewD (l := placesN ns (manyN ns)) (Nat.le_refl _) (by omega), hw.ownNewD (l := placesN ns (manyN ns))⟩, Nat.zero_le _, z, z, RepL.nil _ _ _, RepL.nil _ _ _⟩, _, _, _, _, rfl, hq.2.mono (hN.le_since (PH.le_trans hτ hle) hw), .inl rfl⟩
  · refine RS.condF ?_
    refine zN ?_; refine eqI ?_; refine asB ?_; refine LS.done ?_
    refine zN ?_
    refine RS.condF ?_
    refine zN ?_; refine eqI ?_; refine asB ?_; refine LS.done ?_
    refine zN ?_
    refine RS.condF ?_
    refine zN ?_; refine eqI ?_; refine asB ?_; refine LS.done ?_
    refine zN ?_
    refine RS.condF ?_
    refine zN ?_
    refine zN ?_; refine ldA [_, _, _, _, _, _, _, _, _, _] ?_; refine st (.agg _) _ ?_; refine LS.done ?_
    refine zN ?_; refine RS.retC (ty := 33) Tryz.func13 [_, _, _, _, _, _, _, _, _, _] fun w hw => ?_
    exact ⟨_, rfl, hw.below, _, rfl, ⟨_, _, _, _, rfl, hkI, hgI, RepL.nil _ _ _, RepQ.nil _ _ _, Nat.zero_le _, z, z, RepL.nil _ _ _, RepL.nil _ _ _⟩, _, _, _, _, rfl, .inl rfl, .inl rfl⟩
  · refine RS.condF ?_
    refine zN ?_; refine eqI ?_; refine asB ?_; refine LS.done ?_
    refine zN ?_
    refine RS.condF ?_
    refine zN ?_; refine eqI ?_; refine asB ?_; refine LS.done ?_
    refine zN ?_
    refine RS.condF ?_
    refine zN ?_; refine eqI ?_; refine asB ?_; refine LS.done ?_
    refine zN ?_
    refine RS.condF ?_
    refine zN ?_
    refine zN ?_; refine ldA [_, _, _, _, _, _, _, _, _, _] ?_; refine st (.agg _) _ ?_; refine LS.done ?_
    refine zN ?_; refine RS.retC (ty := 33) Tryz.func13 [_, _, _, _, _, _, _, _, _, _] fun w hw => ?_
    exact ⟨_, rfl, hw.below, _, rfl, ⟨_, _, _, _, rfl, hkI, hgI, RepL.nil _ _ _, RepQ.nil _ _ _, Nat.zero_le _, z, z, RepL.nil _ _ _, RepL.nil _ _ _⟩, _, _, _, _, rfl, .inl rfl, .inl rfl⟩
  · refine RS.condF ?_
    refine zN ?_; refine eqI ?_; refine asB ?_; refine LS.done ?_
    refine zN ?_
    refine RS.condF ?_
    refine zN ?_; refine eqI ?_; refine asB ?_; refine LS.done ?_
    refine zN ?_
    refine RS.condF ?_
    refine zN ?_; refine eqI ?_; refine asB ?_; refine LS.done ?_
    refine zN ?_
    refine RS.condF ?_
    refine zN ?_
    refine zN ?_; refine ldA [_, _, _, _, _, _, _, _, _, _] ?_; refine st (.agg _) _ ?_; refine LS.done ?_
    refine zN ?_; refine RS.retC (ty := 33) Tryz.func13 [_, _, _, _, _, _, _, _, _, _] fun w hw => ?_
    exact ⟨_, rfl, hw.below, _, rfl, ⟨_, _, _, _, rfl, hkI, hgI, RepL.nil _ _ _, RepQ.nil _ _ _, Nat.zero_le _, z, z, RepL.nil _ _ _, RepL.nil _ _ _⟩, _, _, _, _, rfl, .inl rfl, .inl rfl⟩
  · refine RS.condF ?_
    refine zN ?_; refine eqI ?_; refine asB ?_; refine LS.done ?_
    refine zN ?_
    refine RS.condF ?_
    refine zN ?_; refine eqI ?_; refine asB ?_; refine LS.done ?_
    refine zN ?_
    refine RS.condF ?_
    refine zN ?_; refine eqI ?_; refine asB ?_; refine LS.done ?_
    refine zN ?_
    refine RS.condT ?_
    refine zN ?_; refine mvI ?_
    refine callT (fun v τ => RepQ 3 τ v (peersOf name)) (fun v τ1 σ1 hq hN hle hτ => ?_) (fun w _ => peers4_c name w)
    obtain ⟨ap, cp, rfl⟩ := hq.form
    refine fld ?_; refine st (.slice _ _ _) _ ?_; refine LS.done ?_
    refine zN ?_
    refine zN ?_; refine ldA [_, _, _, _, _, _, _, _, _, _] ?_; refine st (.agg _) _ ?_; refine LS.done ?_
    refine zN ?_; refine RS.retC (ty := 33) Tryz.func13 [_, _, _, _, _, _, _, _, _, _] fun w hw => ?_
    exact ⟨_, rfl, hw.below, _, rfl, ⟨_, _, _, _, rfl, hkI, hgI, hq.1.mono (hN.le_since hτ hw), RepQ.nil _ _ _, Nat.zero_le _, z, z, RepL.nil _ _ _, RepL.nil _ _ _⟩, _, _, _, _, rfl, hq.2.mono (hN.le_since hτ hw), .inl rfl⟩
end Go.Proofs.YtealabaiamaojaaGreatDoor
namespace Go.Proofs.YtealabaiamaojaaGreatDoor
open Go.JW Go.RowKit
structure Fm where
  a1 : Option Addr
  a2 : Option Addr
  a3 : Option Addr
  a4 : Option Addr
  c1 : Nat
  c2 : Nat
  c3 : Nat
  c4 : Nat
abbrev rcV (R : RecD) (f : Fm) : List Value := recC R (.slice f.a1 R.peers.length f.c1) (.slice f.a2 R.places.length f.c2) (.slice f.a3 R.node.marks.length f.c3) (.slice f.a4 R.node.taints.length f.c4)
abbrev rcW (b : Nat) (R : RecD) (f : Fm) : HP := rcB b R.kind R.gang (.slice f.a1 R.peers.length f.c1) (.slice f.a2 R.places.length f.c2) R.node.name R.node.cpu R.node.mem (.slice f.a3 R.node.marks.length f.c3) (.slice f.a4 R.node.taints.length f.c4) R.node.closed
theorem rep_form {σ : PH} {cs : List Value} {R : RecD} (h : Rep.rep σ cs R) : ∃ f, cs = rcV R f := by
  obtain ⟨vp, vq, vm, vt, rfl, _, _, hp_, hq, _, _, _, hm, ht⟩ := h
  obtain ⟨a1, c1, rfl⟩ := hp_.form
  obtain ⟨a2, c2, rfl⟩ := hq.form
  obtain ⟨a3, c3, rfl⟩ := hm.form
  obtain ⟨a4, c4, rfl⟩ := ht.form
  exact ⟨⟨a1, a2, a3, a4, c1, c2, c3, c4⟩, rfl⟩
theorem text_small {R : RecD} (h : checkP R = 0) : (textP R).length ≤ 90000 := by have := textP_size h; omega
end Go.Proofs.YtealabaiamaojaaGreatDoor
namespace Go.JW
open Go.Proofs.YtealabaiamaojaaGreatDoor
section
variable {P : Program} {f : FuncId} {R : Ending → World → Prop} {k : List Item} {n : Nat} {fr : Nat → Value} {w0 : World} {M : Nat → Prop} {σ : PH} {Kf : Us → List HP}
variable {H : HS} {O : List (Nat × Obj)} {Kb : List HP} {E : List Nat} {tags : List Tag} {rest : List Oper} {d : Nat} {ty : TypeId} {pos : String} {aft : Array Edge} {x y z : Operand} {t t' : TypeId}
end
end Go.JW
namespace Go.Proofs.YtealabaiamaojaaGreatDoor
open Go.JW Go.RowKit
def TRec (r : RecD) : Value → PH → Prop := fun v σ => ∃ cs, v = .agg (List.toArray cs) ∧ Rep.rep σ cs r
theorem TRec.mono (r : RecD) : MonoT (TRec r) := fun _ _ _ ⟨cs, h1, h2⟩ hs => ⟨cs, h1, Rep.mono h2 hs⟩
theorem ParseA.mono (s : Bs) : MonoT (ParseA s) := fun _ _ _ ⟨cs, h1, h2⟩ hs => ⟨cs, h1, Rep.mono h2 hs⟩
end Go.Proofs.YtealabaiamaojaaGreatDoor
namespace Go.Proofs.YtealabaiamaojaaGreatDoor
open Go.JW Go.RowKit Go.Lib
def enc (rs : List Int) : Bs := rs.flatMap encodeRune
def ok1 (r : Int) : Prop := 0 ≤ r ∧ r < 2048 ∧ r ≠ 10
def Uni (s : Bs) : Prop := ∃ rs, (∀ r ∈ rs, ok1 r) ∧ s = enc rs
theorem uni_nil : Uni [] := ⟨[], by simp, rfl⟩
theorem enc_app (a b : List Int) : enc (a ++ b) = enc a ++ enc b := by simp [enc]
theorem uni_app {a b : Bs} (ha : Uni a) (hb : Uni b) : Uni (a ++ b) := by
  obtain ⟨x, hx, rfl⟩ := ha
  obtain ⟨y, hy, rfl⟩ := hb
  exact ⟨x ++ y, fun r hr => (List.mem_append.1 hr).elim (hx r) (hy r), (enc_app x y).symm⟩
theorem enc_one {r : Int} (h0 : 0 ≤ r) (h1 : r < 128) : encodeRune r = [UInt8.ofNat r.toNat] := by
  unfold encodeRune; rw [encodeRuneZ_one h0 (by omega)]; rfl
theorem enc_two {r : Int} (h0 : 128 ≤ r) (h1 : r < 2048) : encodeRune r = [UInt8.ofNat (192 + r / 64).toNat, UInt8.ofNat (128 + r % 64).toNat] := by
  unfold encodeRune; rw [encodeRuneZ_two h0 (by omega)]; rfl
theorem uni_ascii {l : Bs} (h : ∀ c ∈ l, c.toNat < 128 ∧ c.toNat ≠ 10) : Uni l := by
  refine ⟨l.map fun c => (c.toNat : Int), ?_, ?_⟩
  · intro r hr
    obtain ⟨c, hc, rfl⟩ := List.mem_map.1 hr
    have := h c hc
    exact ⟨by omega, by omega, by omega⟩
  · induction l with
    | nil => rfl
    | cons c l ih =>
      have h1 := h c (by simp)
      have h2 := ih fun d hd => h d (by simp [hd])
      simp only [enc, List.map_cons, List.flatMap_cons] at h2 ⊢
      rw [enc_one (by omega) (by omega), ← h2, Int.toNat_natCast, UInt8.ofNat_toNat]
      rfl
theorem uni_cons {c : UInt8} {l : Bs} (h : c.toNat < 128 ∧ c.toNat ≠ 10) (hl : Uni l) : Uni (c :: l) :=
  uni_app (a := [c]) (uni_ascii (by simp [h])) hl
def rnF : Nat → Bs → List Int
  | 0, _ => []
  | f + 1, l => if l = [] then [] else ((decodeL l).1 : Int) :: rnF f (l.drop (decodeL l).2)
theorem at_rnF (l : Bs) : ∀ (f pos : Nat), (runesAt (B l) f pos).map (·.2) = rnF f (l.drop pos)
  | 0, pos => rfl
  | f + 1, pos => by
    have hd : decodeL (l.drop pos) = Utf8.decode (B l) pos := decodeL_drop (B l) pos
    by_cases h : pos < l.length
    · have hne : l.drop pos ≠ [] := by intro h0; have := congrArg List.length h0; simp at this; omega
      rw [runesAt, if_pos (by rw [B_size]; exact h), rnF, if_neg hne, List.map_cons, at_rnF l f, hd, List.drop_drop]
    · rw [runesAt, if_neg (by rw [B_size]; exact h), rnF, if_pos (List.drop_eq_nil_of_le (by omega))]; rfl
def Rn (l : Bs) : List Int := (runes (B l)).map (·.2)
theorem Rn_F (l : Bs) : Rn l = rnF l.length l := by
  unfold Rn runes
  rw [at_rnF, B_size, List.drop_zero]
theorem dec_enc (r : Int) (t : Bs) (h : 0 ≤ r ∧ r < 2048) : decodeL (encodeRune r ++ t) = (r.toNat, (encodeRune r).length) := by
  by_cases h1 : r < 128
  · rw [enc_one h.1 h1, decodeL_N]
    have : (UInt8.ofNat r.toNat).toNat = r.toNat := by rw [UInt8.toNat_ofNat']; omega
    simp only [List.cons_append, List.nil_append, List.getD_cons_zero, this, List.length_cons, List.length_nil]
    rw [decodeN, if_pos (by omega)]
  · have e1 : (UInt8.ofNat (192 + r / 64).toNat).toNat = (192 + r / 64).toNat := by rw [UInt8.toNat_ofNat']; omega
    have e2 : (UInt8.ofNat (128 + r % 64).toNat).toNat = (128 + r % 64).toNat := by rw [UInt8.toNat_ofNat']; omega
    rw [enc_two (by omega) h.2, decodeL_N]
    simp only [List.cons_append, List.nil_append, List.getD_cons_zero, List.getD_cons_succ, e1, e2, List.length_cons, List.length_nil]
    rw [decodeN, if_neg (by omega), if_pos (by omega), if_pos (by omega)]
    exact Prod.ext (by show _ = r.toNat; omega) rfl
theorem enc_ne (r : Int) (h : 0 ≤ r ∧ r < 2048) : 1 ≤ (encodeRune r).length := by
  by_cases h1 : r < 128
  · rw [enc_one h.1 h1]; exact Nat.le_refl _
  · rw [enc_two (by omega) h.2]; exact Nat.le_succ _
theorem rnF_enc : ∀ (rs : List Int) (f : Nat), (∀ r ∈ rs, 0 ≤ r ∧ r < 2048) → (enc rs).length ≤ f → rnF f (enc rs) = rs
  | [], 0, _, _ => rfl
  | [], f + 1, _, _ => by simp [rnF, enc]
  | r :: rs, f, h, hf => by
    have hr := h r (by simp)
    have hl := enc_ne r hr
    have he : enc (r :: rs) = encodeRune r ++ enc rs := rfl
    have hs := congrArg List.length he
    rw [List.length_append] at hs
    cases f with
    | zero => omega
    | succ f =>
      have hne : encodeRune r ++ enc rs ≠ [] := by intro h0; rw [← he] at h0; rw [h0] at hs; simp only [List.length_nil] at hs; omega
      rw [he, rnF, if_neg hne, dec_enc r _ hr, List.drop_left, rnF_enc rs f (fun x hx => h x (by simp [hx])) (by omega)]
      congr 1
      omega
theorem Rn_enc {rs : List Int} (h : ∀ r ∈ rs, ok1 r) : Rn (enc rs) = rs := by
  rw [Rn_F, rnF_enc _ _ (fun r hr => ⟨(h r hr).1, (h r hr).2.1⟩) (Nat.le_refl _)]
theorem enc_rn : ∀ (f : Nat) (l : Bs), l.length ≤ f → (∀ r ∈ rnF f l, r ≠ 65533) → enc (rnF f l) = l
  | 0, l, hf, _ => by
    have : l = [] := List.length_eq_zero_iff.1 (by omega)
    rw [this]; rfl
  | f + 1, l, hf, h => by
    by_cases hn : l = []
    · rw [hn, rnF, if_pos rfl]; rfl
    · rw [rnF, if_neg hn] at h ⊢
      have h1 := h _ (List.mem_cons_self ..)
      have hw := decodeL_width l
      have h2 := enc_rn f (l.drop (decodeL l).2) (by rw [List.length_drop]; omega) fun r hr => h r (List.mem_cons_of_mem _ hr)
      show encodeRune _ ++ enc _ = l
      rw [h2, encode_decode l hn (by omega), List.take_append_drop]
theorem uni_name {s : ByteArray} (h : isName s = true) : Uni (bs s) := by
  have hn : nameRunes (runes s) = true := by simp only [isName, Bool.and_eq_true] at h; exact h.1
  have hk : ∀ r ∈ Rn (bs s), ok1 r := by
    intro r hr
    unfold Rn at hr
    rw [B_bs] at hr
    obtain ⟨x, hx, rfl⟩ := List.mem_map.1 hr
    simp only [nameRunes, List.all_eq_true] at hn
    have := hn x hx
    simp [isLetter, isDigit] at this
    unfold ok1
    omega
  refine ⟨Rn (bs s), hk, ?_⟩
  rw [Rn_F] at hk ⊢
  exact (enc_rn _ _ (Nat.le_refl _) fun r hr => by have := hk r hr; unfold ok1 at this; omega).symm
theorem uni_digF : ∀ (f n : Nat), Uni (digF f n)
  | 0, _ => uni_nil
  | f + 1, n => by
    have h1 : ∀ d, d < 10 → Uni [UInt8.ofNat (48 + d)] := fun d hd => uni_ascii (by intro c hc; rw [List.mem_singleton] at hc; rw [hc, dig_nat hd]; omega)
    unfold digF
    split
    · exact h1 n (by omega)
    · exact uni_app (uni_digF f _) (h1 _ (by omega))
theorem uni_dig (n : Nat) : Uni (digN n) := uni_digF 20 n
theorem uni_vec (c m : Int) : Uni (vecT c m) := uni_app (uni_dig _) (uni_cons (by decide) (uni_dig _))
theorem uni_flag (b : Bool) : Uni (flagT b) := by cases b <;> exact uni_ascii (by decide)
theorem uni_signed (c : UInt8) (hc : c.toNat < 128 ∧ c.toNat ≠ 10) : ∀ l : List Bs, (∀ x ∈ l, Uni x) → Uni (signedT c l)
  | [], _ => uni_nil
  | x :: l, h => uni_cons hc (uni_app (h x (by simp)) (uni_signed c hc l fun y hy => h y (by simp [hy])))
theorem uni_comma : ∀ l : List Int, Uni (commaT l)
  | [] => uni_nil
  | _ :: l => uni_cons (by decide) (uni_app (uni_dig _) (uni_comma l))
theorem uni_peers : ∀ l : List Int, Uni (peersT l)
  | [] => uni_nil
  | _ :: l => uni_app (uni_dig _) (uni_comma l)
theorem uni_join : ∀ l : List Bs, (∀ x ∈ l, Uni x) → Uni (joinB l)
  | [], _ => uni_nil
  | [w], h => h w (by simp)
  | w :: v :: ws, h => uni_app (h w (by simp)) (uni_cons (by decide) (uni_join (v :: ws) fun x hx => h x (List.mem_cons_of_mem _ hx)))
theorem uni_place {p : PlaceD} (h : placeE p = 0) : Uni (placeT p) := by
  have : isName p.pod = true ∧ isName p.node = true := by
    unfold placeE at h
    by_cases h1 : isName p.pod = false ∨ isName p.node = false
    · rw [if_pos h1] at h; omega
    · simp at h1; exact h1
  exact uni_app (uni_app (uni_app (uni_name this.1) (uni_cons (by decide) (uni_name this.2))) (uni_cons (by decide) (uni_vec _ _))) (uni_flag _)
theorem uni_set {l : List ByteArray} (h : isSet l = true) : ∀ x ∈ l.map bs, Uni x := by
  simp only [isSet, Bool.and_eq_true, setTo, List.all_eq_true, List.mem_range] at h
  intro x hx
  obtain ⟨y, hy, rfl⟩ := List.mem_map.1 hx
  obtain ⟨i, hi, rfl⟩ := List.mem_iff_getElem.1 hy
  have := h.1 i hi
  simp only [setAtI, Bool.and_eq_true] at this
  have h2 := this.1
  rw [show l.getD i ⟨#[]⟩ = l[i] by simp [List.getD_eq_getElem?_getD, hi]] at h2
  exact uni_name h2
theorem uni_node {n : NodeD} (h : nodeErr n = 0) : Uni (nodeT n) := by
  unfold nodeErr at h
  cases e1 : isName n.name with
  | false => rw [e1, if_pos rfl] at h; cases h
  | true =>
    rw [e1, if_neg (by simp)] at h
    cases e2 : sizeOk n.cpu n.mem with
    | false => rw [e2, if_pos rfl] at h; cases h
    | true =>
      rw [e2, if_neg (by simp)] at h
      cases e3 : (!isSet n.marks || !isSet n.taints) with
      | true => rw [e3, if_pos rfl] at h; cases h
      | false =>
        simp only [Bool.or_eq_false_iff, Bool.not_eq_false'] at e3
        exact uni_app (uni_app (uni_app (uni_app (uni_name e1) (uni_cons (by decide) (uni_vec _ _))) (uni_signed 43 (by decide) _ (uni_set e3.1))) (uni_signed 126 (by decide) _ (uni_set e3.2))) (uni_flag _)
theorem uni_places {l : List PlaceD} (h : placesE l = 0) : ∀ p ∈ l, placeE p = 0 := by
  unfold placesE at h
  by_cases h1 : l.length < 1 ∨ 8 < l.length
  · rw [if_pos h1] at h; cases h
  · rw [if_neg h1] at h
    by_cases h2 : placesBad l ≠ 0
    · rw [if_pos h2] at h; exact absurd h h2
    · exact placesBad_zero.1 (by simpa using h2)
theorem uni_verb (k : Int) : Uni (verbT k) := by
  unfold verbT
  repeat' split
  all_goals exact uni_ascii (by decide)
theorem uni_text {r : RecD} (h : checkP r = 0) : Uni (textP r) := by
  unfold textP
  refine uni_join _ ?_
  cases okr_of h with
  | node n hn => 
    intro x hx
    simp [textW] at hx
    rcases hx with rfl | rfl
    · exact uni_verb 1
    · exact uni_node hn
  | gone nm hn =>
    intro x hx
    simp [textW] at hx
    rcases hx with rfl | rfl
    · exact uni_verb 2
    · exact uni_name hn
  | prep g p l hg hp hl =>
    intro x hx
    simp [textW, peeredP] at hx
    rcases hx with rfl | rfl | rfl | ⟨a, ha, rfl⟩
    · exact uni_verb 3
    · exact uni_dig _
    · exact uni_peers _
    · exact uni_place (uni_places hl a ha)
  | gang g p hg hp =>
    intro x hx
    simp [textW, peeredP] at hx
    rcases hx with rfl | rfl | rfl
    · exact uni_verb 7
    · exact uni_dig _
    · exact uni_peers _
  | plain k g hk hg =>
    intro x hx
    have h1 : k ≠ 1 ∧ k ≠ 2 ∧ k ≠ 3 ∧ k ≠ 7 := by omega
    simp [textW, peeredP, h1] at hx
    rcases hx with rfl | rfl
    · exact uni_verb _
    · exact uni_dig _
theorem runes_back {l : Bs} (h : Uni l) : runesBytes (Rn l) = B l := by
  obtain ⟨rs, hk, rfl⟩ := h
  rw [Rn_enc hk]
  have hstep : ∀ r, ok1 r → Utf8.encode r = B (encodeRune r) := by
    intro r hr
    unfold ok1 at hr
    by_cases h1 : r < 128
    · rw [enc_one hr.1 h1]
      have hv : Utf8.valid r = true := by simp [Utf8.valid]; omega
      simp only [Utf8.encode, hv, if_true]
      rw [if_pos (by omega)]; rfl
    · rw [enc_two (by omega) hr.2.1]
      have hv : Utf8.valid r = true := by simp [Utf8.valid]; omega
      simp only [Utf8.encode, hv, if_true]
      rw [if_neg (by omega), if_pos (by omega), show (192 + r / 64).toNat = 192 + r.toNat / 64 by omega, show (128 + r % 64).toNat = 128 + r.toNat % 64 by omega]
      rfl
  have : ∀ (l : List Int) (s : Bs), (∀ r ∈ l, ok1 r) → l.foldl (fun r n => r ++ Utf8.encode n) (B s) = B (s ++ enc l) := by
    intro l
    induction l with
    | nil => intro s _; simp [enc]
    | cons r l ih =>
      intro s h
      rw [List.foldl_cons, hstep r (h r (by simp)), ← B_app, ih _ fun x hx => h x (by simp [hx]), List.append_assoc]
      rfl
  exact this rs [] hk
theorem runes_no {l : Bs} (h : Uni l) : ∀ r ∈ Rn l, 0 ≤ r ∧ r < 2048 ∧ r ≠ 10 := by
  obtain ⟨rs, hk, rfl⟩ := h
  rw [Rn_enc hk]
  exact hk
theorem Rn_le (l : Bs) : (Rn l).length ≤ l.length := by
  unfold Rn
  rw [List.length_map]
  have := runes_le (B l)
  rwa [B_size] at this
def lineR (l : Bs) : List Int := Rn l ++ [10]
def tapeR (L : List Bs) : List Int := L.flatMap lineR
def Unis (L : List Bs) : Prop := ∀ l ∈ L, Uni l
theorem tapeR_app (a b : List Bs) : tapeR (a ++ b) = tapeR a ++ tapeR b := by simp [tapeR]
theorem tapeR_one (l : Bs) : tapeR [l] = lineR l := by simp [tapeR]
theorem idx_line {l : Bs} (h : Uni l) (rest : List Int) : (lineR l ++ rest).idxOf 10 = (Rn l).length := by
  have h1 := runes_no h
  have : (10 : Int) ∉ Rn l := fun hm => (h1 _ hm).2.2 rfl
  unfold lineR
  rw [List.append_assoc, List.idxOf_append, if_neg this]
  simp
theorem tape_cons {L : List Bs} {j : Nat} (h : j < L.length) : tapeR (L.drop j) = lineR L[j] ++ tapeR (L.drop (j + 1)) := by
  rw [List.drop_eq_getElem_cons h]; rfl
theorem tape_idx {L : List Bs} {j : Nat} (hu : Unis L) (h : j < L.length) : (tapeR (L.drop j)).idxOf 10 = (Rn L[j]).length := by
  rw [tape_cons h, idx_line (hu _ (List.getElem_mem h))]
theorem tape_mem {L : List Bs} {j : Nat} (h : j < L.length) : (10 : Int) ∈ tapeR (L.drop j) := by
  rw [tape_cons h]; simp [lineR]
theorem tape_len {L : List Bs} (h : ∀ l ∈ L, l.length ≤ 5000) : (tapeR L).length ≤ 5001 * L.length := by
  induction L with
  | nil => simp [tapeR]
  | cons l L ih =>
    have h1 := ih fun x hx => h x (List.mem_cons_of_mem _ hx)
    have h2 := h l (List.mem_cons_self ..)
    have h3 := Rn_le l
    have e : tapeR (l :: L) = lineR l ++ tapeR L := rfl
    rw [e, List.length_append, List.length_cons]
    simp only [lineR, List.length_append, List.length_cons, List.length_nil]
    omega
def linesP (rs : List RecD) : List Bs := rs.map textP
def Oks (rs : List RecD) : Prop := ∀ r ∈ rs, checkP r = 0
theorem lines_uni {rs : List RecD} (h : Oks rs) : Unis (linesP rs) := by
  intro l hl
  obtain ⟨r, hr, rfl⟩ := List.mem_map.1 hl
  exact uni_text (h r hr)
end Go.Proofs.YtealabaiamaojaaGreatDoor
namespace Go.JW
open Go.Proofs.YtealabaiamaojaaGreatDoor
structure Ru where
  n : Int
instance : Rep Ru where
  sz := 1
  rep _ cs x := cs = [.int .i32 x.n]
  len h := by rw [h]; rfl
  one h := by rw [h]; rfl
  mono h _ := h
def rus (l : List Int) : List Ru := l.map Ru.mk
theorem rus_len (l : List Int) : (rus l).length = l.length := by simp [rus]
theorem rus_app (a b : List Int) : rus (a ++ b) = rus a ++ rus b := by simp [rus]
theorem RowAt.ru {σ : PH} {b o : Nat} {l : List Int} (h : RowAt σ b o (rus l)) (i : Nat) (hi : i < l.length) : σ.cell b (o + i) = some (.int .i32 (l.getD i 0)) := by
  obtain ⟨cs, hc, hr⟩ := h i (by rw [rus_len]; exact hi)
  have hr : cs = [.int .i32 ((rus l)[i]'(by rw [rus_len]; exact hi)).n] := hr
  have := hc 0 (by exact Nat.zero_lt_one)
  subst hr
  have e : Rep.sz Ru = 1 := rfl
  rw [e, Nat.mul_one, Nat.add_zero] at this
  rw [this]
  simp [rus, List.getD, hi]
theorem runesFrom_at (s : ByteArray) : ∀ (f i : Nat) (acc : Array Value), Conv.runesFrom s f i acc = acc ++ (((runesAt s f i).map (·.2)).map (Value.int .i32)).toArray
  | 0, _, acc => by simp [Conv.runesFrom, runesAt]
  | f + 1, i, acc => by
    unfold Conv.runesFrom
    rw [runesAt]
    split
    · show Conv.runesFrom s f (i + (Utf8.decode s i).2) (acc.push (.int .i32 (Int.ofNat (Utf8.decode s i).1))) = _
      rw [runesFrom_at s f]
      simp
    · simp
theorem runesFrom_Rn (u : Bs) : Conv.runesFrom (B u) (B u).size 0 #[] = ((Rn u).map (Value.int .i32)).toArray := by
  rw [runesFrom_at]; simp [Rn, runes]
theorem s2r_run {P : Program} {t t' e : TypeId} (u : Bs) (w : World) [hs : TStr P t] [ht : TSlice P t' e] [he : TInt P e .i32] (hu : u.length ≤ 70368744177664) :
    ∃ v w', (convert t t' (.string (B u))).run P w = .ok v w' ∧ RowKit.Below w.heap.size w w' ∧ RepL (since w w') v (rus (Rn u)) := by
  have hle := Rn_le u
  have hz : (Conv.runesFrom (B u) (B u).size 0 #[]).size = (Rn u).length := by rw [runesFrom_Rn]; simp
  have h := run_runes_of_string (P := P) w t t' e (B u) hs.eq ht.eq he.eq (by rw [hz]; omega)
  rw [hz, runesFrom_Rn] at h
  have hge := grownCap_ge w (Rn u).length 0 e
  refine ⟨_, _, h, ⟨rfl, rfl, rfl, by show w.heap.size ≤ (w.heap.push _).size; simp, fun k hk => by show (w.heap.push _)[k]? = _; simp [Array.getElem?_push, Nat.ne_of_lt hk]⟩, by rw [rus_len]; omega, _, _, by rw [rus_len], by rw [rus_len]; exact hge, fun _ => ⟨_, 0, rfl, fun i hi => ⟨[.int .i32 (rus (Rn u))[i].n], fun j hj => ?_, rfl⟩⟩⟩
  have hj : j = 0 := by have : j < 1 := hj; omega
  subst hj
  unfold PH.cell since
  rw [if_pos (Nat.le_refl _)]
  have e0 : (w.drew.alloc (.cells (((Rn u).map (Value.int .i32)).toArray ++ Array.replicate (grownCap w (Rn u).length 0 e - (Rn u).length) (.int .i32 0)) e)).heap[w.heap.size]? = some (.cells (((Rn u).map (Value.int .i32)).toArray ++ Array.replicate (grownCap w (Rn u).length 0 e - (Rn u).length) (.int .i32 0)) e) := by
    show (w.heap.push _)[w.heap.size]? = _
    simp
  rw [e0]
  have hi' : i < (Rn u).length := by rwa [rus_len] at hi
  show (((Rn u).map (Value.int .i32)).toArray ++ Array.replicate _ _)[0 + i * 1 + 0]? = _
  rw [Nat.mul_one, Nat.zero_add, Nat.add_zero, Array.getElem?_append_left (by simpa using hi')]
  simp [hi', rus]
theorem r2s_run {P : Program} {t t' e : TypeId} {l : List Int} {v : Value} (w : World) (h : RepL (hp w) v (rus l)) [ht : TSlice P t e] [he : TInt P e .i32] [hd : TStr P t'] :
    (convert t t' v).run P w = .ok (.string (runesBytes l)) w := by
  obtain ⟨a, cap, rfl⟩ := h.form
  cases hn : l with
  | nil =>
    subst hn
    cases a with
    | none => exact run_convert_runes_nil w t t' e _ _ ht.eq he.eq hd.eq
    | some a => exact run_convert_runes w t t' e a 0 cap [] (Nat.le_refl _) ht.eq he.eq hd.eq (fun j hj => absurd hj (Nat.not_lt_zero _))
  | cons y ys =>
    rw [← hn]
    obtain ⟨b, o, rfl, hr⟩ := h.addr (by simp [hn, rus])
    have := run_convert_runes (P := P) w t t' e ⟨b, o, none⟩ (rus l).length cap l (by rw [rus_len]; exact Nat.le_refl _) ht.eq he.eq hd.eq (fun j hj => by
      have := hr.ru j hj
      rw [PH.cell_world] at this
      rw [add_off]
      exact this)
    rw [this, rus_len, List.take_length]
section
variable {P : Program} {q : Bool} {ops : Array Oper} {f : FuncId} {R : Ending → World → Prop} {k : List Item} {n : Nat} {fr : Nat → Value} {w0 : World} {M : Nat → Prop} {σ : PH} {K K' : List HP}
variable {rest : List Oper} {d : Nat} {ty : TypeId} {pos : String} {aft : Array Edge} {x y z : Operand} {t t' e : TypeId}
theorem r2s {v : Value} (l : List Int) [ht : TSlice P t e] [he : TInt P e .i32] [hd : TStr P t'] (hr : RepL σ v (rus l)) (h : LS P q ops f R k rest n (upd fr d (.string (runesBytes l))) w0 M σ K)
    (hx : ev n fr x = v := by rfl) : LS P q ops f R k (⟨some d, .convert t t' x, ty, pos, aft, none⟩ :: rest) n fr w0 M σ K :=
  LS.val rfl rfl (fun w hw => by
    simp only [execOp, hx]
    rw [Sem.run_bind, r2s_run w (hr.mono hw.imm)]
    rfl) h
end
section
variable {P : Program} {f : FuncId} {R : Ending → World → Prop} {k : List Item} {n : Nat} {fr : Nat → Value} {w0 : World} {M : Nat → Prop} {σ : PH} {Kf : Us → List HP}
variable {H : HS} {O : List (Nat × Obj)} {Kb Kb' : List HP} {E : List Nat} {tags : List Tag} {rest : List Oper} {d : Nat} {ty : TypeId} {pos : String} {aft : Array Edge} {x y z : Operand} {t t' e : TypeId}
theorem D.s2r (u : Bs) [hs : TStr P t] [ht : TSlice P t' e] [he : TInt P e .i32] (h : LD P f R k n w0 M σ Kb rest tags ⟨fr, (d, fun v σ => RepL σ v (rus (Rn u))) :: H, O, Kf, E, false⟩)
    (hx : ∀ us, ev n (fill fr H us) x = .string (B u) := by intro _; rfl) (hu : u.length ≤ 70368744177664 := by omega) :
    LD P f R k n w0 M σ Kb (⟨some d, .convert t t' x, ty, pos, aft, none⟩ :: rest) (.ex :: tags) ⟨fr, H, O, Kf, E, false⟩ :=
  D.gr (fun v σ => RepL σ v (rus (Rn u))) (fun _ _ _ h hs => h.mono hs) h fun us σ' w hle hfs hw => by
    obtain ⟨v, w', h1, h2, h3⟩ := s2r_run (P := P) (t := t) (t' := t') u w hu
    exact .inl ⟨v, w', by simp only [execOp, hx us]; rw [Sem.run_bind, h1]; rfl, h2, h3.mono (since_le _ _ _)⟩
theorem D.r2s {v : Us → Value} (l : List Int) [ht : TSlice P t e] [he : TInt P e .i32] [hd : TStr P t'] (h : LD P f R k n w0 M σ Kb rest tags ⟨upd fr d (.string (runesBytes l)), H, O, Kf, E, false⟩)
    (hr : ∀ us σ', PH.le σ σ' → Facts H (readsTmp ⟨some d, .convert t t' x, ty, pos, aft, none⟩) us σ' → RepL σ' (v us) (rus l)) (hx : ∀ us, ev n (fill fr H us) x = v us := by intro _; rfl) :
    LD P f R k n w0 M σ Kb (⟨some d, .convert t t' x, ty, pos, aft, none⟩ :: rest) (.ex :: tags) ⟨fr, H, O, Kf, E, false⟩ :=
  D.ex h fun us σ' w hle hfs hw => by
    simp only [execOp, hx us]
    rw [Sem.run_bind, r2s_run w ((hr us σ' hle hfs).mono hw.imm)]
    rfl
end
class TCon (P : Program) (t : TypeId) : Prop where
  eq : ∃ u, P.underlying t = some u ∧ (match u with | .interface _ => False | _ => True)
theorem run_mkC {P : Program} {t : TypeId} [h : TCon P t] (v : Value) (w : World) : (Instr.makeInterface t v).run P w = .ok (.iface t v) w := by
  obtain ⟨u, h1, h2⟩ := h.eq
  cases u <;> first | exact h2.elim | simp [Instr.makeInterface, run_underlying h1]
theorem run_asY {P : Program} {t t' : TypeId} [h : TCon P t] (v : Value) (w : World) : (Instr.typeAssert (.iface t v) t' t true).run P w = .ok (.tuple #[v, .bool true]) w := by
  obtain ⟨u, h1, h2⟩ := h.eq
  cases u <;> first | exact h2.elim | simp [Instr.typeAssert, run_underlying h1]
section
variable {P : Program} {q : Bool} {ops : Array Oper} {f : FuncId} {R : Ending → World → Prop} {k : List Item} {n : Nat} {fr : Nat → Value} {w0 : World} {M : Nat → Prop} {σ : PH} {K K' : List HP}
variable {rest : List Oper} {d : Nat} {ty : TypeId} {pos : String} {aft : Array Edge} {x y z : Operand} {t t' t2 : TypeId}
theorem mkC (v : Value) [ht : TCon P t] (h : LS P q ops f R k rest n (upd fr d (.iface t v)) w0 M σ K) (hx : ev n fr x = v := by rfl) :
    LS P q ops f R k (⟨some d, .makeInterface t x, ty, pos, aft, none⟩ :: rest) n fr w0 M σ K :=
  LS.val rfl rfl (fun w _ => by simp [execOp, hx, run_mkC]) h
theorem asY (v : Value) [ht : TCon P t] (h : LS P q ops f R k rest n (upd fr d (.tuple #[v, .bool true])) w0 M σ K) (hx : ev n fr x = .iface t v := by rfl) :
    LS P q ops f R k (⟨some d, .typeAssert x t' t true, ty, pos, aft, none⟩ :: rest) n fr w0 M σ K :=
  LS.val rfl rfl (fun w _ => by simp [execOp, hx, run_asY]) h
theorem mkD0 {α : Type} [Rep α] (N : Nat) {e by_ s m : Nat} {zs : List Value} [ht : TSlice P t e] [hs : TSz P e s] [hby : TBytes P e by_] [hz : TZero P e zs]
    (h : ∀ v, LS P false ops f R k rest n (upd fr d v) w0 M σ (rowD N e v ([] : List α) :: K)) (hx : ev n fr x = .int .i64 0 := by rfl) (hy : ev n fr y = .int .i64 (m : Int) := by rfl)
    (hb : by_ * m ≤ 281474976710656 := by omega) (hm : m ≤ 9223372036854775807 := by omega) (hss : s = Rep.sz α := by rfl) :
    LS P false ops f R k (⟨some d, .makeSlice t x y, ty, pos, aft, none⟩ :: rest) n fr w0 M σ K :=
  LS.valW rfl rfl fun w hw => by
    have hbe := hby.eq
    have hse := hs.eq
    have hze := hz.eq
    unfold zeroOf at hze
    unfold szOf at hse
    cases hi : P.info? e with
    | none => simp [hi] at hse
    | some i =>
      cases hzz : i.zero with
      | none => simp [hi, hzz] at hze
      | some z' =>
        simp [hi] at hse hbe
        have hbm : (i.bytes : Int) * (m : Int) ≤ 281474976710656 := by
          have : ((i.bytes * m : Nat) : Int) ≤ 281474976710656 := by rw [hbe]; omega
          rwa [Int.natCast_mul] at this
        have := run_make (P := P) w t e i z' ht.eq hi hzz .i64 .i64 0 m (by omega) (by omega) hbm (by omega)
        simp only [Int.toNat_natCast, hse] at this
        have hA := hw.alloc (.cells (madeCells z'.cells (m * s)) e (0, 0))
        refine ⟨.slice (some ⟨w.heap.size, 0, none⟩) 0 m, w.alloc (.cells (madeCells z'.cells (m * s)) e (0, 0)), σ, rowD N e (.slice (some ⟨w.heap.size, 0, none⟩) 0 m) ([] : List α) :: K, by simp only [execOp, hx, hy]; simp [this], hA.weak fun F hF => ?_, h _⟩
        obtain ⟨F1, ⟨g1, g2⟩, g3, g4⟩ := hF
        have g2' : (hp (w.alloc (.cells (madeCells z'.cells (m * s)) e (0, 0)))) w.heap.size = some (.cells (madeCells z'.cells (m * s)) e (0, 0)) := g2
        exact ⟨F1, ⟨[], rfl, by simp, rfl, _, m, rfl, Nat.zero_le _, hm, .inr ⟨w.heap.size, (madeCells z'.cells (m * s)).toList, rfl, g1, by simpa using g2', by subst hss; simp [madeCells], by simp⟩⟩, g3, g4⟩
theorem insNil {α : Type} [Rep α] {N : Nat} {g : VH} {e : Nat} {K : List HP} {F : Nat → Prop} (h : SepIn g K F) {a : Option Addr} : SepIn g (rowD N e (.slice a 0 0) ([] : List α) :: K) F :=
  ⟨fun _ => False, ⟨[], rfl, by simp, rfl, a, 0, rfl, by simp, by simp, .inl ⟨rfl, rfl⟩⟩, fun _ h => h.elim, h.mono fun _ hb => ⟨hb, fun h => h⟩⟩
end
section
variable {P : Program} {q : Bool} {ops : Array Oper} {f : FuncId} {R : Ending → World → Prop} {k : List Item} {n : Nat} {fr : Nat → Value} {w0 : World} {M : Nat → Prop} {σ : PH} {K : List HP}
variable {rest : List Oper} {d : Nat} {ty : TypeId} {pos : String} {aft : Array Edge} {x y : Operand} {t t' e : TypeId} {p : Option Addr}
theorem pointee_of (ht : P.underlying t = some (.pointer e)) : P.underlying t = some (.pointer (P.pointee t)) := by
  have : P.pointee t = e := by simp [Program.pointee, ht]
  rw [this]; exact ht
theorem bin_eql_P [ht : TPtr P t e] (h : LS P q ops f R k rest n (upd fr d (.bool p.isNone)) w0 M σ K) (hx : ev n fr x = .pointer p := by rfl) (hy : ev n fr y = .pointer none := by rfl) :
    LS P q ops f R k (⟨some d, .binOp .eql t x y t', ty, pos, aft, none⟩ :: rest) n fr w0 M σ K :=
  LS.val rfl rfl (fun w _ => by
    have e : (Op.equal t (.pointer p) (.pointer none)).run P w = .ok p.isNone w := run_equal_pointer_nil w t p (pointee_of ht.eq)
    simp only [execOp, hx, hy, eqGuard, Sem.run_bind]
    simp [binOp, e]) h
end
end Go.JW
namespace Go.Proofs.YtealabaiamaojaaGreatDoor
open Go.JW
instance : TZv Tryz.prog 2 (.int .i64 0) := ⟨by kernel_rfl⟩
instance : TZv Tryz.prog 3 (.int .i64 0) := ⟨by kernel_rfl⟩
instance : TZv Tryz.prog 4 (.bool false) := ⟨by kernel_rfl⟩
instance : TZv Tryz.prog 5 (.int .u8 0) := ⟨by kernel_rfl⟩
instance : TZv Tryz.prog 7 (.agg (List.toArray [.int .i64 0, .int .i64 0, .bool false, .int .u8 0])) := ⟨by kernel_rfl⟩
instance : TFldV Tryz.prog 7 0 0 := ⟨by kernel_rfl⟩
instance : TFldV Tryz.prog 7 1 1 := ⟨by kernel_rfl⟩
instance : TFldV Tryz.prog 7 2 2 := ⟨by kernel_rfl⟩
instance : TFldV Tryz.prog 7 3 3 := ⟨by kernel_rfl⟩
instance : TZv Tryz.prog 9 (.string ⟨#[]⟩) := ⟨by kernel_rfl⟩
instance : TZv Tryz.prog 12 (.int .u64 0) := ⟨by kernel_rfl⟩
instance : TZv Tryz.prog 13 (.agg (List.toArray [.string ⟨#[]⟩, .int .u64 0])) := ⟨by kernel_rfl⟩
instance : TFldV Tryz.prog 13 0 0 := ⟨by kernel_rfl⟩
instance : TFldV Tryz.prog 13 1 1 := ⟨by kernel_rfl⟩
instance : TZv Tryz.prog 15 (.pointer none) := ⟨by kernel_rfl⟩
instance : TZv Tryz.prog 16 (.pointer none) := ⟨by kernel_rfl⟩
instance : TZv Tryz.prog 17 (.pointer none) := ⟨by kernel_rfl⟩
instance : TZv Tryz.prog 18 (.agg (List.toArray [.pointer none])) := ⟨by kernel_rfl⟩
instance : TFldV Tryz.prog 18 0 0 := ⟨by kernel_rfl⟩
instance : TZv Tryz.prog 21 (.int .i32 0) := ⟨by kernel_rfl⟩
instance : TZv Tryz.prog 22 (.slice none 0 0) := ⟨by kernel_rfl⟩
instance : TZv Tryz.prog 24 (.pointer none) := ⟨by kernel_rfl⟩
instance : TZv Tryz.prog 26 (.slice none 0 0) := ⟨by kernel_rfl⟩
instance : TZv Tryz.prog 27 (.agg (List.toArray [.int .i64 0, .int .i64 0])) := ⟨by kernel_rfl⟩
instance : TFldV Tryz.prog 27 0 0 := ⟨by kernel_rfl⟩
instance : TFldV Tryz.prog 27 1 1 := ⟨by kernel_rfl⟩
instance : TZv Tryz.prog 28 (.agg (List.toArray [.int .i64 0, .int .i64 0])) := ⟨by kernel_rfl⟩
instance : TFldV Tryz.prog 28 0 0 := ⟨by kernel_rfl⟩
instance : TFldV Tryz.prog 28 1 1 := ⟨by kernel_rfl⟩
instance : TZv Tryz.prog 29 (.slice none 0 0) := ⟨by kernel_rfl⟩
instance : TZv Tryz.prog 30 (.agg (List.toArray [.string ⟨#[]⟩, .int .i64 0, .int .i64 0, .slice none 0 0, .slice none 0 0, .bool false])) := ⟨by kernel_rfl⟩
instance : TFldV Tryz.prog 30 0 0 := ⟨by kernel_rfl⟩
instance : TFldA Tryz.prog 30 1 1 2 := ⟨by kernel_rfl⟩
instance : TFldV Tryz.prog 30 2 3 := ⟨by kernel_rfl⟩
instance : TFldV Tryz.prog 30 3 4 := ⟨by kernel_rfl⟩
instance : TFldV Tryz.prog 30 4 5 := ⟨by kernel_rfl⟩
instance : TZv Tryz.prog 31 (.agg (List.toArray [.string ⟨#[]⟩, .int .i64 0, .int .i64 0, .slice none 0 0, .slice none 0 0, .bool false])) := ⟨by kernel_rfl⟩
instance : TFldV Tryz.prog 31 0 0 := ⟨by kernel_rfl⟩
instance : TFldA Tryz.prog 31 1 1 2 := ⟨by kernel_rfl⟩
instance : TFldV Tryz.prog 31 2 3 := ⟨by kernel_rfl⟩
instance : TFldV Tryz.prog 31 3 4 := ⟨by kernel_rfl⟩
instance : TFldV Tryz.prog 31 4 5 := ⟨by kernel_rfl⟩
instance : TZv Tryz.prog 32 (.agg (List.toArray [.int .i64 0, .int .i64 0, .slice none 0 0, .slice none 0 0, .string ⟨#[]⟩, .int .i64 0, .int .i64 0, .slice none 0 0, .slice none 0 0, .bool false])) := ⟨by kernel_rfl⟩
instance : TFldV Tryz.prog 32 0 0 := ⟨by kernel_rfl⟩
instance : TFldV Tryz.prog 32 1 1 := ⟨by kernel_rfl⟩
instance : TFldV Tryz.prog 32 2 2 := ⟨by kernel_rfl⟩
instance : TFldV Tryz.prog 32 3 3 := ⟨by kernel_rfl⟩
instance : TFldA Tryz.prog 32 4 4 6 := ⟨by kernel_rfl⟩
instance : TZv Tryz.prog 33 (.agg (List.toArray [.int .i64 0, .int .i64 0, .slice none 0 0, .slice none 0 0, .string ⟨#[]⟩, .int .i64 0, .int .i64 0, .slice none 0 0, .slice none 0 0, .bool false])) := ⟨by kernel_rfl⟩
instance : TFldV Tryz.prog 33 0 0 := ⟨by kernel_rfl⟩
instance : TFldV Tryz.prog 33 1 1 := ⟨by kernel_rfl⟩
instance : TFldV Tryz.prog 33 2 2 := ⟨by kernel_rfl⟩
instance : TFldV Tryz.prog 33 3 3 := ⟨by kernel_rfl⟩
instance : TFldA Tryz.prog 33 4 4 6 := ⟨by kernel_rfl⟩
instance : TZv Tryz.prog 36 (.agg (List.toArray [.string ⟨#[]⟩, .string ⟨#[]⟩, .int .i64 0, .int .i64 0, .bool false])) := ⟨by kernel_rfl⟩
instance : TFldV Tryz.prog 36 0 0 := ⟨by kernel_rfl⟩
instance : TFldV Tryz.prog 36 1 1 := ⟨by kernel_rfl⟩
instance : TFldA Tryz.prog 36 2 2 2 := ⟨by kernel_rfl⟩
instance : TFldV Tryz.prog 36 3 4 := ⟨by kernel_rfl⟩
instance : TZv Tryz.prog 37 (.agg (List.toArray [.string ⟨#[]⟩, .string ⟨#[]⟩, .int .i64 0, .int .i64 0, .bool false])) := ⟨by kernel_rfl⟩
instance : TFldV Tryz.prog 37 0 0 := ⟨by kernel_rfl⟩
instance : TFldV Tryz.prog 37 1 1 := ⟨by kernel_rfl⟩
instance : TFldA Tryz.prog 37 2 2 2 := ⟨by kernel_rfl⟩
instance : TFldV Tryz.prog 37 3 4 := ⟨by kernel_rfl⟩
instance : TZv Tryz.prog 38 (.slice none 0 0) := ⟨by kernel_rfl⟩
instance : TZv Tryz.prog 44 (.slice none 0 0) := ⟨by kernel_rfl⟩
instance : TZv Tryz.prog 45 (.agg (List.toArray [.int .i64 0, .int .i64 0, .slice none 0 0])) := ⟨by kernel_rfl⟩
instance : TFldV Tryz.prog 45 0 0 := ⟨by kernel_rfl⟩
instance : TFldV Tryz.prog 45 1 1 := ⟨by kernel_rfl⟩
instance : TFldV Tryz.prog 45 2 2 := ⟨by kernel_rfl⟩
instance : TZv Tryz.prog 46 (.agg (List.toArray [.int .i64 0, .int .i64 0, .slice none 0 0])) := ⟨by kernel_rfl⟩
instance : TFldV Tryz.prog 46 0 0 := ⟨by kernel_rfl⟩
instance : TFldV Tryz.prog 46 1 1 := ⟨by kernel_rfl⟩
instance : TFldV Tryz.prog 46 2 2 := ⟨by kernel_rfl⟩
instance : TZv Tryz.prog 56 (.pointer none) := ⟨by kernel_rfl⟩
instance : TZv Tryz.prog 57 (.agg (List.toArray [.slice none 0 0, .int .i64 0])) := ⟨by kernel_rfl⟩
instance : TFldV Tryz.prog 57 0 0 := ⟨by kernel_rfl⟩
instance : TFldV Tryz.prog 57 1 1 := ⟨by kernel_rfl⟩
instance : TZv Tryz.prog 58 (.agg (List.toArray [.slice none 0 0, .int .i64 0])) := ⟨by kernel_rfl⟩
instance : TFldV Tryz.prog 58 0 0 := ⟨by kernel_rfl⟩
instance : TFldV Tryz.prog 58 1 1 := ⟨by kernel_rfl⟩
instance : TZv Tryz.prog 63 (.slice none 0 0) := ⟨by kernel_rfl⟩
instance : TZv Tryz.prog 65 (.slice none 0 0) := ⟨by kernel_rfl⟩
instance : TZv Tryz.prog 66 (.agg (List.toArray [.slice none 0 0, .int .i64 0, .int .i64 0])) := ⟨by kernel_rfl⟩
instance : TFldV Tryz.prog 66 0 0 := ⟨by kernel_rfl⟩
instance : TFldV Tryz.prog 66 1 1 := ⟨by kernel_rfl⟩
instance : TFldV Tryz.prog 66 2 2 := ⟨by kernel_rfl⟩
instance : TZv Tryz.prog 67 (.agg (List.toArray [.slice none 0 0, .int .i64 0, .int .i64 0])) := ⟨by kernel_rfl⟩
instance : TFldV Tryz.prog 67 0 0 := ⟨by kernel_rfl⟩
instance : TFldV Tryz.prog 67 1 1 := ⟨by kernel_rfl⟩
instance : TFldV Tryz.prog 67 2 2 := ⟨by kernel_rfl⟩
instance : TZv Tryz.prog 71 (.slice none 0 0) := ⟨by kernel_rfl⟩
instance : TZv Tryz.prog 73 (.agg (List.toArray [.string ⟨#[]⟩])) := ⟨by kernel_rfl⟩
instance : TFldV Tryz.prog 73 0 0 := ⟨by kernel_rfl⟩
instance : TZv Tryz.prog 74 (.agg (List.toArray [.string ⟨#[]⟩])) := ⟨by kernel_rfl⟩
instance : TFldV Tryz.prog 74 0 0 := ⟨by kernel_rfl⟩
instance : TZv Tryz.prog 89 (.agg (List.toArray [.int .i64 0])) := ⟨by kernel_rfl⟩
instance : TFldV Tryz.prog 89 0 0 := ⟨by kernel_rfl⟩
instance : TZv Tryz.prog 90 (.agg (List.toArray [.int .i64 0])) := ⟨by kernel_rfl⟩
instance : TFldV Tryz.prog 90 0 0 := ⟨by kernel_rfl⟩
instance : TZv Tryz.prog 91 (.agg (List.toArray [])) := ⟨by kernel_rfl⟩
instance : TZv Tryz.prog 92 (.agg (List.toArray [])) := ⟨by kernel_rfl⟩
instance : TZv Tryz.prog 95 (.int .u64 0) := ⟨by kernel_rfl⟩
instance : TZv Tryz.prog 100 (.int .i64 0) := ⟨by kernel_rfl⟩
instance : TZv Tryz.prog 118 (.agg (List.toArray [.int .u8 0, .int .u8 0, .int .u8 0, .int .u8 0, .int .u8 0, .int .u8 0, .int .u8 0, .int .u8 0, .int .u8 0, .int .u8 0, .int .u8 0, .int .u8 0, .int .u8 0, .int .u8 0, .int .u8 0, .int .u8 0, .int .u8 0, .int .u8 0, .int .u8 0, .int .u8 0, .int .u8 0, .int .u8 0, .int .u8 0, .int .u8 0, .int .u8 0, .int .u8 0, .int .u8 0, .int .u8 0, .int .u8 0, .int .u8 0, .int .u8 0, .int .u8 0, .int .u8 0, .int .u8 0, .int .u8 0, .int .u8 0, .int .u8 0, .int .u8 0, .int .u8 0, .int .u8 0, .int .u8 0, .int .u8 0, .int .u8 0, .int .u8 0, .int .u8 0, .int .u8 0, .int .u8 0, .int .u8 0, .int .u8 0, .int .u8 0, .int .u8 0, .int .u8 0, .int .u8 0, .int .u8 0, .int .u8 0, .int .u8 0, .int .u8 0, .int .u8 0, .int .u8 0, .int .u8 0, .int .u8 0, .int .u8 0, .int .u8 0, .int .u8 0, .int .u8 0, .int .u8 0, .int .u8 0, .int .u8 0, .int .u8 0, .int .u8 0, .int .u8 0, .int .u8 0, .int .u8 0, .int .u8 0, .int .u8 0, .int .u8 0, .int .u8 0, .int .u8 0, .int .u8 0, .int .u8 0, .int .u8 0, .int .u8 0, .int .u8 0, .int .u8 0, .int .u8 0, .int .u8 0, .int .u8 0, .int .u8 0, .int .u8 0, .int .u8 0, .int .u8 0, .int .u8 0, .int .u8 0, .int .u8 0, .int .u8 0, .int .u8 0, .int .u8 0, .int .u8 0, .int .u8 0, .int .u8 0, .int .u8 0, .int .u8 0, .int .u8 0, .int .u8 0, .int .u8 0, .int .u8 0, .int .u8 0, .int .u8 0, .int .u8 0, .int .u8 0, .int .u8 0, .int .u8 0, .int .u8 0, .int .u8 0, .int .u8 0, .int .u8 0, .int .u8 0, .int .u8 0, .int .u8 0, .int .u8 0, .int .u8 0, .int .u8 0, .int .u8 0, .int .u8 0, .int .u8 0, .int .u8 0, .int .u8 0, .int .u8 0, .int .u8 0, .int .u8 0, .int .u8 0, .int .u8 0, .int .u8 0, .int .u8 0, .int .u8 0, .int .u8 0, .int .u8 0, .int .u8 0, .int .u8 0, .int .u8 0, .int .u8 0, .int .u8 0, .int .u8 0, .int .u8 0, .int .u8 0, .int .u8 0, .int .u8 0, .int .u8 0, .int .u8 0, .int .u8 0, .int .u8 0, .int .u8 0, .int .u8 0, .int .u8 0, .int .u8 0, .int .u8 0, .int .u8 0, .int .u8 0, .int .u8 0, .int .u8 0, .int .u8 0, .int .u8 0, .int .u8 0, .int .u8 0, .int .u8 0, .int .u8 0, .int .u8 0, .int .u8 0, .int .u8 0, .int .u8 0, .int .u8 0, .int .u8 0, .int .u8 0, .int .u8 0, .int .u8 0, .int .u8 0, .int .u8 0, .int .u8 0, .int .u8 0, .int .u8 0, .int .u8 0, .int .u8 0, .int .u8 0, .int .u8 0, .int .u8 0, .int .u8 0, .int .u8 0, .int .u8 0, .int .u8 0, .int .u8 0, .int .u8 0, .int .u8 0, .int .u8 0, .int .u8 0, .int .u8 0, .int .u8 0, .int .u8 0, .int .u8 0, .int .u8 0, .int .u8 0, .int .u8 0, .int .u8 0, .int .u8 0, .int .u8 0, .int .u8 0, .int .u8 0, .int .u8 0, .int .u8 0, .int .u8 0, .int .u8 0, .int .u8 0, .int .u8 0, .int .u8 0, .int .u8 0, .int .u8 0, .int .u8 0, .int .u8 0, .int .u8 0, .int .u8 0, .int .u8 0, .int .u8 0, .int .u8 0, .int .u8 0, .int .u8 0, .int .u8 0, .int .u8 0, .int .u8 0, .int .u8 0, .int .u8 0, .int .u8 0, .int .u8 0, .int .u8 0, .int .u8 0, .int .u8 0, .int .u8 0, .int .u8 0, .int .u8 0, .int .u8 0, .int .u8 0, .int .u8 0, .int .u8 0, .int .u8 0, .int .u8 0, .int .u8 0, .int .u8 0, .int .u8 0, .int .u8 0, .int .u8 0, .int .u8 0, .int .u8 0, .int .u8 0, .int .u8 0, .int .u8 0, .int .u8 0, .int .u8 0, .int .u8 0])) := ⟨by kernel_rfl⟩
instance : TZv Tryz.prog 121 (.pointer none) := ⟨by kernel_rfl⟩
instance : TZv Tryz.prog 122 (.agg (List.toArray [.pointer none, .slice none 0 0])) := ⟨by kernel_rfl⟩
instance : TFldV Tryz.prog 122 0 0 := ⟨by kernel_rfl⟩
instance : TFldV Tryz.prog 122 1 1 := ⟨by kernel_rfl⟩
instance : TZv Tryz.prog 123 (.agg (List.toArray [.pointer none, .slice none 0 0])) := ⟨by kernel_rfl⟩
instance : TFldV Tryz.prog 123 0 0 := ⟨by kernel_rfl⟩
instance : TFldV Tryz.prog 123 1 1 := ⟨by kernel_rfl⟩
instance : TZv Tryz.prog 130 (.pointer none) := ⟨by kernel_rfl⟩
instance : TZv Tryz.prog 131 (.agg (List.toArray [.string ⟨#[]⟩, .int .i64 0, .bool false])) := ⟨by kernel_rfl⟩
instance : TFldV Tryz.prog 131 0 0 := ⟨by kernel_rfl⟩
instance : TFldV Tryz.prog 131 1 1 := ⟨by kernel_rfl⟩
instance : TFldV Tryz.prog 131 2 2 := ⟨by kernel_rfl⟩
instance : TZv Tryz.prog 132 (.agg (List.toArray [.string ⟨#[]⟩, .int .i64 0, .bool false])) := ⟨by kernel_rfl⟩
instance : TFldV Tryz.prog 132 0 0 := ⟨by kernel_rfl⟩
instance : TFldV Tryz.prog 132 1 1 := ⟨by kernel_rfl⟩
instance : TFldV Tryz.prog 132 2 2 := ⟨by kernel_rfl⟩
instance : TZv Tryz.prog 139 (.slice none 0 0) := ⟨by kernel_rfl⟩
instance : TZv Tryz.prog 140 (.agg (List.toArray [.int .i64 0, .int .i64 0])) := ⟨by kernel_rfl⟩
instance : TFldV Tryz.prog 140 0 0 := ⟨by kernel_rfl⟩
instance : TFldV Tryz.prog 140 1 1 := ⟨by kernel_rfl⟩
instance : TZv Tryz.prog 141 (.agg (List.toArray [.int .i64 0, .int .i64 0])) := ⟨by kernel_rfl⟩
instance : TFldV Tryz.prog 141 0 0 := ⟨by kernel_rfl⟩
instance : TFldV Tryz.prog 141 1 1 := ⟨by kernel_rfl⟩
instance : TZv Tryz.prog 142 (.int .u32 0) := ⟨by kernel_rfl⟩
instance : TZv Tryz.prog 144 (.pointer none) := ⟨by kernel_rfl⟩
instance : TZv Tryz.prog 146 (.pointer none) := ⟨by kernel_rfl⟩
instance : TZv Tryz.prog 147 (.pointer none) := ⟨by kernel_rfl⟩
instance : TZv Tryz.prog 148 (.agg (List.toArray [.string ⟨#[]⟩, .bool false])) := ⟨by kernel_rfl⟩
instance : TFldV Tryz.prog 148 0 0 := ⟨by kernel_rfl⟩
instance : TFldV Tryz.prog 148 1 1 := ⟨by kernel_rfl⟩
instance : TZv Tryz.prog 149 (.agg (List.toArray [.string ⟨#[]⟩, .bool false])) := ⟨by kernel_rfl⟩
instance : TFldV Tryz.prog 149 0 0 := ⟨by kernel_rfl⟩
instance : TFldV Tryz.prog 149 1 1 := ⟨by kernel_rfl⟩
instance : TZv Tryz.prog 159 (.slice none 0 0) := ⟨by kernel_rfl⟩
instance : TZv Tryz.prog 160 (.slice none 0 0) := ⟨by kernel_rfl⟩
instance : TZv Tryz.prog 161 (.agg (List.toArray [.slice none 0 0, .slice none 0 0, .int .i64 0])) := ⟨by kernel_rfl⟩
instance : TFldV Tryz.prog 161 0 0 := ⟨by kernel_rfl⟩
instance : TFldV Tryz.prog 161 1 1 := ⟨by kernel_rfl⟩
instance : TFldV Tryz.prog 161 2 2 := ⟨by kernel_rfl⟩
instance : TZv Tryz.prog 162 (.agg (List.toArray [.slice none 0 0, .slice none 0 0, .int .i64 0])) := ⟨by kernel_rfl⟩
instance : TFldV Tryz.prog 162 0 0 := ⟨by kernel_rfl⟩
instance : TFldV Tryz.prog 162 1 1 := ⟨by kernel_rfl⟩
instance : TFldV Tryz.prog 162 2 2 := ⟨by kernel_rfl⟩
instance : TZv Tryz.prog 163 (.int .u16 0) := ⟨by kernel_rfl⟩
instance : TZv Tryz.prog 164 (.agg (List.toArray [.int .u16 0, .int .u16 0, .int .u16 0])) := ⟨by kernel_rfl⟩
instance : TFldV Tryz.prog 164 0 0 := ⟨by kernel_rfl⟩
instance : TFldV Tryz.prog 164 1 1 := ⟨by kernel_rfl⟩
instance : TFldV Tryz.prog 164 2 2 := ⟨by kernel_rfl⟩
instance : TZv Tryz.prog 165 (.agg (List.toArray [.int .u16 0, .int .u16 0, .int .u16 0])) := ⟨by kernel_rfl⟩
instance : TFldV Tryz.prog 165 0 0 := ⟨by kernel_rfl⟩
instance : TFldV Tryz.prog 165 1 1 := ⟨by kernel_rfl⟩
instance : TFldV Tryz.prog 165 2 2 := ⟨by kernel_rfl⟩
instance : TZv Tryz.prog 167 (.agg (List.toArray [.int .u32 0, .int .u32 0, .int .u32 0])) := ⟨by kernel_rfl⟩
instance : TFldV Tryz.prog 167 0 0 := ⟨by kernel_rfl⟩
instance : TFldV Tryz.prog 167 1 1 := ⟨by kernel_rfl⟩
instance : TFldV Tryz.prog 167 2 2 := ⟨by kernel_rfl⟩
instance : TZv Tryz.prog 168 (.agg (List.toArray [.int .u32 0, .int .u32 0, .int .u32 0])) := ⟨by kernel_rfl⟩
instance : TFldV Tryz.prog 168 0 0 := ⟨by kernel_rfl⟩
instance : TFldV Tryz.prog 168 1 1 := ⟨by kernel_rfl⟩
instance : TFldV Tryz.prog 168 2 2 := ⟨by kernel_rfl⟩
instance : TZv Tryz.prog 170 (.agg (List.toArray [.int .u8 0, .int .u8 0, .int .u8 0, .int .u8 0, .int .u8 0, .int .u8 0, .int .u8 0, .int .u8 0, .int .u8 0, .int .u8 0, .int .u8 0, .int .u8 0, .int .u8 0, .int .u8 0, .int .u8 0, .int .u8 0, .int .u8 0, .int .u8 0, .int .u8 0, .int .u8 0, .int .u8 0, .int .u8 0, .int .u8 0, .int .u8 0])) := ⟨by kernel_rfl⟩
instance : TZv Tryz.prog 171 (.int .u64 0) := ⟨by kernel_rfl⟩
instance : TZv Tryz.prog 176 (.pointer none) := ⟨by kernel_rfl⟩
instance : TZv Tryz.prog 187 (.pointer none) := ⟨by kernel_rfl⟩
instance : TZv Tryz.prog 188 (.pointer none) := ⟨by kernel_rfl⟩
instance : TZv Tryz.prog 190 (.agg (List.toArray [.int .u64 0, .int .u64 0, .int .u64 0, .int .u64 0, .int .u64 0, .int .u64 0, .int .u64 0, .int .u64 0, .int .u64 0, .int .u64 0, .int .u64 0, .int .u64 0, .int .u64 0, .int .u64 0, .int .u64 0, .int .u64 0, .int .u64 0, .int .u64 0, .int .u64 0, .int .u64 0])) := ⟨by kernel_rfl⟩
instance : TZv Tryz.prog 191 (.agg (List.toArray [.int .u8 0, .int .u8 0, .int .u8 0, .int .u8 0, .int .u8 0, .int .u8 0, .int .u8 0, .int .u8 0, .int .u8 0, .int .u8 0, .int .u8 0, .int .u8 0, .int .u8 0, .int .u8 0, .int .u8 0, .int .u8 0, .int .u8 0, .int .u8 0, .int .u8 0, .int .u8 0, .int .u8 0, .int .u8 0, .int .u8 0, .int .u8 0, .int .u8 0, .int .u8 0, .int .u8 0, .int .u8 0, .int .u8 0, .int .u8 0, .int .u8 0, .int .u8 0, .int .u8 0, .int .u8 0, .int .u8 0, .int .u8 0, .int .u8 0, .int .u8 0, .int .u8 0, .int .u8 0, .int .u8 0, .int .u8 0, .int .u8 0, .int .u8 0, .int .u8 0, .int .u8 0, .int .u8 0, .int .u8 0, .int .u8 0, .int .u8 0, .int .u8 0, .int .u8 0, .int .u8 0, .int .u8 0, .int .u8 0, .int .u8 0, .int .u8 0, .int .u8 0, .int .u8 0, .int .u8 0, .int .u8 0, .int .u8 0, .int .u8 0, .int .u8 0, .int .u8 0])) := ⟨by kernel_rfl⟩
instance : TZv Tryz.prog 202 (.int .i64 0) := ⟨by kernel_rfl⟩
instance : TZv Tryz.prog 209 (.agg (List.toArray [.int .u8 0, .int .u8 0, .int .u8 0, .int .u8 0, .int .u8 0, .int .u8 0, .int .u8 0, .int .u8 0, .int .u8 0, .int .u8 0, .int .u8 0, .int .u8 0, .int .u8 0, .int .u8 0, .int .u8 0, .int .u8 0, .int .u8 0, .int .u8 0, .int .u8 0, .int .u8 0, .int .u8 0, .int .u8 0, .int .u8 0, .int .u8 0, .int .u8 0, .int .u8 0, .int .u8 0, .int .u8 0, .int .u8 0, .int .u8 0, .int .u8 0, .int .u8 0])) := ⟨by kernel_rfl⟩
instance : TZv Tryz.prog 210 (.agg (List.toArray [.int .u8 0, .int .u8 0, .int .u8 0, .int .u8 0, .int .u8 0, .int .u8 0, .int .u8 0, .int .u8 0, .int .u8 0, .int .u8 0, .int .u8 0, .int .u8 0, .int .u8 0, .int .u8 0, .int .u8 0, .int .u8 0, .int .u8 0, .int .u8 0, .int .u8 0, .int .u8 0, .int .u8 0, .int .u8 0, .int .u8 0, .int .u8 0, .int .u8 0, .int .u8 0, .int .u8 0, .int .u8 0, .int .u8 0, .int .u8 0, .int .u8 0, .int .u8 0, .int .u8 0, .int .u8 0, .int .u8 0, .int .u8 0, .int .u8 0, .int .u8 0, .int .u8 0, .int .u8 0, .int .u8 0, .int .u8 0, .int .u8 0, .int .u8 0, .int .u8 0, .int .u8 0, .int .u8 0, .int .u8 0, .int .u8 0, .int .u8 0, .int .u8 0, .int .u8 0, .int .u8 0, .int .u8 0, .int .u8 0, .int .u8 0, .int .u8 0, .int .u8 0, .int .u8 0, .int .u8 0, .int .u8 0, .int .u8 0, .int .u8 0, .int .u8 0])) := ⟨by kernel_rfl⟩
instance : TZv Tryz.prog 211 (.int .u64 0) := ⟨by kernel_rfl⟩
instance : TZv Tryz.prog 215 (.pointer none) := ⟨by kernel_rfl⟩
instance : TZv Tryz.prog 217 (.agg (List.toArray [.int .u8 0, .int .u8 0])) := ⟨by kernel_rfl⟩
instance : TFldV Tryz.prog 217 0 0 := ⟨by kernel_rfl⟩
instance : TFldV Tryz.prog 217 1 1 := ⟨by kernel_rfl⟩
instance : TZv Tryz.prog 218 (.agg (List.toArray [.int .u8 0, .int .u8 0])) := ⟨by kernel_rfl⟩
instance : TFldV Tryz.prog 218 0 0 := ⟨by kernel_rfl⟩
instance : TFldV Tryz.prog 218 1 1 := ⟨by kernel_rfl⟩
instance : TZv Tryz.prog 219 (.agg (List.toArray [.int .u8 0, .int .u8 0, .int .u8 0, .int .u8 0, .int .u8 0, .int .u8 0, .int .u8 0, .int .u8 0, .int .u8 0, .int .u8 0, .int .u8 0, .int .u8 0, .int .u8 0, .int .u8 0, .int .u8 0, .int .u8 0, .int .u8 0, .int .u8 0, .int .u8 0, .int .u8 0, .int .u8 0, .int .u8 0, .int .u8 0, .int .u8 0, .int .u8 0, .int .u8 0, .int .u8 0, .int .u8 0, .int .u8 0, .int .u8 0, .int .u8 0, .int .u8 0])) := ⟨by kernel_rfl⟩
instance : TZv Tryz.prog 222 (.pointer none) := ⟨by kernel_rfl⟩
instance : TZv Tryz.prog 225 (.agg (List.toArray [.pointer none, .pointer none, .pointer none, .string ⟨#[]⟩])) := ⟨by kernel_rfl⟩
instance : TFldV Tryz.prog 225 0 0 := ⟨by kernel_rfl⟩
instance : TFldV Tryz.prog 225 1 1 := ⟨by kernel_rfl⟩
instance : TFldV Tryz.prog 225 2 2 := ⟨by kernel_rfl⟩
instance : TFldV Tryz.prog 225 3 3 := ⟨by kernel_rfl⟩
instance : TZv Tryz.prog 227 (.agg (List.toArray [])) := ⟨by kernel_rfl⟩
instance : TZv Tryz.prog 228 (.agg (List.toArray [])) := ⟨by kernel_rfl⟩
instance : TFldA Tryz.prog 228 0 0 0 := ⟨by kernel_rfl⟩
instance : TZv Tryz.prog 235 (.agg (List.toArray [.int .u64 0, .int .u64 0, .int .u32 0, .int .u8 0, .int .u8 0, .int .u8 0, .int .u8 0, .nilFunc, .pointer none, .int .i32 0, .int .i32 0])) := ⟨by kernel_rfl⟩
instance : TFldV Tryz.prog 235 0 0 := ⟨by kernel_rfl⟩
instance : TFldV Tryz.prog 235 1 1 := ⟨by kernel_rfl⟩
instance : TFldV Tryz.prog 235 2 2 := ⟨by kernel_rfl⟩
instance : TFldV Tryz.prog 235 3 3 := ⟨by kernel_rfl⟩
instance : TFldV Tryz.prog 235 4 4 := ⟨by kernel_rfl⟩
instance : TFldV Tryz.prog 235 5 5 := ⟨by kernel_rfl⟩
instance : TFldV Tryz.prog 235 6 6 := ⟨by kernel_rfl⟩
instance : TFldV Tryz.prog 235 7 7 := ⟨by kernel_rfl⟩
instance : TFldV Tryz.prog 235 8 8 := ⟨by kernel_rfl⟩
instance : TFldV Tryz.prog 235 9 9 := ⟨by kernel_rfl⟩
instance : TFldV Tryz.prog 235 10 10 := ⟨by kernel_rfl⟩
end Go.Proofs.YtealabaiamaojaaGreatDoor
namespace Go.Proofs.YtealabaiamaojaaGreatDoor
open Go.JW Go.RowKit
instance : TCon Tryz.prog 74 := ⟨⟨_, Tryz.underlying74, trivial⟩⟩
instance : TCon Tryz.prog 92 := ⟨⟨_, Tryz.underlying92, trivial⟩⟩
instance : TCon Tryz.prog 90 := ⟨⟨_, Tryz.underlying90, trivial⟩⟩
instance : TCon Tryz.prog 100 := ⟨⟨_, Tryz.underlying100, trivial⟩⟩
instance : TCon Tryz.prog 33 := ⟨⟨_, Tryz.underlying33, trivial⟩⟩
abbrev tpB (b : Nat) (v : Value) (m n : Nat) : HP := blk b (.cells (List.toArray [v, .int .i64 m, .int .i64 n]) 67 (0, 0))
def tapeL (rs : List RecD) : List Ru := rus (tapeR (linesP rs))
abbrev tpK (b : Nat) (v : Value) (rs : List RecD) (m n : Nat) : List HP := [rowD 0 21 v (tapeL rs), tpB b v m n]
def tapHP (b : Nat) (rs : List RecD) (n : Nat) : HP := ⟨fun g F => ∃ v, SepIn g (tpK b v rs rs.length n) F, fun ⟨v, h⟩ hg hi => ⟨v, h.loc hg hi⟩⟩
theorem tapeL_app (a b : List RecD) : tapeL (a ++ b) = tapeL a ++ tapeL b := by unfold tapeL linesP; rw [List.map_append, tapeR_app, rus_app]
theorem tapeL_one (r : RecD) : tapeL [r] = rus (Rn (textP r)) ++ rus [10] := by unfold tapeL linesP; rw [List.map_singleton, tapeR_one, lineR, rus_app]
theorem tapeL_len {rs : List RecD} (h : Oks rs) : (tapeL rs).length ≤ 5001 * rs.length := by
  unfold tapeL
  rw [rus_len]
  have := tape_len (L := linesP rs) (fun l hl => by obtain ⟨r, hr, rfl⟩ := List.mem_map.1 hl; exact textP_size (h r hr))
  simpa [linesP] using this
def idxI (l : List Int) : Int := if (10 : Int) ∈ l then l.idxOf 10 else -1
theorem index32_c (l : List Int) (v : Value) (w : World) (h : RepL (hp w) v (rus l)) : Calls Tryz.prog 40 #[v, .int .i32 10] w fun e w' => e = .returned (.int .i64 (idxI l)) ∧ Below w.heap.size w w' := by
  have hl : l.length ≤ 140737488355328 := by have := h.1; rwa [rus_len] at this
  have hrl : (rus l).length = l.length := rus_len l
  obtain ⟨a, cap, rfl⟩ := h.form
  refine RS.enter Tryz.func40 Tryz.ntmps40 rfl rfl ?_
  refine zN ?_; refine asI ?_; refine LS.done ?_
  refine zN ?_; refine mvL ?_; refine lenL ?_; refine mvI ?_; refine LS.done ?_
  refine zN ?_
  refine RS.loopF (X := Nat) 5 19 (fun x => x ≤ l.length ∧ (10 : Int) ∉ l.take x) (fun x => [(7, .int .i64 (rus l).length), (8, .int .i64 x)]) (fun _ => hp w) (fun _ => []) (fun x => l.length - x) 0 ⟨Nat.zero_le _, by simp⟩ ⟨rfl, rfl, trivial⟩ rfl ⟨fun h => h⟩ ?_
  rintro x g ⟨hx, hno⟩ ih
  refine zN ?_; refine ltI ?_; refine LS.done ?_
  refine zN ?_
  refine RS.cond (fun c => ?_) (fun c => ?_)
  · have c := of_decide_eq_true c
    have hxl : x < l.length := by omega
    obtain ⟨bb, o, rfl, hrow⟩ := h.addr (fun e => by have h0 := congrArg List.length e; rw [rus_len, List.length_nil] at h0; omega)
    have hcell := hrow.ru x hxl
    rw [show o + x = o + x * 1 by omega] at hcell
    refine zN ?_; refine mvI ?_; refine asI ?_; refine LS.done ?_
    refine zN ?_; refine mvI ?_; refine mvL ?_; refine mvI ?_; refine idx (i := x) ?_; refine ldS hcell ?_; refine eqI ?_; refine LS.done ?_
    refine zN ?_
    have hsplit : l.take (x + 1) = l.take x ++ [l.getD x 0] := by rw [List.take_succ_eq_append_getElem hxl]; simp [List.getD, hxl]
    refine RS.cond (fun c2 => ?_) (fun c2 => ?_)
    · have c2 := of_decide_eq_true c2
      refine zN ?_; refine mvI ?_; refine asI ?_; refine LS.done ?_
      refine zN ?_; refine RS.ret1 (v := .int _ _) Tryz.func40 fun w hw => ?_
      have hm : (10 : Int) ∈ l := List.mem_of_mem_take (i := x + 1) (by rw [hsplit, ← c2]; simp)
      have hi : l.idxOf 10 = x := by
        have e : l = l.take x ++ ((10 : Int) :: l.drop (x + 1)) := by
          conv => lhs; rw [← List.take_append_drop (x + 1) l, hsplit, ← c2]
          simp
        rw [e, List.idxOf_append, if_neg hno]
        simp
        omega
      exact ⟨by unfold idxI; rw [if_pos hm, hi], hw.below⟩
    · have c2 := of_decide_eq_false c2
      refine RS.skip ?_
      refine zN ?_; (first | refine addN ?_ | refine addI ?_); refine mvI ?_; refine LS.done ?_
      refine zN ?_
      exact ih (x + 1) ⟨hxl, by rw [hsplit]; simp only [List.mem_append, List.mem_singleton]; exact fun h => h.elim hno c2⟩ (by omega) ⟨rfl, rfl, trivial⟩ (by repeat (first | with_reducible exact Out.refl _ _ _ | exact Out.hv | refine Out.upd ?_ | refine Out.hvIn ?_)) ⟨fun h => h⟩ rfl
  · have c := of_decide_eq_false c
    obtain rfl : x = l.length := by omega
    rw [List.take_length] at hno
    refine RS.exit ?_
    refine zN ?_; refine asI ?_; refine LS.done ?_
    refine zN ?_; refine RS.ret1 (v := .int _ _) Tryz.func40 fun w hw => ?_
    exact ⟨by unfold idxI; rw [if_neg hno], hw.below⟩
theorem cell_of {σ : PH} {b T j : Nat} {cs : List Value} {v : Value} (h : σ b = some (.cells cs.toArray T (0, 0))) (hv : cs[j]? = some v) : σ.cell b j = some v := by
  unfold PH.cell; rw [h]; simpa using hv
section
variable {w0 w : World} {M : Nat → Prop} {σ : PH} {K : List HP} {b n : Nat} {rs : List RecD}
theorem openTp (hw : Sat w0 M σ (tapHP b rs n :: K) w) : ∃ v, Sat w0 M σ (rowD 0 21 v (tapeL rs) :: tpB b v rs.length n :: K) w := by
  obtain ⟨F1, ⟨v, h3⟩, h4, h5⟩ := hw.sep
  exact ⟨v, hw.os, hw.tape, hw.output, hw.size, hw.keep, hw.imm, SepIn.append (A := tpK b v rs rs.length n) ⟨F1, h3, h4, h5⟩⟩
theorem closeTp {v : Value} (hw : Sat w0 M σ (rowD 0 21 v (tapeL rs) :: tpB b v rs.length n :: K) w) : Sat w0 M σ (tapHP b rs n :: K) w := by
  obtain ⟨F1, h3, h4, h5⟩ := SepIn.group (A := tpK b v rs rs.length n) hw.sep
  exact ⟨hw.os, hw.tape, hw.output, hw.size, hw.keep, hw.imm, F1, ⟨v, h3⟩, h4, h5⟩
theorem readTp (ho : Oks rs) (hl : rs.length ≤ 1000000) (hw : Sat w0 M σ (tapHP b rs n :: K) w) : ∃ v, hp w b = some (.cells (List.toArray [v, .int .i64 rs.length, .int .i64 n]) 67 (0, 0)) ∧ RepL (hp w) v (tapeL rs) := by
  obtain ⟨v, h⟩ := openTp hw
  have hlen := tapeL_len ho
  exact ⟨v, h.get (b := b) (i := by infer_instance), h.rowRepD (by omega)⟩
theorem dow_s (r : RecD) (hok : checkP r = 0) (ho : Oks rs) (hl : rs.length ≤ 1000000) (w : World) (hw : Sat w0 M σ (tapHP b rs n :: K) w) :
    Calls Tryz.prog 33 #[.pointer (some ⟨b, 0, none⟩), .iface 74 (.agg (List.toArray [.string (B (textP r))]))] w fun e w' => ∃ v σ', PH.le σ σ' ∧ v = .tuple #[] ∧ e = .returned v ∧ Sat w0 M σ' (tapHP b (rs ++ [r]) n :: K) w' := by
  obtain ⟨vt, hw⟩ := openTp hw
  have hlen := tapeL_len ho
  have hsz := textP_size hok
  have hrl := Rn_le (textP r)
  have hr1 : (rus (Rn (textP r))).length = (Rn (textP r)).length := rus_len _
  have hr2 : (rus [10]).length = 1 := rfl
  have hA : (tapeL rs ++ rus (Rn (textP r))).length ≤ 5001000000 + 5000 := by rw [List.length_append]; omega
  refine RS.enterK Tryz.func33 Tryz.ntmps33 rfl rfl hw ?_
  refine zN ?_; refine mv ?_; refine LS.done ?_
  refine zN ?_; refine asY (.agg (List.toArray [.string (B (textP r))])) ?_; refine extr (v := .bool _) ?_; refine extr (v := _) ?_; refine LS.done ?_
  refine zN ?_
  refine RS.condT ?_
  refine zN ?_; refine alloc_ (fun b4 => ?_); refine st (.agg _) _ ?_; refine LS.done ?_
  refine RS.to (K' := rowD 0 21 vt (tapeL rs) :: blk b4 (.cells (List.toArray [.string (B (textP r))]) 74 (0, 0)) :: tpB b vt rs.length n :: K) ?_ ⟨fun h => SepIn.swap h⟩
  refine zD ?_; refine RS.draw [.free, .free, .free, .free, .ex, .free, .ex, .ex, .eff, .ex, .eff, .free, .free, .st] [blk b4 (.cells (List.toArray [.string (B (textP r))]) 74 (0, 0)), tpB b vt rs.length n] ?_ (by kernel_rfl) (by kernel_rfl) (by infer_instance); refine D.mvP ?_; refine D.mvP ?_; refine D.nilck ?_; refine D.fld ?_; refine D.ld1 (v := vt) ?_; refine D.fld ?_; refine D.ld1 (v := .string _) ?_; refine D.s2r (textP r) ?_; refine D.appD vt (rus (Rn (textP r))) (vy := fun us => us 18) ?_ (fun us σ' hle hf => ⟨_, hf.1, by rw [fromN_zero]; exact PH.le_refl _⟩); refine D.litT 0 (rus [10]) (vs := fun us => [.int .i32 10]) ?_ (fun us σ' _ _ => ⟨rfl, trivial⟩); refine D.appU 19 (rus [10]) (vy := fun us => us 20) ?_ (fun us σ' hle hf => ⟨_, hf.1, PH.le_refl _⟩); refine D.nilck ?_; refine D.fld ?_
  refine D.stU 21 (fun us => [us 21, .int .i64 rs.length, .int .i64 n]) ?_
  refine D.done (fun us σ3 hle3 hfs => ?_)
  refine RS.ow ?_
  refine zN ?_; refine mvP ?_; refine nilck ?_; refine fld ?_; refine ld1 (v := .int _ _) ?_; (first | refine addN ?_ | refine addI ?_); refine nilck ?_; refine fld ?_; refine st (.int _ _) _ ?_; refine LS.done ?_
  refine zN ?_
  refine RS.fin0 Tryz.func33 (fun w hw => ?_)
  have e1 : tapeL (rs ++ [r]) = tapeL rs ++ rus (Rn (textP r)) ++ rus [10] := by rw [tapeL_app, tapeL_one, List.append_assoc]
  have e2 : ((rs ++ [r]).length : Int) = (rs.length : Int) + 1 := by simp
  have h2 : Sat w0 M σ3 (rowD 0 21 (us 21) (tapeL (rs ++ [r])) :: blk b (.cells (List.toArray [us 21, .int .i64 ((rs ++ [r]).length : Int), .int .i64 n]) 67 (0, 0)) :: K) w := by
    rw [e1, e2]
    exact hw.weak fun F h => SepIn.cons_sub (fun _ => SepIn.tail) h
  exact ⟨_, σ3, hle3, rfl, rfl, closeTp h2⟩
end
end Go.Proofs.YtealabaiamaojaaGreatDoor
namespace Go.Proofs.YtealabaiamaojaaGreatDoor
open Go.JW Go.RowKit
theorem lines_q (L : List Bs) (hu : Unis L) (hL : L.length ≤ 1000000) (h5 : ∀ l ∈ L, l.length ≤ 5000) (v : Value) (cs : List Value) (b : Nat) (w : World) (hb : hp w b = some (.cells (v :: .int .i64 L.length :: cs).toArray 67 (0, 0))) (hv : RepL (hp w) v (rus (tapeR L))) :
    Calls Tryz.prog 17 #[.pointer (some ⟨b, 0, none⟩)] w fun e w' => ∃ v', e = .returned v' ∧ Below w.heap.size w w' ∧ RepQ 9 (since w w') v' (L.map B) := by
  have hc0 := cell_of (j := 0) hb rfl
  have hc1 := cell_of (j := 1) hb rfl
  refine RS.enter Tryz.func17 Tryz.ntmps17 rfl rfl ?_
  refine zN ?_; refine asL ?_; refine LS.done ?_
  refine zN ?_; refine mvP ?_; refine nilck ?_; refine fld ?_; refine ldS hc1 ?_; refine mkD0 (α := ByteArray) w.heap.size (fun v3 => ?_); refine as_ (v := v3) ?_; refine LS.done ?_
  refine zN ?_; refine mvP ?_; refine nilck ?_; refine fld ?_; refine ldS hc0 ?_; refine as_ (v := v) ?_; refine LS.done ?_
  refine zN ?_
  refine RS.loopF (X := Nat × Value × Value) 3 31 (fun x => x.1 ≤ L.length ∧ RepL (hp w) x.2.2 (rus (tapeR (L.drop x.1)))) (fun x => [(3, x.2.1), (4, x.2.2)]) (fun _ => hp w) (fun x => [rowD w.heap.size 9 x.2.1 ((L.take x.1).map B)]) (fun x => L.length - x.1) (0, v3, v) ⟨Nat.zero_le _, hv⟩ ⟨rfl, rfl, trivial⟩ rfl ⟨fun h => h⟩ ?_
  rintro ⟨x, v3, v4⟩ g ⟨hx, hr4⟩ ih
  dsimp only at hx hr4
  have hlt : (L.take x).length = x := by rw [List.length_take]; omega
  have hlen4 := hr4.1
  have hl4 : (rus (tapeR (L.drop x))).length = (tapeR (L.drop x)).length := rus_len _
  obtain ⟨a4, c4, rfl⟩ := hr4.form
  have hcap4 := hr4.cap
  refine zN ?_; refine mvL ?_; refine lenL ?_; refine gtI ?_; refine LS.done ?_
  refine zN ?_
  by_cases hxl : x < L.length
  · have hcons := tape_cons hxl
    have hll : (tapeR (L.drop x)).length = (Rn L[x]).length + 1 + (tapeR (L.drop (x + 1))).length := by rw [hcons, List.length_append]; simp [lineR]
    refine RS.condT ?_ (h := by simp; omega)
    have hi : idxI (tapeR (L.drop x)) = (Rn L[x]).length := by unfold idxI; rw [if_pos (tape_mem hxl), tape_idx hu hxl]
    have hux := hu _ (List.getElem_mem hxl)
    have hsz := h5 _ (List.getElem_mem hxl)
    refine zN ?_
    refine zN ?_; refine mvL ?_
    refine callP ?_ (hc := fun w' hw => index32_c (tapeR (L.drop x)) _ w' (hr4.mono hw.imm))
    rw [hi]
    refine asI ?_; refine LS.done ?_
    have hr23 : RepL (hp w) (.slice a4 (Rn L[x]).length c4) (rus (Rn L[x])) := by
      have := hr4.take (Rn L[x]).length (by omega)
      rw [show (rus (tapeR (L.drop x))).take (Rn L[x]).length = rus (Rn L[x]) by unfold rus; rw [← List.map_take, hcons]; unfold lineR; rw [List.append_assoc, List.take_left]] at this
      exact this
    have hcell := strCells (x := B L[x]) (by rw [B_size]; omega)
    refine zN ?_; refine mv (v := v3) ?_; refine mvL ?_; refine mvI ?_; refine slcHi (Rn L[x]).length (.slice a4 (Rn L[x]).length c4) ?_ (hv := by rw [ite_self]); refine r2s (Rn L[x]) hr23 ?_; rw [runes_back hux]; refine bldS [.string (B L[x])] [.string (B L[x])] (fun b25 => ?_); refine appD (v := v3) (l' := [B L[x]]) (vy := .slice (some ⟨b25, 0, none⟩) 1 1) (fun w' hw => ⟨_, srcB hw TSlice.eq, hcell _⟩) (fun v26 => ?_) (hb := by simp; omega) (hm := by simp; omega); refine as_ (v := v26) ?_; refine LS.done ?_
    obtain ⟨v30, h30⟩ : ∃ v30 : Value, .slice (if c4 = (Rn L[x]).length + 1 then a4 else a4.map (·.add (((Rn L[x]).length + 1) * 1))) ((rus (tapeR (L.drop x))).length - ((Rn L[x]).length + 1)) (c4 - ((Rn L[x]).length + 1)) = v30 := ⟨_, rfl⟩
    have hr30 : RepL (hp w) v30 (rus (tapeR (L.drop (x + 1)))) := by
      have := hr4.drop ((Rn L[x]).length + 1) (by omega)
      rw [show (rus (tapeR (L.drop x))).drop ((Rn L[x]).length + 1) = rus (tapeR (L.drop (x + 1))) by unfold rus; rw [← List.map_drop, hcons, show (Rn L[x]).length + 1 = (lineR L[x]).length by simp [lineR], List.drop_left]] at this
      rw [← h30]; exact this
    refine zN ?_; refine mvL ?_; refine mvI ?_; (first | refine addN ?_ | refine addI ?_); refine slcLo ((Rn L[x]).length + 1) v30 ?_ (hv := h30); refine as_ (v := v30) ?_; refine LS.done ?_
    refine zN ?_
    have hsu : (L.take x).map B ++ [B L[x]] = (L.take (x + 1)).map B := by rw [List.take_succ_eq_append_getElem hxl, List.map_append]; rfl
    exact ih (x + 1, v26, v30) ⟨by (try dsimp only); omega, hr30⟩ (by (try dsimp only); omega) ⟨rfl, rfl, trivial⟩ (by repeat (first | with_reducible exact Out.refl _ _ _ | exact Out.hv | refine Out.upd ?_ | refine Out.hvIn ?_)) ⟨fun h => by simp only [← hsu]; exact h.tail⟩ rfl
  · obtain rfl : x = L.length := by omega
    have h0 : (tapeR (L.drop L.length)).length = 0 := by rw [List.drop_length]; rfl
    refine RS.condF ?_ (h := decide_eq_false (by omega))
    refine RS.exit ?_
    have ht : (L.take L.length).map B = L.map B := by rw [List.take_length]
    refine RS.to (K' := [rowD w.heap.size 9 v3 (L.map B)]) ?_ ⟨fun h => by rw [← ht]; exact h⟩
    refine RS.formD (l := L.map B) v3 (fun a7 c7 e7 _ => ?_); subst e7
    refine zN ?_; refine mvL ?_; refine asL ?_; refine LS.done ?_
    refine zN ?_; refine RS.ret1 (v := .slice _ _ _) Tryz.func17 fun w hw => ?_
    exact ⟨_, rfl, hw.below, hw.rowNewD (l := L.map B) (Nat.le_refl _) (by simp; omega), hw.ownNewD (l := L.map B)⟩
theorem lines_c (L : List Bs) (hu : Unis L) (hL : L.length ≤ 1000000) (h5 : ∀ l ∈ L, l.length ≤ 5000) (v : Value) (cs : List Value) (b : Nat) (w : World) (hb : hp w b = some (.cells (v :: .int .i64 L.length :: cs).toArray 67 (0, 0))) (hv : RepL (hp w) v (rus (tapeR L))) :
    Calls Tryz.prog 17 #[.pointer (some ⟨b, 0, none⟩)] w fun e w' => ∃ v', e = .returned v' ∧ Below w.heap.size w w' ∧ RepL (since w w') v' (L.map B) :=
  (lines_q L hu hL h5 v cs b w hb hv).mono fun _ _ ⟨v, h1, h2, h3⟩ => ⟨v, h1, h2, h3.1⟩
section
variable {w0 : World} {M : Nat → Prop} {σ : PH} {K : List HP} {b n : Nat} {rs : List RecD}
theorem write_s (r : RecD) (cs : List Value) (hok : checkP r = 0) (ho : Oks rs) (hl : rs.length ≤ 1000000) (hL : LibAt σ) (hr : ∀ w, Sat w0 M σ (tapHP b rs n :: K) w → Rep.rep (hp w) cs r) (w : World) (hw : Sat w0 M σ (tapHP b rs n :: K) w) :
    Calls Tryz.prog 14 #[.pointer (some ⟨b, 0, none⟩), .agg (List.toArray cs)] w fun e w' => ∃ v σ', PH.le σ σ' ∧ v = .tuple #[] ∧ e = .returned v ∧ Sat w0 M σ' (tapHP b (rs ++ [r]) n :: K) w' := by
  obtain ⟨vp, vq, vm, vt, rfl, h1, h2, hp_, hq, h3, h4, h5, hm, ht⟩ := hr w hw
  obtain ⟨ap, cp, rfl⟩ := hp_.form
  obtain ⟨aq, cq, rfl⟩ := hq.form
  obtain ⟨am, cm, rfl⟩ := hm.form
  obtain ⟨at_, ct, rfl⟩ := ht.form
  clear hp_ hq hm ht
  refine RS.enterK Tryz.func14 Tryz.ntmps14 rfl rfl hw ?_
  refine zN ?_; refine box_ (v := .agg _) (cs := [_, _, _, _, _, _, _, _, _, _]) (fun b3 => ?_); refine LS.done ?_
  refine zN ?_; refine mvP ?_; refine ldA (vs := recC r (.slice ap r.peers.length cp) (.slice aq r.places.length cq) (.slice am r.node.marks.length cm) (.slice at_ r.node.taints.length ct)) ?_
  refine callP ?_ (hc := fun w' hw => text_w _ r w' (hr w' (hw.weak fun F h => SepIn.tail h)) hok (hL.mono hw.imm))
  refine bld (vals := [(0, .string _)]) [_] ?_; refine mkC (.agg (List.toArray [.string (B (textP r))])) ?_
  refine callQ (fun v _ => v = .tuple #[]) (_ :: tapHP b (rs ++ [r]) n :: K) (fun v σ1 hle1 hq1 => ?_) (hc := fun w' hw => (dow_s (K := _ :: K) r hok ho hl w' (hw.front [_] [tapHP b rs n])).mono fun _ _ ⟨v, σ', h1, h2, h3, h4⟩ => ⟨v, σ', h1, h2, h3, h4.front [_] [_]⟩)
  subst hq1
  refine LS.done ?_
  refine zN ?_
  refine RS.fin0 Tryz.func14 (fun w hw => ?_)
  exact ⟨_, σ1, hle1, rfl, rfl, hw.weak fun F h => SepIn.tail h⟩
theorem lasting_s (w : World) (hw : Sat w0 M σ (tapHP b rs n :: K) w) :
    Calls Tryz.prog 22 #[.pointer (some ⟨b, 0, none⟩)] w fun e w' => e = .returned (.int .i64 n) ∧ Sat w0 M σ (tapHP b rs n :: K) w' := by
  obtain ⟨v, hw⟩ := openTp hw
  refine RS.enterK Tryz.func22 Tryz.ntmps22 rfl rfl hw ?_
  refine zN ?_; refine asI ?_; refine LS.done ?_
  refine zN ?_; refine mvP ?_; refine nilck ?_; refine fld ?_; refine ld1 (v := .int _ _) ?_; refine asI ?_; refine LS.done ?_
  refine zN ?_; refine RS.ret1 (v := .int _ _) Tryz.func22 fun w hw => ?_
  exact ⟨rfl, closeTp hw⟩
theorem tnew_s (w : World) (hw : Sat w0 M σ K w) :
    Calls Tryz.prog 12 #[] w fun e w' => ∃ b : Nat, e = .returned (.pointer (some ⟨b, 0, none⟩)) ∧ Sat w0 M σ (tapHP b [] 0 :: K) w' := by
  refine RS.enterK Tryz.func12 Tryz.ntmps12 rfl rfl hw ?_
  refine zN ?_; refine asP ?_; refine LS.done ?_
  refine zN ?_; refine bld (vals := []) [_, _, _] ?_; refine box_ (v := .agg _) (cs := [_, _, _]) (fun b2 => ?_); refine asP ?_; refine LS.done ?_
  refine zN ?_; refine RS.ret1 (v := .pointer _) Tryz.func12 fun w hw => ?_
  exact ⟨_, rfl, closeTp (v := .slice none 0 0) (rs := []) (hw.weak fun F h => insNil h)⟩
end
end Go.Proofs.YtealabaiamaojaaGreatDoor
namespace Go.Proofs.YtealabaiamaojaaGreatDoor
open Go.JW Go.RowKit
theorem clip_c (a : Option Addr) (m c : Nat) (hm : m ≤ c) (w : World) : Calls Tryz.prog 36 #[.slice a m c] w fun e w' => e = .returned (.slice a m m) ∧ Below w.heap.size w w' := by
  refine RS.enter Tryz.func36 Tryz.ntmps36 rfl rfl ?_
  refine zN ?_; refine asL ?_; refine LS.done ?_
  refine zN ?_; refine mvL ?_; refine mvL ?_; refine lenL ?_; refine mvL ?_; refine lenL ?_; refine slcCut m ?_; refine asL ?_; refine LS.done ?_
  refine zN ?_; refine RS.ret1 (v := .slice _ _ _) Tryz.func36 fun w hw => ?_
  exact ⟨rfl, hw.below⟩
section
variable {w0 : World} {M : Nat → Prop} {σ : PH} {K : List HP} {b n : Nat} {rs : List RecD}
theorem record_s (r : RecD) (hok : checkP r = 0) (hL : LibAt σ) (w : World) (hw : Sat w0 M σ K w) :
    Calls Tryz.prog 35 #[.string (B (textP r))] w fun e w' => ∃ v σ', PH.le σ σ' ∧ (∃ cs, v = .iface 33 (.agg (List.toArray cs)) ∧ Rep.rep σ' cs r) ∧ e = .returned v ∧ Sat w0 M σ' K w' := by
  refine RS.enterK Tryz.func35 Tryz.ntmps35 rfl rfl hw ?_
  refine zN ?_; refine asE0 ?_; refine LS.done ?_
  refine zN ?_; refine mvS ?_
  refine callQ (ParseA (textP r)) K (fun v σ1 k1 hq => ?_) (hc := fun w' hw => parse_s (textP r) (text_small hok) hL w' hw)
  obtain ⟨cs, rfl, hrep⟩ := hq
  rw [parse_text hok] at hrep ⊢
  obtain ⟨f, rfl⟩ := rep_form hrep
  refine mvT ?_; refine extr (v := _) ?_; refine extr (v := .int _ _) ?_; refine alloc_ (fun b3 => ?_); refine st (.agg _) _ ?_; refine asI ?_; refine LS.done ?_
  refine RS.to (K' := rcW b3 r f :: K) ?_ ⟨fun h => h⟩
  refine zN ?_; refine mvI ?_; refine neI ?_; refine LS.done ?_
  refine zN ?_
  refine RS.condF ?_
  refine RS.skip ?_
  refine zN ?_; refine ldA (rcV r f) ?_; refine mkC (.agg (List.toArray (rcV r f))) ?_; refine as_ ?_; refine LS.done ?_
  refine zN ?_; refine RS.ret1 (v := .iface _ _) Tryz.func35 fun w hw => ?_
  exact ⟨_, σ1, k1, ⟨_, rfl, hrep⟩, rfl, hw.weak fun F h => h.tail⟩
theorem all_s (ho : Oks rs) (hl : rs.length ≤ 1000000) (hL : LibAt σ) (w : World) (hw : Sat w0 M σ (tapHP b rs n :: K) w) :
    Calls Tryz.prog 15 #[.pointer (some ⟨b, 0, none⟩)] w fun e w' => ∃ v σ', PH.le σ σ' ∧ RepQ 33 σ' v rs ∧ e = .returned v ∧ Sat w0 M σ' (tapHP b rs n :: K) w' := by
  obtain ⟨vt, hw⟩ := openTp hw
  have hlen := tapeL_len ho
  have hll : (linesP rs).length = rs.length := by simp [linesP]
  refine RS.enterK Tryz.func15 Tryz.ntmps15 rfl rfl hw ?_
  refine zN ?_; refine asL ?_; refine LS.done ?_
  refine zN ?_; refine mvP ?_; refine nilck ?_; refine fld ?_; refine ld1 (v := .int _ _) ?_; refine mkD0 (α := RecD) 0 (fun v3 => ?_); refine as_ (v := v3) ?_; refine LS.done ?_
  refine zN ?_; refine mvP ?_
  refine callT (fun v τ => RepL τ v ((linesP rs).map B)) (fun v14 τ1 σ1 hq hN hle hτ => ?_) (fun w' hw => lines_c (linesP rs) (lines_uni ho) (by omega) (fun l hl => by obtain ⟨r, hr, rfl⟩ := List.mem_map.1 hl; exact textP_size (ho r hr)) vt [.int .i64 n] b w' (by rw [hll]; exact hw.get (b := b) (i := by infer_instance)) (hw.rowRepD (l := tapeL rs) (by omega)))
  have hq := hq.mono hτ
  obtain ⟨a14, c14, rfl⟩ := hq.form
  have hml : ((linesP rs).map B).length = rs.length := by simp [linesP]
  refine lenL ?_; refine mvI ?_; refine LS.done ?_
  refine zN ?_
  refine RS.loopF (X := Nat × Value × PH) 3 32 (fun x => x.1 ≤ rs.length ∧ PH.le σ1 x.2.2) (fun x => [(3, x.2.1), (14, .slice a14 ((linesP rs).map B).length c14), (15, .int .i64 ((linesP rs).map B).length), (16, .int .i64 x.1)]) (fun x => x.2.2) (fun x => rowD 0 33 x.2.1 (rs.take x.1) :: rowD 0 21 vt (tapeL rs) :: tpB b vt rs.length n :: K) (fun x => rs.length - x.1) (0, v3, σ1) ⟨Nat.zero_le _, PH.le_refl _⟩ ⟨rfl, rfl, rfl, rfl, trivial⟩ rfl ⟨fun h => h⟩ ?_
  rintro ⟨x, v3, σ2⟩ g ⟨hx, hle2⟩ ih
  dsimp only at hx hle2
  refine zN ?_; refine ltI ?_; refine LS.done ?_
  refine zN ?_
  refine RS.cond (fun c => ?_) (fun c => ?_)
  · have c := of_decide_eq_true c
    have hxl : x < rs.length := by omega
    obtain ⟨r, hrx⟩ : ∃ r, rs[x] = r := ⟨_, rfl⟩
    have hok : checkP r = 0 := by rw [← hrx]; exact ho _ (List.getElem_mem hxl)
    obtain ⟨b14, o14, rfl, hrow⟩ := hq.addr (fun e => by have h0 := congrArg List.length e; rw [hml, List.length_nil] at h0; omega)
    obtain ⟨hcell, _⟩ := (hrow.mono hle2).str x (by omega)
    have e0 : ((linesP rs).map B)[x]'(by omega) = B (textP r) := by simp [linesP, hrx]
    rw [e0] at hcell
    refine zN ?_
    refine zN ?_; refine idx (i := x) ?_; refine ldS hcell ?_; refine asS ?_; refine LS.done ?_
    refine zN ?_; refine mvS ?_
    refine callQ (fun v σ' => ∃ cs, v = .iface 33 (.agg (List.toArray cs)) ∧ Rep.rep σ' cs r) (rowD 0 33 v3 (rs.take x) :: rowD 0 21 vt (tapeL rs) :: tpB b vt rs.length n :: K) (fun v σ3 k3 hq3 => ?_) (hc := fun w' hw => record_s r hok (hL.mono (PH.le_trans hle hle2)) w' hw)
    obtain ⟨cs, rfl, hrep⟩ := hq3
    obtain ⟨f, rfl⟩ := rep_form hrep
    refine asY (.agg (List.toArray (rcV r f))) ?_; refine mvT ?_; refine extr (v := _) ?_; refine extr (v := .bool _) ?_; refine alloc_ (fun b6 => ?_); refine st (.agg _) _ ?_; refine asB ?_; refine LS.done ?_
    refine RS.to (K' := rcW b6 r f :: rowD 0 33 v3 (rs.take x) :: rowD 0 21 vt (tapeL rs) :: tpB b vt rs.length n :: K) ?_ ⟨fun h => h⟩
    refine zN ?_; refine mvB ?_; refine LS.done ?_
    refine zN ?_
    refine RS.condT ?_
    have hlt : (rs.take x).length = x := by rw [List.length_take]; omega
    refine zN ?_; refine mv (v := v3) ?_; refine ldA (rcV r f) ?_; refine bldS [.agg (List.toArray (rcV r f))] (rcV r f) (fun b29 => ?_); refine appD (v := v3) (l' := [r]) (vy := .slice (some ⟨b29, 0, none⟩) 1 1) (fun w' hw => ⟨_, srcB hw TSlice.eq, CellsL.one_ (by rw [fromN_zero]; exact hrep)⟩) (fun v30 => ?_) (hb := by simp; omega) (hm := by simp; omega); refine as_ (v := v30) ?_; refine LS.done ?_
    refine zN ?_; (first | refine addN ?_ | refine addI ?_); refine mvI ?_; refine LS.done ?_
    refine zN ?_
    have hsu : rs.take x ++ [r] = rs.take (x + 1) := by rw [List.take_succ_eq_append_getElem hxl, hrx]
    exact ih (x + 1, v30, σ3) ⟨by (try dsimp only); omega, PH.le_trans hle2 k3⟩ (by (try dsimp only); omega) ⟨rfl, rfl, rfl, rfl, trivial⟩ (by repeat (first | with_reducible exact Out.refl _ _ _ | exact Out.hv | refine Out.upd ?_ | refine Out.hvIn ?_)) ⟨fun h => by simp only [← hsu]; exact h.tail.tail⟩ rfl
  · have c := of_decide_eq_false c
    obtain rfl : x = rs.length := by omega
    refine RS.exit ?_
    refine RS.to (K' := rowD 0 33 v3 rs :: rowD 0 21 vt (tapeL rs) :: tpB b vt rs.length n :: K) ?_ ⟨fun h => by rw [List.take_length] at h; exact h⟩
    refine RS.formD (l := rs) v3 (fun a7 c7 e7 hc7 => ?_); subst e7
    refine RS.freezeQ (l := rs) (.slice a7 rs.length c7) (fun σ3 k3 hr7 => ?_)
    refine zN ?_; refine mvL ?_
    refine callP ?_ (hc := fun w' hw => clip_c a7 rs.length c7 hr7.1.cap w')
    refine asL ?_; refine LS.done ?_
    refine zN ?_; refine RS.ret1 (v := .slice _ _ _) Tryz.func15 fun w hw => ?_
    exact ⟨_, σ3, PH.le_trans hle (PH.le_trans hle2 k3), ⟨hr7.1.recap (Nat.le_refl _), hr7.2.recap (Nat.le_refl _)⟩, rfl, closeTp hw⟩
end
end Go.Proofs.YtealabaiamaojaaGreatDoor
namespace Go.Proofs.YtealabaiamaojaaGreatDoor
open Go.JW Go.RowKit
def refL (rs : List RecD) : List ByteArray := (linesP rs).map B
section
variable {w0 : World} {M : Nat → Prop} {σ : PH} {K : List HP} {b n : Nat} {rs : List RecD}
theorem lines_s (ho : Oks rs) (hl : rs.length ≤ 1000000) (w : World) (hw : Sat w0 M σ (tapHP b rs n :: K) w) :
    Calls Tryz.prog 17 #[.pointer (some ⟨b, 0, none⟩)] w fun e w' => ∃ v σ', PH.le σ σ' ∧ RepL σ' v (refL rs) ∧ e = .returned v ∧ Sat w0 M σ' (tapHP b rs n :: K) w' := by
  obtain ⟨v, h1, h2⟩ := readTp ho hl hw
  have hll : (linesP rs).length = rs.length := by simp [linesP]
  refine (lines_c (linesP rs) (lines_uni ho) (by omega) (fun l hl => by obtain ⟨r, hr, rfl⟩ := List.mem_map.1 hl; exact textP_size (ho r hr)) v [.int .i64 n] b w (by rw [hll]; exact h1) h2).mono fun e w' ⟨v', g1, g2, g3⟩ => ?_
  exact ⟨v', grow σ w w', grow_le hw, g3.mono (since_le _ _ _), g1, hw.grow g2⟩
end
def recA : RecD := { rec0 with kind := 5, gang := 2 }
theorem recA_ok : checkP recA = 0 := by decide
theorem recA_text : textP recA = [97, 98, 111, 114, 116, 32, 50] := by decide +kernel
theorem recA_rep (σ : PH) : Rep.rep σ (recC recA nilV nilV nilV nilV) recA := ⟨_, _, _, _, rfl, ⟨by decide, by decide⟩, ⟨by decide, by decide⟩, RepL.nil _ _ _, RepQ.nil _ _ _, Nat.zero_le _, ⟨by decide, by decide⟩, ⟨by decide, by decide⟩, RepL.nil _ _ _, RepL.nil _ _ _⟩
theorem oks_nil : Oks [] := fun _ h => absurd h (List.not_mem_nil)
theorem oks_app {a : List RecD} {r : RecD} (h : Oks a) (hr : checkP r = 0) : Oks (a ++ [r]) := fun x hx => (List.mem_append.1 hx).elim (h x) fun e => by rw [List.mem_singleton.1 e]; exact hr
theorem known9_s {w0 : World} {M : Nat → Prop} {σ : PH} {K : List HP} (hL : LibAt σ) (w : World) (hw : Sat w0 M σ K w) :
    Calls Tryz.prog 11 #[] w fun e w' => ∃ v σ', PH.le σ σ' ∧ v = .bool true ∧ e = .returned v ∧ Sat w0 M σ' K w' := by
  refine RS.enterK Tryz.func11 Tryz.ntmps11 rfl rfl hw ?_
  refine zN ?_; refine asB ?_; refine LS.done ?_
  refine zN ?_; skip
  refine callX (fun b : Nat => .pointer (some ⟨b, 0, none⟩)) (fun _ => σ) (fun b => tapHP b [] 0 :: K) (fun _ => True) (fun bt _ => ?_) (fun w' hw => (tnew_s w' hw).mono fun _ _ ⟨b, h1, h2⟩ => ⟨b, h1, h2, trivial⟩)
  refine asP ?_; refine LS.done ?_
  refine zN ?_; refine mvP ?_; refine bin_eql_P ?_; refine mvB ?_; refine LS.on ?_; refine mvP ?_; refine LS.on ?_
  refine callQ (fun v σ' => RepQ 33 σ' v ([] : List RecD)) (tapHP bt [] 0 :: K) (fun v8 σ1 k1 hr1 => ?_) (hc := fun w' hw => all_s oks_nil (by simp) hL w' hw)
  obtain ⟨a8, c8, rfl⟩ := hr1.form
  refine LS.on ?_; refine lenL ?_; refine LS.on ?_; refine neI ?_; refine pk (v := .bool _) ?_; refine LS.done ?_
  refine zN ?_
  refine RS.condF ?_
  refine zN ?_; refine mvP ?_; refine bld (vals := [(0, .int _ _), (1, .int _ _)]) [_, _, _, _, _, _, _, _, _, _] ?_
  refine callQ (fun v _ => v = .tuple #[]) (tapHP bt [recA] 0 :: K) (fun v14 σ2 k2 hq2 => ?_) (hc := fun w' hw => write_s recA (recC recA nilV nilV nilV nilV) recA_ok oks_nil (by simp) (hL.mono k1) (fun w _ => recA_rep _) w' hw)
  subst hq2
  refine LS.done ?_
  have hoA : Oks [recA] := oks_app oks_nil recA_ok
  refine zN ?_; refine mvP ?_
  refine callQ (fun v σ' => RepL σ' v (refL [recA])) (tapHP bt [recA] 0 :: K) (fun v16 σ3 k3 hr3 => ?_) (hc := fun w' hw => lines_s hoA (by simp) w' hw)
  obtain ⟨a16, c16, rfl⟩ := hr3.form
  obtain ⟨b16, o16, rfl, hrow⟩ := hr3.addr (by simp [refL, linesP])
  obtain ⟨hcell, _⟩ := hrow.str 0 (by decide)
  rw [show (refL [recA])[0]'(by decide) = B [97, 98, 111, 114, 116, 32, 50] by simp [refL, linesP, recA_text]] at hcell
  refine asL ?_; refine LS.done ?_
  refine zN ?_; refine mvL ?_; refine lenL ?_; refine eqI ?_; refine mvB ?_; refine LS.on ?_; refine mvL ?_; refine LS.on ?_; refine idx (i := 0) ?_ (hi := by simp [refL, linesP]); refine LS.on ?_; refine ldS hcell ?_; refine LS.on ?_; refine eqS ?_; rw [decide_eq_true (show B [97, 98, 111, 114, 116, 32, 50] = ⟨#[97, 98, 111, 114, 116, 32, 50]⟩ from rfl)]; refine pk (v := .bool _) ?_; refine mvB ?_; refine LS.on ?_; refine mvP ?_; refine LS.on ?_
  refine callS _ (tapHP bt [recA] 0 :: K) ?_ (hc := fun w' hw => lasting_s w' hw)
  refine LS.on ?_; refine eqI ?_; refine pk (v := .bool _) ?_; refine asB ?_; refine LS.done ?_
  refine zN ?_; refine RS.ret1 (v := .bool _) Tryz.func11 fun w hw => ?_
  exact ⟨_, σ3, PH.le_trans k1 (PH.le_trans k2 k3), rfl, rfl, hw.weak fun F h => h.tail⟩
end Go.Proofs.YtealabaiamaojaaGreatDoor
namespace Go.Proofs.YtealabaiamaojaaGreatDoor
open Go.JW Go.RowKit
theorem CellsL.ru {σ σ' : PH} : ∀ {l : List Ru} {cs : List Value}, CellsL σ cs l → CellsL σ' cs l := by
  intro l
  induction l with
  | nil => intro cs h; exact h
  | cons x l ih => rintro cs ⟨c1, c2, rfl, h1, h2⟩; exact ⟨c1, c2, rfl, h1, ih h2⟩
theorem rowRu_calm {e : Nat} {v : Value} {l : List Ru} {σ σ' c : PH} {F : Nat → Prop} (h : (rowD 0 e v l).h ⟨σ, c⟩ F) : (rowD 0 e v l).h ⟨σ', c⟩ F := by
  obtain ⟨cs, h1, h2⟩ := h
  exact ⟨cs, CellsL.ru h1, h2⟩
instance tap_calm {b n : Nat} {rs : List RecD} : Calm1 (tapHP b rs n) where
  at_ := fun ⟨v, F1, h1, h2, h3⟩ => ⟨v, F1, rowRu_calm h1, h2, (inferInstance : JW.Calm [tpB b v rs.length n]).at_ h3⟩
theorem rep_q {σ : PH} {R : RecD} {f : Fm} (h : Rep.rep σ (rcV R f) R) : RepQ 37 σ (.slice f.a2 R.places.length f.c2) R.places := by
  obtain ⟨vp, vq, vm, vt, e, _, _, _, hq, _⟩ := h
  simp only [rcV, recC, List.cons.injEq, true_and, and_true] at e
  rw [e.2.1]; exact hq
theorem own_q {σ : PH} {R : RecD} {f : Fm} (h : OwnR σ (rcV R f) R) : OwnV 3 1 σ (.slice f.a1 R.peers.length f.c1) R.peers.length ∧ OwnV 9 1 σ (.slice f.a3 R.node.marks.length f.c3) R.node.marks.length := by
  obtain ⟨vp, vq, vm, vt, e, h1, h2⟩ := h
  simp only [rcV, recC, List.cons.injEq, true_and, and_true] at e
  obtain ⟨e1, e2, e3, e4⟩ := e
  exact ⟨by rw [e1]; exact h1, by rw [e3]; exact h2⟩
def libP (σ : PH) : PH := fun b => if b = 0 ∨ b = 2 ∨ b = 3 then σ b else none
theorem libP_le (σ : PH) : PH.le (libP σ) σ := fun b o h => by
  simp only [libP] at h; split at h
  · exact h
  · cases h
theorem lib_libP {σ : PH} (h : LibAt σ) : LibAt (libP σ) := by
  obtain ⟨h1, h2, m, h3⟩ := h
  refine ⟨?_, ?_, m, ?_⟩
  · obtain ⟨T, r, h⟩ := h1; exact ⟨T, r, (show libP σ 0 = σ 0 by simp [libP]).trans h⟩
  · obtain ⟨T, r, h⟩ := h2; exact ⟨T, r, (show libP σ 2 = σ 2 by simp [libP]).trans h⟩
  · have : libP σ 3 = σ 3 := by simp [libP]
    simp only [PH.cell, this]; exact h3
theorem lib_no_str {σ : PH} (h : LibAt σ) {b : Nat} (hb : b = 0 ∨ b = 2 ∨ b = 3) {s : ByteArray} : σ.cell b 0 ≠ some (.string s) := by
  obtain ⟨⟨T1, r1, h1⟩, ⟨T2, r2, h2⟩, m, h3⟩ := h
  rcases hb with rfl | rfl | rfl
  · intro e
    simp only [PH.cell, h1] at e
    rw [List.getElem?_toArray, List.getElem?_map] at e
    cases h : Lib.asciiSpaceTab[0]? with
    | none => rw [h] at e; cases e
    | some z => rw [h] at e; cases e
  · intro e
    simp only [PH.cell, h2] at e
    rw [List.getElem?_toArray, List.getElem?_map] at e
    cases h : Lib.pow10Tab[0]? with
    | none => rw [h] at e; cases e
    | some z => rw [h] at e; cases e
  · rw [h3]; intro e; cases e
theorem places_new {σ τ : PH} {v : Value} {l : List PlaceD} {e b cap : Nat} (hL : LibAt σ) (hd : ∀ b o, τ b = some o → libP σ b = some o ∨ σ b = none) (hq : RepQ e τ v l) (hn : l.length ≠ 0) (hv : v = .slice (some ⟨b, 0, none⟩) l.length cap) : σ b = none ∧ ∃ c0, τ b = some (.cells (List.toArray c0) e (0, 0)) := by
  obtain ⟨⟨_, a, c, e1, _, hr⟩, ho⟩ := hq
  subst hv
  injection e1 with e1 _ _
  subst e1
  obtain ⟨b', o', e2, hrow⟩ := hr (fun h => hn (by rw [h]; rfl))
  injection e2 with e2
  injection e2 with e2 e3 _
  subst e2; subst e3
  obtain ⟨vs, h1, h2⟩ := hrow 0 (by omega)
  have hc := h1 0 (by show 0 < 5; omega)
  rw [h2.1] at hc
  have hc : τ.cell b 0 = some (.string (l[0]'(by omega)).pod) := hc
  rcases ho with h0 | ⟨b2, c0, cap2, g1, _, g3, _⟩
  · exact absurd h0 hn
  · injection g1 with g1 _ _
    injection g1 with g1
    injection g1 with g1 _ _
    subst g1
    refine ⟨?_, c0, g3⟩
    rcases hd b _ g3 with h | h
    · have hb : b = 0 ∨ b = 2 ∨ b = 3 := by
        refine Classical.byContradiction fun hb => ?_
        simp only [libP] at h; rw [if_neg hb] at h; cases h
      have h5 : σ b = some (.cells (List.toArray c0) e (0, 0)) := libP_le σ b _ h
      refine absurd ?_ (lib_no_str hL hb (s := (l[0]'(by omega)).pod))
      simp only [PH.cell, g3] at hc
      simp only [PH.cell, h5]; exact hc
    · exact h
theorem new_of {σ : PH} {w : World} {b : Nat} (hle : PH.le (hp w) σ) (h : σ b = none) : w.heap.size ≤ b := Nat.le_of_not_lt fun hlt => by
  have h5 : hp w b = some w.heap[b] := Array.getElem?_eq_getElem hlt
  rw [hle b _ h5] at h; cases h
end Go.Proofs.YtealabaiamaojaaGreatDoor
namespace Go.Proofs.YtealabaiamaojaaGreatDoor
open Go.JW Go.RowKit
noncomputable def laid7 : List (String × DataW Unit) := Rows.tapePlaysRow.laid
theorem tabAt_of {W : World} {g : Nat} {name : String} {k : IntKind} {zs : List Int} (h : Lib.TabIs Tryz.prog W name k zs) (hg : Tryz.prog.globalNamed name = some g) : TabAt (hp W) g (zs.map fun z => Value.int k z).toArray := by
  unfold Lib.TabIs World.var? at h
  rw [hg, Option.bind_some] at h
  split at h
  · rename_i cs T r hb
    injection h with h
    subst h
    exact ⟨T, r, hb⟩
  · cases h
theorem gSpc : Tryz.prog.globalNamed "strings.asciiSpace" = some 0 := by kernel_rfl
theorem gPow : Tryz.prog.globalNamed "internal/strconv.uint64pow10" = some 2 := by kernel_rfl
theorem tSpc : (Tryz.prog.globals[0]?).map (·.type) = some 118 := by kernel_rfl
theorem tPow : (Tryz.prog.globals[2]?).map (·.type) = some 190 := by kernel_rfl
theorem cSpc : Tryz.prog.cellsOf 118 = 256 := by kernel_rfl
theorem cPow : Tryz.prog.cellsOf 190 = 20 := by kernel_rfl
theorem cU8 : Tryz.prog.cellsOf 5 = 1 := by kernel_rfl
theorem cU64 : Tryz.prog.cellsOf 171 = 1 := by kernel_rfl
theorem all_plain : laid7.filter (fun x => x.2.handleName?.isNone) = laid7 := by kernel_rfl
theorem plain7 {W : World} (h : laidMetH Tryz.prog laid7 W) : laidMet Tryz.prog laid7 W := by
  have h1 := (laidMetH_iff.1 h).1
  rwa [all_plain] at h1
theorem only_pow : laid7.filter (fun x => x.1 == "internal/strconv.uint64pow10") = [("internal/strconv.uint64pow10", Lib.tabData .u64 Lib.pow10Tab)] := by kernel_rfl
theorem only_spc : laid7.filter (fun x => x.1 == "strings.asciiSpace") = [("strings.asciiSpace", Lib.tabData .u8 Lib.asciiSpaceTab)] := by kernel_rfl
theorem lib_of {W : World} (h : laidMetH Tryz.prog laid7 W) (hs : W.ShapedOpen Tryz.prog) : LibAt (hp W) := by
  have h := plain7 h
  have h1 := h.filter fun x => x.1 == "internal/strconv.uint64pow10"
  have h2 := h.filter fun x => x.1 == "strings.asciiSpace"
  rw [only_pow] at h1
  rw [only_spc] at h2
  obtain ⟨m, hm⟩ := cell_of_shapedOpen_int (P := Tryz.prog) (g := 3) (k := .i64) hs (of_decide_eq_true (by kernel_rfl)) (t := 3) (zero := #[.int .i64 0]) (by kernel_rfl) rfl (by kernel_rfl) (by kernel_rfl) TInt.eq
  exact ⟨tabAt_of (Lib.tabIs_of_head (rest := []) gSpc tSpc Tryz.underlying118 Tryz.underlying5 cU8 cSpc h2) gSpc,
    tabAt_of (Lib.tabIs_of_head (rest := []) gPow tPow Tryz.underlying190 Tryz.underlying171 cU64 cPow h1) gPow, m, PH.cell_world.trans hm⟩
theorem laid_met7 (os : Os) (args : Array Value) : laidMet Tryz.prog laid7 ((World.laidAll Tryz.prog os laid7).forCall (fun _ _ => 0) ⟨#[], args, []⟩).memory := laidMet_laidAll args (by kernel_rfl) (by kernel_rfl)
theorem shaped7 (os : Os) (args : Array Value) : ((World.laidAll Tryz.prog os laid7).forCall (fun _ _ => 0) ⟨#[], args, []⟩).Shaped Tryz.prog := World.shaped_of_ZipB (by kernel_rfl) (by kernel_rfl)
theorem witness7 {H : Type} {enc : TypeId × Value → H} {f : FuncId} {fn : Func} {s : OpenSpec} {conds : List PathCond} {apart : Bool} (os : Os) (args : Array Value)
    (hok : Input.okWideB Tryz.prog ((World.laidAll Tryz.prog os laid7).forCall (fun _ _ => 0) ⟨#[], args, []⟩) f ⟨#[], args, []⟩ = true)
    (hrow : s.preRow enc Tryz.prog fn conds apart laid7 ((World.laidAll Tryz.prog os laid7).forCall (fun _ _ => 0) ⟨#[], args, []⟩).memory args) :
    ∃ (w : World) (tape : Tape) (i : Input), w.os = os ∧ (w.forCall tape i).Shaped Tryz.prog ∧ i.vars = [] ∧ Input.okWide Tryz.prog (w.forCall tape i) .any w.heap.size f i ∧
      s.preRow enc Tryz.prog fn conds apart laid7 (w.forCall tape i).memory i.args ∧ ({} : Assume).holds Tryz.prog (lone (Frame.enter Tryz.prog f i.args .normal) [] (w.forCall tape i)) :=
  ⟨World.laidAll Tryz.prog os laid7, fun _ _ => 0, ⟨#[], args, []⟩, World.laidAll_os _ _ _, shaped7 os args, (Input.okWide_of_okWideB (base := 0) hok).1, (Input.okWide_of_okWideB hok).2, hrow, by
    simp only [Assume.holds]
    exact ⟨by simp, by simp, fun _ => Modest.zero, by simp, by simp⟩⟩
end Go.Proofs.YtealabaiamaojaaGreatDoor
namespace Go.JW

abbrev Sized (l : List Nat) : Prop := ∀ n ∈ l, n ≤ 140737488351232
class OpenT (P : Program) (t : TypeId) (α : Type) [Rep α] : Prop where
  open_ : ∀ {H : Type} {enc : TypeId × Value → H} {w : World} {base : Nat} {sp : Nat → Bool} {held : Bool} {fuel : Nat} {cs : List Value} {x : DataW H × List MemPlace},
    DataW.trod enc P w base sp held fuel t cs = some x → Sized (x.1.weights P t) → ∃ a : α, Rep.rep (hp w) cs a
section
variable {P : Program} {t e : TypeId}
theorem wfI64 {n : Int} (h : (Lit.int .i64 n).wf = true) : I64 n := by
  simp only [Lit.wf, Bool.and_eq_true, decide_eq_true_eq] at h
  exact h
instance OpenT.int [ht : TInt P t .i64] : OpenT P t Int where
  open_ h _ := by
    obtain ⟨n, rfl, _, hw⟩ := DataW.trod_int ht.eq h
    exact ⟨n, rfl, wfI64 hw⟩
instance OpenT.bool [ht : TBool P t] : OpenT P t Bool where
  open_ h _ := by
    obtain ⟨n, rfl, _⟩ := DataW.trod_bool ht.eq h
    exact ⟨n, rfl⟩
instance OpenT.str [ht : TStr P t] : OpenT P t ByteArray where
  open_ h hs := by
    obtain ⟨s, rfl, rfl, hw⟩ := DataW.trod_string ht.eq h
    refine ⟨s, rfl, ?_⟩
    have h1 : s.data.toList.length ≤ 140737488351232 := hs _ (by rw [DataW.weights]; exact List.mem_singleton.2 rfl)
    have e : s.data.toList.length = s.size := Array.length_toList
    omega
theorem mem_weightsAll {H : Type} {d : DataW H} : ∀ {ds : List (DataW H)}, d ∈ ds → ∀ n ∈ d.weights P e, n ∈ DataW.weightsAll P e ds := by
  intro ds
  induction ds with
  | nil => intro h; cases h
  | cons x ds ih =>
    intro h n hn
    rw [DataW.weightsAll, List.mem_append]
    rcases List.mem_cons.1 h with h | h
    · subst h; exact .inl hn
    · exact .inr (ih h n hn)
theorem cellsOf_sz {s : Nat} (h : szOf P t = some s) : P.cellsOf t = s := by unfold szOf at h; unfold Program.cellsOf; rw [h]; rfl
theorem OpenT.slice {α : Type} [Rep α] {s by_ : Nat} [ht : TSlice P t e] [it : OpenT P e α] [hs0 : TSz P e s] [hb0 : TBytes P e by_] (hz0 : Nat.beq s (Rep.sz α) = true := by rfl) (hpos : 0 < Rep.sz α := by decide) (hby : 0 < by_ := by decide) : OpenT P t (List α) where
  open_ := by
    have hz : P.cellsOf e = Rep.sz α := (cellsOf_sz hs0.eq).trans (Nat.eq_of_beq_eq_true hz0)
    have hb : 0 < P.bytesOf e := by unfold Program.bytesOf; rw [hb0.eq]; exact hby
    intro H enc w base sp held fuel cs x h hs
    rcases DataW.trod_slice ht.eq h with ⟨rfl, _⟩ | ⟨a, len, cap, elems, rest, n, _, rfl, hx, hbase, hl, hm, hlen, hel, _⟩
    · exact ⟨[], _, rfl, RepL.nil _ _ _⟩
    · subst hx
      rw [DataW.weights, ht.eq] at hs
      simp only [List.length_map] at hs
      have hw0 : (elems.length + rest.length) * P.bytesOf e ≤ 140737488351232 := hs _ (by simp)
      have hlen47 : len ≤ 140737488355328 := by
        have : len * 1 ≤ (elems.length + rest.length) * P.bytesOf e := Nat.mul_le_mul (by omega) hb
        omega
      have each : ∀ i, i < len → ∃ (vs : List Value) (d : α), (∀ j, j < Rep.sz α → w.cell? ((a.add (i * Rep.sz α)).add j) = vs[j]?) ∧ vs.length = Rep.sz α ∧ Rep.rep (hp w) vs d := by
        intro i hi
        have h1 := hel i hi
        rw [hz] at h1
        have hi' : i < elems.length := by omega
        rw [List.getElem?_eq_getElem hi', Option.bind_eq_some_iff] at h1
        obtain ⟨vs, h2, h3⟩ := h1
        obtain ⟨_, h4, h5⟩ := World.cells?_some h2
        obtain ⟨d, hd⟩ := it.open_ h3 (fun m hm => hs m (by
          simp only [List.mem_cons, List.mem_append]
          right; left
          exact mem_weightsAll (List.mem_map.2 ⟨elems[i], List.getElem_mem _, rfl⟩) m hm))
        exact ⟨vs, d, h5, h4, hd⟩
      have key : ∀ m, m ≤ len → ∃ l : List α, l.length = m ∧ ∀ i (h : i < l.length), ∃ vs : List Value, (∀ j, j < Rep.sz α → w.cell? ((a.add (i * Rep.sz α)).add j) = vs[j]?) ∧ vs.length = Rep.sz α ∧ Rep.rep (hp w) vs l[i] := by
        intro m
        induction m with
        | zero => intro _; exact ⟨[], rfl, fun i h => by simp at h⟩
        | succ m ih =>
          intro hm'
          obtain ⟨l, h1, h2⟩ := ih (by omega)
          obtain ⟨vs, d, g1, g2, g3⟩ := each m (by omega)
          refine ⟨l ++ [d], by simp [h1], fun i hi => ?_⟩
          by_cases e : i < l.length
          · obtain ⟨vs', k1, k2, k3⟩ := h2 i e
            exact ⟨vs', k1, k2, by rw [List.getElem_append_left e]; exact k3⟩
          · have : i = m := by simp at hi; omega
            subst this
            refine ⟨vs, g1, g2, ?_⟩
            have e2 : (l ++ [d])[i]'hi = d := by rw [List.getElem_append_right (by omega)]; simp
            rw [e2]; exact g3
      obtain ⟨l, h1, h2⟩ := key len (Nat.le_refl _)
      refine ⟨l, _, rfl, by omega, some a, cap, by rw [h1], by omega, fun hn => ?_⟩
      have h0 : 0 < l.length := List.length_pos_iff.2 hn
      have hspot : a.spot = none := by
        obtain ⟨vs, k1, k2, _⟩ := h2 0 h0
        have := k1 0 hpos
        rw [Nat.zero_mul] at this
        simp only [Addr.add, if_true] at this
        unfold World.cell? at this
        rw [List.getElem?_eq_getElem (by omega)] at this
        cases hsp : a.spot with
        | none => rfl
        | some s => rw [hsp] at this; cases hb : w.heap[a.block]? with
          | none => rw [hb] at this; simp at this
          | some o => rw [hb] at this; cases o <;> simp at this
      obtain ⟨b, o, spot⟩ := a
      simp only at hspot
      subst hspot
      refine ⟨b, o, rfl, fun i hi => ?_⟩
      obtain ⟨vs, k1, k2, k3⟩ := h2 i hi
      refine ⟨vs, fun j hj => ?_, k3⟩
      rw [PH.cell_world, ← k1 j hj, add_off, add_off]
theorem OpenT.fields {H : Type} {enc : TypeId × Value → H} {w : World} {base : Nat} {sp : Nat → Bool} {held : Bool} {fuel : Nat} {cs : List Value} {x : DataW H × List MemPlace} {fs : Array Field} (ht : P.underlying t = some (.struct fs))
    (h : DataW.trod enc P w base sp held fuel t cs = some x) (hs : Sized (x.1.weights P t)) :
    cs.length = P.cellsOf t ∧ ∀ (i τ off s : Nat) (α : Type) [Rep α] [OpenT P τ α] [TSz P τ s], (fs[i]?).map (fun f => (f.type, f.offset)) = some (τ, off) → ∃ a : α, Rep.rep (hp w) ((cs.drop off).take s) a := by
  obtain ⟨xs, n, _, rfl, hl, hxs, hf⟩ := DataW.trod_struct ht h
  refine ⟨hl, fun i τ off s α _ ho hsz hfi0 => ?_⟩
  rw [Option.map_eq_some_iff] at hfi0
  obtain ⟨f, hfi, e⟩ := hfi0
  injection e with e1 e2
  subst e1; subst e2
  have h1 := hf i f hfi
  rw [cellsOf_sz hsz.eq] at h1
  have hi : i < xs.length := by rw [hxs]; exact (Array.getElem?_eq_some_iff.1 hfi).1
  rw [List.getElem?_eq_getElem hi] at h1
  refine ho.open_ h1 fun m hm => hs m ?_
  rw [DataW.weights, ht]
  exact DataW.weights_mem_each (j := i) (t := f.type) (d := xs[i].1) (by rw [List.getElem?_map]; simp [hfi]) (by rw [List.getElem?_map, List.getElem?_eq_getElem hi]; rfl) m hm
theorem OpenT.arg {α : Type} [Rep α] {H : Type} {enc : TypeId × Value → H} {w : World} {base : Nat} {sp : Nat → Bool} {held : Bool} {v : Value} {d : DataW H} {ps : List MemPlace} {ts : List TypeId} {ds : List (DataW H)} {j : Nat} (o : OpenT P t α)
    (h : DataW.Trod enc P w base sp held t v d ps) (hs : (DataW.weightsEach P ts ds).all (· ≤ reachBytes) = true) (ht : ts[j]? = some t) (hd : ds[j]? = some d) : ∃ a : α, Rep.rep (hp w) v.cells.toList a := by
  obtain ⟨fuel, hf⟩ := h
  refine o.open_ hf fun n hn => ?_
  have := List.all_eq_true.1 hs n (DataW.weights_mem_each ht hd n hn)
  exact of_decide_eq_true this
end
end Go.JW
namespace Go.Proofs.YtealabaiamaojaaGreatDoor
open Go.JW Go.RowKit

instance : OpenT Tryz.prog 29 (List ByteArray) := OpenT.slice
instance : OpenT Tryz.prog 22 (List Int) := OpenT.slice
structure VecD where
  cpu : Int
  mem : Int
instance : Rep VecD where
  sz := 2
  rep _ cs p := cs = [.int .i64 p.cpu, .int .i64 p.mem] ∧ I64 p.cpu ∧ I64 p.mem
  len h := by obtain ⟨rfl, _⟩ := h; rfl
  one h := by obtain ⟨rfl, _⟩ := h; rfl
  mono h _ := h
theorem len2 {l : List Value} (h : l.length = 2) : ∃ a b, l = [a, b] := by
  match l, h with
  | [a, b], _ => exact ⟨a, b, rfl⟩
instance : OpenT Tryz.prog 28 VecD where
  open_ h hs := by
    obtain ⟨hl, hf⟩ := OpenT.fields Tryz.underlying28 h hs
    rw [show Tryz.prog.cellsOf 28 = 2 by kernel_rfl] at hl
    obtain ⟨c0, c1, rfl⟩ := len2 hl
    obtain ⟨a0, h0, i0⟩ := hf 0 3 0 _ Int rfl
    obtain ⟨a1, h1, i1⟩ := hf 1 3 1 _ Int rfl
    simp at h0 h1
    subst h0; subst h1
    exact ⟨⟨a0, a1⟩, rfl, i0, i1⟩
theorem len6 {l : List Value} (h : l.length = 6) : ∃ a b c d e f, l = [a, b, c, d, e, f] := by
  match l, h with
  | [a, b, c, d, e, f], _ => exact ⟨a, b, c, d, e, f, rfl⟩
instance : OpenT Tryz.prog 31 NodeD where
  open_ h hs := by
    obtain ⟨hl, hf⟩ := OpenT.fields Tryz.underlying31 h hs
    rw [show Tryz.prog.cellsOf 31 = 6 by kernel_rfl] at hl
    obtain ⟨c0, c2, c3, c4, c5, c6, rfl⟩ := len6 hl
    obtain ⟨a0, h0, i0⟩ := hf 0 9 0 _ ByteArray rfl
    obtain ⟨a2, h2, i2⟩ := hf 1 28 1 _ VecD rfl
    obtain ⟨a3, v3, h3, i3⟩ := hf 2 29 3 _ (List ByteArray) rfl
    obtain ⟨a4, v4, h4, i4⟩ := hf 3 29 4 _ (List ByteArray) rfl
    obtain ⟨a5, h5⟩ := hf 4 4 5 _ Bool rfl
    have h5' : _ = _ := h5
    simp at h0 h2 h3 h4 h5'
    obtain ⟨h2, h2'⟩ := h2
    subst h0; subst h2; subst h2'; subst h3; subst h4; subst h5'
    exact ⟨⟨a0, a2.cpu, a2.mem, a3, a4, a5⟩, _, _, rfl, i0, i2.1, i2.2, i3, i4⟩
end Go.Proofs.YtealabaiamaojaaGreatDoor
