/- The law SpecEight answers true. -/
import Derived.Test.YtejdccgebljmgaaEight
namespace Go.Proofs.Ytejdccgebljmgaa
open Go.JW Go.RowKit

theorem eight_c (n a b : Int) (w : World) : Calls Try.prog 10 #[.int .i64 n, .int .i64 a, .int .i64 b] w fun e w' => e = .returned (.bool true) ∧ Below w.heap.size w w' := by
  obtain ⟨a1, a2⟩ := wmod n 11 (by omega)
  refine RS.enter Try.func10 Try.ntmps10 rfl rfl ?_
  (repeat (first | refine RS.seq ?_ | refine RS.region ?_ | refine RS.regionQ ?_ (by kernel_rfl) (by kernel_rfl) | refine RS.skip ?_ | refine RS.inBlock ?_ | refine RS.block ?_ | refine RS.exit ?_)); refine asB ?_; refine LS.done ?_
  (repeat (first | refine RS.seq ?_ | refine RS.region ?_ | refine RS.regionQ ?_ (by kernel_rfl) (by kernel_rfl) | refine RS.skip ?_ | refine RS.inBlock ?_ | refine RS.block ?_ | refine RS.exit ?_)); skip
  refine callP ?_ (hc := fun w _ => known_c w)
  refine not_ ?_; refine LS.done ?_
  (repeat (first | refine RS.seq ?_ | refine RS.region ?_ | refine RS.regionQ ?_ (by kernel_rfl) (by kernel_rfl) | refine RS.skip ?_ | refine RS.inBlock ?_ | refine RS.block ?_ | refine RS.exit ?_)); refine RS.condF ?_
  (repeat (first | refine RS.seq ?_ | refine RS.region ?_ | refine RS.regionQ ?_ (by kernel_rfl) (by kernel_rfl) | refine RS.skip ?_ | refine RS.inBlock ?_ | refine RS.block ?_ | refine RS.exit ?_)); refine mvI ?_
  refine callP ?_ (hc := fun w _ => w3_c _ _ (by omega) (by omega) w)
  refine asI ?_; refine LS.done ?_
  obtain ⟨k, hk⟩ : ∃ k : Nat, (k : Int) = n % 11 := ⟨(n % 11).toNat, by omega⟩
  refine RS.as 7 (.int .i64 k) (by rw [hk]; rfl) ?_
  (repeat (first | refine RS.seq ?_ | refine RS.region ?_ | refine RS.regionQ ?_ (by kernel_rfl) (by kernel_rfl) | refine RS.skip ?_ | refine RS.inBlock ?_ | refine RS.block ?_ | refine RS.exit ?_)); refine bld (vals := [(0, .int _ _)]) [_, _] ?_; refine alloc_ (fun b8 => ?_); refine st (.agg _) _ ?_; refine LS.done ?_
  (repeat (first | refine RS.seq ?_ | refine RS.region ?_ | refine RS.regionQ ?_ (by kernel_rfl) (by kernel_rfl) | refine RS.skip ?_ | refine RS.inBlock ?_ | refine RS.block ?_ | refine RS.exit ?_)); refine asI ?_; refine LS.done ?_
  refine RS.nilRow 26 7 ?_
  (repeat (first | refine RS.seq ?_ | refine RS.region ?_ | refine RS.regionQ ?_ (by kernel_rfl) (by kernel_rfl) | refine RS.skip ?_ | refine RS.inBlock ?_ | refine RS.block ?_ | refine RS.exit ?_))
  refine RS.loopF (X := Nat × Option Addr × Nat) 9 38 (fun x => x.1 ≤ k) (fun x => [(9, .int .i64 x.1)]) (fun _ => hp w) (fun x => [rowH 26 7 (.slice x.2.1 x.1 x.2.2) x.1 (csE x.1), blk b8 (.cells (List.toArray [.int .i64 5, .slice x.2.1 x.1 x.2.2]) 48 (0, 0))]) (fun x => k - x.1) (0, none, 0) (by simp) ⟨rfl, trivial⟩ rfl ⟨fun h => h⟩ ?_
  rintro ⟨i, ad, cap⟩ g hi ih
  simp only at hi ih ⊢
  (repeat (first | refine RS.seq ?_ | refine RS.region ?_ | refine RS.regionQ ?_ (by kernel_rfl) (by kernel_rfl) | refine RS.skip ?_ | refine RS.inBlock ?_ | refine RS.block ?_ | refine RS.exit ?_)); refine mvI ?_; refine mvI ?_; refine ltI ?_; refine LS.done ?_
  (repeat (first | refine RS.seq ?_ | refine RS.region ?_ | refine RS.regionQ ?_ (by kernel_rfl) (by kernel_rfl) | refine RS.skip ?_ | refine RS.inBlock ?_ | refine RS.block ?_ | refine RS.exit ?_))
  by_cases hlt : i < k
  · refine RS.condT ?_ (h := by simp; omega)
    have hf1 : (List.foldl (fun (r : ByteArray) (n : Int) => r.push (UInt8.ofNat n.toNat)) ByteArray.empty [IntKind.u8.wrap (97 + (i : Int))]).size = 1 := by simp only [List.foldl]; rw [ByteArray.size_push]; rfl
    have hp1 : (⟨#[112]⟩ : ByteArray).size = 1 := rfl
    have hm1 := Int.tmod_lt_of_pos (i : Int) (show (0 : Int) < 2 by omega)
    have hm2 : 0 ≤ (i : Int).tmod 2 := Int.tmod_nonneg _ (by omega)
    (repeat (first | refine RS.seq ?_ | refine RS.region ?_ | refine RS.regionQ ?_ (by kernel_rfl) (by kernel_rfl) | refine RS.skip ?_ | refine RS.inBlock ?_ | refine RS.block ?_ | refine RS.exit ?_)); refine fld ?_; refine ld1 (v := .slice _ _ _) ?_; refine mvI ?_; (first | refine addN ?_ | refine addI ?_); refine cvI ?_; refine bldS [.int _ _] [.int _ _] (fun b28 => ?_); refine b2sB [IntKind.u8.wrap (97 + (i : Int))] ?_; refine addS ?_; refine mvI ?_; refine remI ?_; (first | refine addN ?_ | refine addI ?_); refine bld (vals := [(0, .string _), (1, .int _ _)]) [_, _, _, _, _, _, _] ?_; refine bldS [.agg (List.toArray (cE i))] (cE i) (fun b35 => ?_); refine appR (v := .slice ad i cap) (kk := 1) (vy := .slice (some ⟨b35, 0, none⟩) 1 1) (news := cE i) (fun w hw => srcB hw TSlice.eq) (fun v36 => ?_); refine LS.formR (v := v36) inferInstance (fun a36 c36 e36 => ?_); subst e36; refine fld ?_; refine st (.slice _ _ _) _ ?_; refine LS.done ?_
    (repeat (first | refine RS.seq ?_ | refine RS.region ?_ | refine RS.regionQ ?_ (by kernel_rfl) (by kernel_rfl) | refine RS.skip ?_ | refine RS.inBlock ?_ | refine RS.block ?_ | refine RS.exit ?_)); refine mvI ?_; (first | refine addN ?_ | refine addI ?_); refine asI ?_; refine LS.done ?_; (repeat (first | refine RS.seq ?_ | refine RS.region ?_ | refine RS.regionQ ?_ (by kernel_rfl) (by kernel_rfl) | refine RS.skip ?_ | refine RS.inBlock ?_ | refine RS.block ?_ | refine RS.exit ?_))
    exact ih (i + 1, a36, c36) hlt (by omega) ⟨rfl, trivial⟩ (by repeat (first | with_reducible exact Out.refl _ _ _ | exact Out.hv | refine Out.upd ?_ | refine Out.hvIn ?_)) ⟨fun h => h.tail.tail⟩ rfl
  · refine RS.condF ?_ (h := by simp; omega)
    obtain rfl : i = k := by omega
    clear ih hlt
    (repeat (first | refine RS.seq ?_ | refine RS.region ?_ | refine RS.regionQ ?_ (by kernel_rfl) (by kernel_rfl) | refine RS.skip ?_ | refine RS.inBlock ?_ | refine RS.block ?_ | refine RS.exit ?_)); refine asI ?_; refine LS.done ?_
    have hlit : ∀ {w' : World}, Sat w (fun _ => False) (hp w) [rowH 26 7 (.slice ad i cap) i (csE i), blk b8 (.cells (List.toArray [.int .i64 5, .slice ad i cap]) 48 (0, 0))] w' → Rep.rep (hp w') [.int .i64 5, .slice ad i cap] (⟨5, podsE i⟩ : GangD) := fun hw =>
      ⟨_, rfl, by show I64 5; decide, hw.rowRep (csE_reads (hp w) i (by omega)) hw.imm (by rw [podsE_length]; omega) (hm := (podsE_length i).symm)⟩
    (repeat (first | refine RS.seq ?_ | refine RS.region ?_ | refine RS.regionQ ?_ (by kernel_rfl) (by kernel_rfl) | refine RS.skip ?_ | refine RS.inBlock ?_ | refine RS.block ?_ | refine RS.exit ?_)); refine mvI ?_; refine ltI ?_; refine mvB ?_
    refine LS.cut 38 44 [(43, .bool (decide (i < 1 ∨ 8 < i)))] (fun gg => ?_) (fun J => ?_)
    rotate_left
    · refine LS.part 40 (fun g1 => ?_) (fun g1 => ?_)
      · refine LS.off ?_; refine LS.off ?_; refine pk (v := .bool _) ?_; refine LS.done ?_
        simp only [decide_eq_true_eq] at g1
        exact J ⟨boolV (by symm; exact decide_eq_true (by omega)), trivial⟩ (by repeat (first | with_reducible exact Out.refl _ _ _ | exact Out.hv | refine Out.upd ?_ | refine Out.hvIn ?_))
      · refine LS.on ?_; refine mvI ?_; refine LS.on ?_; refine gtI ?_; refine pk (v := .bool _) ?_; refine LS.done ?_
        simp only [decide_eq_false_iff_not] at g1
        exact J ⟨boolV (decide_eq_decide.2 (by omega)), trivial⟩ (by repeat (first | with_reducible exact Out.refl _ _ _ | exact Out.hv | refine Out.upd ?_ | refine Out.hvIn ?_))
    (repeat (first | refine RS.seq ?_ | refine RS.region ?_ | refine RS.regionQ ?_ (by kernel_rfl) (by kernel_rfl) | refine RS.skip ?_ | refine RS.inBlock ?_ | refine RS.block ?_ | refine RS.exit ?_))
    refine RS.cond (fun c => ?_) (fun c => ?_)
    · simp only [decide_eq_true_eq] at c
      (repeat (first | refine RS.seq ?_ | refine RS.region ?_ | refine RS.regionQ ?_ (by kernel_rfl) (by kernel_rfl) | refine RS.skip ?_ | refine RS.inBlock ?_ | refine RS.block ?_ | refine RS.exit ?_)); refine asI ?_; refine LS.done ?_
      (repeat (first | refine RS.seq ?_ | refine RS.region ?_ | refine RS.regionQ ?_ (by kernel_rfl) (by kernel_rfl) | refine RS.skip ?_ | refine RS.inBlock ?_ | refine RS.block ?_ | refine RS.exit ?_)); refine ldA [_, _] ?_
      refine callP ?_ (hc := fun w hw => gang_c _ ⟨5, podsE i⟩ 2 w (hlit hw))
      refine mvI ?_; refine neI ?_; refine mvB ?_
      refine LS.part 48 (fun g1 => ?_) (fun g1 => ?_)
      · exfalso; rw [gangE_ok (by omega), if_pos c] at g1; simp at g1
      · refine LS.on ?_; refine mvI ?_; refine LS.on ?_; refine neI ?_; refine pk (v := .bool _) ?_; refine LS.done ?_
        (repeat (first | refine RS.seq ?_ | refine RS.region ?_ | refine RS.regionQ ?_ (by kernel_rfl) (by kernel_rfl) | refine RS.skip ?_ | refine RS.inBlock ?_ | refine RS.block ?_ | refine RS.exit ?_))
        refine RS.condT ?_
        (repeat (first | refine RS.seq ?_ | refine RS.region ?_ | refine RS.regionQ ?_ (by kernel_rfl) (by kernel_rfl) | refine RS.skip ?_ | refine RS.inBlock ?_ | refine RS.block ?_ | refine RS.exit ?_)); refine ldA [_, _] ?_
        refine callP ?_ (hc := fun w hw => gang_c _ ⟨5, podsE i⟩ 2 w (hlit hw))
        refine mvI ?_; refine eqI ?_; refine asB ?_; refine LS.done ?_
        (repeat (first | refine RS.seq ?_ | refine RS.region ?_ | refine RS.regionQ ?_ (by kernel_rfl) (by kernel_rfl) | refine RS.skip ?_ | refine RS.inBlock ?_ | refine RS.block ?_ | refine RS.exit ?_)); refine RS.ret1 (v := .bool _) Try.func10 fun w hw => ?_
        exact ⟨retB (by rw [gangE_ok (by omega), if_pos c]; rfl), hw.below⟩
    · simp only [decide_eq_false_iff_not] at c
      (repeat (first | refine RS.seq ?_ | refine RS.region ?_ | refine RS.regionQ ?_ (by kernel_rfl) (by kernel_rfl) | refine RS.skip ?_ | refine RS.inBlock ?_ | refine RS.block ?_ | refine RS.exit ?_)); refine ldA [_, _] ?_
      refine callP ?_ (hc := fun w hw => gang_c _ ⟨5, podsE i⟩ 2 w (hlit hw))
      refine mvI ?_; refine neI ?_; refine mvB ?_
      refine LS.part 48 (fun g1 => ?_) (fun g1 => ?_)
      · exfalso; rw [gangE_ok (by omega), if_neg c] at g1; simp at g1
      · refine LS.on ?_; refine mvI ?_; refine LS.on ?_; refine neI ?_; refine pk (v := .bool _) ?_; refine LS.done ?_
        (repeat (first | refine RS.seq ?_ | refine RS.region ?_ | refine RS.regionQ ?_ (by kernel_rfl) (by kernel_rfl) | refine RS.skip ?_ | refine RS.inBlock ?_ | refine RS.block ?_ | refine RS.exit ?_))
        refine RS.condF ?_
        obtain ⟨d1, d2⟩ := wmod a i (by omega)
        obtain ⟨e1, e2⟩ := wmod b i (by omega)
        (repeat (first | refine RS.seq ?_ | refine RS.region ?_ | refine RS.regionQ ?_ (by kernel_rfl) (by kernel_rfl) | refine RS.skip ?_ | refine RS.inBlock ?_ | refine RS.block ?_ | refine RS.exit ?_)); refine mvI ?_; refine mvI ?_
        refine callP ?_ (hc := fun w _ => w3_c _ _ (by omega) (by omega) w)
        refine mvI ?_; refine mvI ?_
        refine callP ?_ (hc := fun w _ => w3_c _ _ (by omega) (by omega) w)
        refine asI ?_; refine asI ?_; refine LS.done ?_
        obtain ⟨i1, hi1⟩ : ∃ m : Nat, (m : Int) = a % i := ⟨(a % i).toNat, by omega⟩
        obtain ⟨j1, hj1⟩ : ∃ m : Nat, (m : Int) = b % i := ⟨(b % i).toNat, by omega⟩
        refine RS.as 11 (.int .i64 i1) (by rw [hi1]; rfl) ?_
        refine RS.as 12 (.int .i64 j1) (by rw [hj1]; rfl) ?_
        have hi1' : i1 < i := by omega
        have hj1' : j1 < i := by omega
        refine RS.openRow (v := .slice ad i cap) inferInstance (by omega) (fun bR c0 capR eR hcR hlR htR => ?_)
        injection eR with eR1 _ eR2
        subst eR1; subst eR2
        have hle : i * 7 ≤ c0.length := by rw [hlR]; exact Nat.mul_le_mul_right 7 hcR
        have hnm : nth c0 (0 + j1 * 7 + 0) = some (.string (letter ⟨#[112]⟩ j1)) := by rw [nth_eq, Nat.zero_add, c0_get htR hj1' (by omega)]; rfl
        (repeat (first | refine RS.seq ?_ | refine RS.region ?_ | refine RS.skip ?_ | refine RS.inBlock ?_ | refine RS.block ?_ | refine RS.exit ?_)); refine RS.drawK [.free, .ex, .free, .free, .ex, .free, .free, .free, .ex, .free, .free, .st] ?_ (by kernel_rfl) (by kernel_rfl); refine D.fld ?_; refine D.ld1 (v := .slice _ _ _) ?_; refine D.mvI ?_; refine D.fld ?_; refine D.ld1 (v := .slice _ _ _) ?_; refine D.mvI ?_; refine D.idx (i := j1) ?_; refine D.fld ?_; refine D.ld1 (v := .string (letter ⟨#[112]⟩ j1)) ?_ (hv := hnm); refine D.idx (i := i1) ?_; refine D.fld ?_
        refine D.stB (.string (letter ⟨#[112]⟩ j1)) _ ?_ (hr := by omega)
        refine D.done (fun us σ1 hle1 hfs => ?_)
        have hlit2 : ∀ {w' : World}, Sat w (fun _ => False) σ1 [blk bR (.cells (List.toArray (setAt c0 (0 + i1 * 7 + 0) [.string (letter ⟨#[112]⟩ j1)])) 26 (0, 0)), blk b8 (.cells (List.toArray [.int .i64 5, .slice (some ⟨bR, 0, none⟩) i cap]) 48 (0, 0))] w' → Rep.rep (hp w') [.int .i64 5, .slice (some ⟨bR, 0, none⟩) i cap] (⟨5, podsM i i1 j1⟩ : GangD) := fun hw =>
          ⟨_, rfl, by show I64 5; decide, rowM (hw.get (b := bR)) htR hle (by omega) hi1' hj1' hcR⟩
        refine RS.to (K' := [blk bR (.cells (List.toArray (setAt c0 (0 + i1 * 7 + 0) [.string (letter ⟨#[112]⟩ j1)])) 26 (0, 0)), blk b8 (.cells (List.toArray [.int .i64 5, .slice (some ⟨bR, 0, none⟩) i cap]) 48 (0, 0))]) ?_ ⟨fun h => h⟩
        (repeat (first | refine RS.seq ?_ | refine RS.region ?_ | refine RS.skip ?_ | refine RS.inBlock ?_ | refine RS.block ?_ | refine RS.exit ?_)); refine ldA [_, _] ?_
        refine callP ?_ (hc := fun w hw => gang_c _ ⟨5, podsM i i1 j1⟩ 2 w (hlit2 hw))
        refine eqI ?_; refine mvI ?_; refine mvI ?_; refine neI ?_; refine bin_eql_B ?_; refine mvB ?_
        have hG := gangM (k := i) (by omega) hi1' hj1'
        refine LS.part 80 (fun g2 => ?_) (fun g2 => ?_)
        · refine LS.on ?_; refine mvI ?_; refine LS.on ?_; refine mvI ?_; refine LS.on ?_; refine neI ?_; refine LS.on ?_; refine mvB ?_
          refine LS.part 84 (fun g3 => ?_) (fun g3 => ?_)
          · refine LS.off ?_; refine LS.off ?_; refine LS.off ?_; refine LS.on ?_; refine pk (v := .bool _) ?_; refine pk (v := .bool _) ?_; refine asB ?_; refine LS.done ?_
            (repeat (first | refine RS.seq ?_ | refine RS.region ?_ | refine RS.regionQ ?_ (by kernel_rfl) (by kernel_rfl) | refine RS.skip ?_ | refine RS.inBlock ?_ | refine RS.block ?_ | refine RS.exit ?_)); refine RS.ret1 (v := .bool _) Try.func10 fun w hw => ?_
            exact ⟨rfl, hw.below⟩
          · refine LS.on ?_; refine ldA [_, _] ?_; refine LS.on ?_
            refine callP ?_ (hc := fun w hw => gang_c _ ⟨5, podsM i i1 j1⟩ 2 w (hlit2 hw))
            refine LS.on ?_; refine eqI ?_; refine LS.on ?_; refine pk (v := .bool _) ?_; refine pk (v := .bool _) ?_; refine asB ?_; refine LS.done ?_
            (repeat (first | refine RS.seq ?_ | refine RS.region ?_ | refine RS.regionQ ?_ (by kernel_rfl) (by kernel_rfl) | refine RS.skip ?_ | refine RS.inBlock ?_ | refine RS.block ?_ | refine RS.exit ?_)); refine RS.ret1 (v := .bool _) Try.func10 fun w hw => ?_
            have hij : i1 = j1 := by simp at g3; omega
            exact ⟨retB (by rw [hG, if_pos hij]; rfl), hw.below⟩
        · exfalso
          by_cases hij : i1 = j1
          · rw [hG, if_pos hij] at g2; simp [hij] at g2
          · rw [hG, if_neg hij] at g2; simp at g2; omega
end Go.Proofs.Ytejdccgebljmgaa
