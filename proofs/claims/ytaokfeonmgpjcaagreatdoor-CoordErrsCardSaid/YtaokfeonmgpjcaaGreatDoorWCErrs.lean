/- The walk of CoordErrs. -/
import Derived.Test.YtaokfeonmgpjcaaGreatDoorQ4
namespace Go.Proofs.YtaokfeonmgpjcaaGreatDoor
open Go.JW Go.RowKit
namespace Errs
def L7 : List Int := [4, 2, 3, 2, 5, 5, 7]
theorem find1 {id : Int} (h : id ≠ 5) : findP (c1 2).gs id = none := by
  rw [find_none]
  intro x hx
  simp only [c1, List.mem_singleton] at hx
  subst hx
  exact fun h' => h h'.symm
theorem e0 : submitP 3 (c1 2) (gangK 5 3) = (c1 2, [], 4) := submit_twice (by rw [show gangK 5 3 = ⟨5, podsK 3⟩ from rfl, gangK_err (by omega) (by omega) 5 3 ⟨by omega, by omega⟩ (by omega)]; simp) (by rfl)
theorem e1 : submitP 3 (c1 2) (gangK 6 4) = (c1 2, [], 2) := by
  have h : gangErr (gangK 6 4) 3 = 2 := by
    unfold gangErr
    rw [if_neg (by decide), if_neg (by decide), if_pos (by decide +kernel)]
    decide +kernel
  rw [submit_bad (by rw [h]; decide), h]
theorem e2 : submitP 3 (c1 2) ⟨6, []⟩ = (c1 2, [], 3) := by
  have h : gangErr ⟨6, []⟩ 3 = 3 := by
    unfold gangErr
    rw [if_neg (by decide), if_pos (by decide)]
  rw [submit_bad (by rw [h]; decide), h]
theorem e3 {id : Int} (hid : id < 1) : submitP 3 (c1 2) (gangK id 1) = (c1 2, [], 2) := by
  have h : gangErr (gangK id 1) 3 = 2 := by
    unfold gangErr
    rw [if_pos (.inl hid)]
  rw [submit_bad (by rw [h]; decide), h]
end Errs
open Errs
theorem errs_c (which : Int) (_ : I64 which) (n : Int) (_ : I64 n) (w : World) (lib : LibAt (hp w)) :
    Calls Tryz.prog 4 #[.int .i64 which, .int .i64 n] w fun e w' => e = .returned (.bool true) ∧ Below w.heap.size w w' := by
  refine RS.enter Tryz.func4 Tryz.ntmps4 rfl rfl ?_
  have i0 : Inv c0 0 := inv0
  refine zN ?_; refine asB ?_; refine LS.done ?_
  refine zN ?_; skip
  refine callQ (fun v _ => v = .bool true) [] (fun v σ1 k1 hq => ?_) (hc := fun w' hw => known11_s lib w' hw)
  subst hq
  refine not_ ?_; refine LS.done ?_
  refine zN ?_
  refine RS.condF ?_
  refine zN ?_; skip
  refine callX (X := W11 × PH) (fun x => ptV x.1.w) (fun x => x.2) (fun x => CS x.1 c0 []) (fun x => PH.le σ1 x.2) (fun x hx => ?_) (fun w' hw => (open_w w' hw).mono fun _ _ ⟨x, h1, h2, h3⟩ => ⟨x, h1, h2, h3⟩)
  obtain ⟨z, σ2⟩ := x
  dsimp only at hx ⊢
  have lib2 : LibAt σ2 := lib.mono (PH.le_trans k1 hx)
  refine asP ?_; refine LS.done ?_
  refine zN ?_; refine mvP ?_; refine bin_eql_P ?_; refine LS.done ?_
  refine zN ?_
  refine RS.condF ?_
  have hsub := submitK (n := 2) (by omega) (by omega) 5 3 ⟨by omega, by omega⟩ (by omega)
  refine zD ?_; refine RS.draw [.free, .free, .free, .ex, .ex, .eff] [woH z] ?_ (by kernel_rfl) (by kernel_rfl) (by infer_instance); refine D.mvP ?_; refine D.nilck ?_; refine D.fld ?_; refine D.ld1 (v := .pointer _) ?_
  refine D.callN (fun v τ => RepA τ v (gangK (5) 2)) ?_ (hc := fun _ _ w' _ _ _ => gangA_c (5) 2 (by omega) ⟨by omega, by omega⟩ w')
  skip
  refine D.callWU (fun us => [ptV z.c, us 20]) (fun v τ => AnsM (allP (ggK 5 2)) 0 v τ) (ansM_mono _ _) (CS z (c1 2) []) ?_ (hc := fun us σ' w' X hle hfs hw => by
    obtain ⟨τ, hg, ht, _⟩ : ∃ τ, RepA τ (us 20) (gangK (5) 2) ∧ PH.le τ σ' ∧ New _ τ := by first | exact hfs.1 | exact hfs.2.1
    exact submitB (c := c0) ‹Inv (c0) _› (by omega) (lib2.mono hle) (hg.mono ht) hsub hw)
  refine D.done (fun us σ1 hle1 hfs => ?_)
  refine RS.ow ?_
  have lib4 := lib2.mono hle1
  have i1 : Inv (c1 2) 1 := inv1 (by omega) (by omega)
  clear hsub
  refine zN ?_; refine mvP ?_; refine nilck ?_; refine fld ?_; refine ld1 (v := .pointer _) ?_
  refine linesL i1 lib4 (fun a26 p26 σ5 k5 lib5 _ => ?_)
  rw [refL_len, show (c1 2).rs.length = 1 from rfl]
  refine lenL ?_; refine asI ?_; refine LS.done ?_
  refine zN ?_; refine mvI ?_
  refine callP ?_ (hc := fun w _ => w11_c _ _ (by omega) (by omega) w)
  obtain ⟨kk, hkk⟩ : ∃ kk : Nat, which % 7 = kk := ⟨(which % 7).toNat, by omega⟩
  have hk7 : kk < L7.length := by show kk < 7; omega
  obtain ⟨e, he⟩ : ∃ e, L7[kk]'hk7 = e := ⟨_, rfl⟩
  rw [hkk]
  refine asI ?_; refine LS.done ?_
  refine zN ?_; refine asL ?_; refine LS.done ?_
  refine zN ?_; refine asI ?_; refine LS.done ?_
  refine zN ?_; refine mvI ?_; refine LS.done ?_
  repeat refine RS.seq ?_
  refine RS.cut (X := Value × PH) 8 112 (fun x => LibAt x.2 ∧ RepL x.2 x.1 ([] : List MsgD)) (fun x => [(8, x.1), (9, .int .i64 e)]) (fun x => x.2) (fun x => CS z (c1 2) []) ?_ (fun J => ?_)
  rotate_left
  · refine zN ?_; refine eqI ?_; refine asB ?_; refine LS.done ?_
    refine zN ?_
    refine RS.cond (fun y => ?_) (fun y => ?_)
    · obtain rfl : kk = 0 := by have := of_decide_eq_true y; omega
      obtain rfl : (4 : Int) = e := he
      have hsub := e0
      refine zD ?_; refine RS.draw [.free, .free, .free, .ex, .ex, .eff, .ex, .ex, .ex, .ex, .free] [woH z] ?_ (by kernel_rfl) (by kernel_rfl) (by infer_instance); refine D.mvP ?_; refine D.nilck ?_; refine D.fld ?_; refine D.ld1 (v := .pointer _) ?_
      refine D.callN (fun v τ => RepA τ v (gangK (5) 3)) ?_ (hc := fun _ _ w' _ _ _ => gangA_c (5) 3 (by omega) ⟨by omega, by omega⟩ w')
      skip
      refine D.callWU (fun us => [ptV z.c, us 46]) (fun v τ => AnsM ([]) 4 v τ) (ansM_mono _ _) (CS z (c1 2) []) ?_ (hc := fun us σ' w' X hle hfs hw => by
        obtain ⟨τ, hg, ht, _⟩ : ∃ τ, RepA τ (us 46) (gangK (5) 3) ∧ PH.le τ σ' ∧ New _ τ := by first | exact hfs.1 | exact hfs.2.1
        exact submitB (c := c1 2) ‹Inv (c1 2) _› (by omega) (lib5.mono hle) (hg.mono ht) hsub hw)
      refine D.mvFT (fun v τ => AnsM ([]) 4 v τ) (ansM_mono _ _) ?_ (fun us σ' hle hf => hf.1)
      refine D.exFT (fun v τ => RepL τ v ([])) mono_L ?_ (fun us σ' hle hf => by obtain ⟨a, c, h1, h2⟩ := hf.1; exact ⟨_, _, h1, rfl, h2⟩)
      refine D.exV (.int .i64 4) ?_ (fun us σ' hle hf => by obtain ⟨a, c, h1, h2⟩ := hf.2.1; exact ⟨_, h1, rfl⟩)
      refine D.asFT (fun v τ => RepL τ v ([])) mono_L ?_ (fun us σ' hle hf => hf.1)
      refine D.asI ?_; refine D.done (fun us σ1 hle1 hfs => ?_)
      have hr6 : RepL σ1 (us 8) ([] : List MsgD) := hfs.1
      refine RS.ow ?_
      refine RS.inBlock ?_
      refine J (us 8, σ1) ⟨lib5.mono hle1, hr6⟩ ?_ ?_ ⟨fun h => h⟩ rfl
      · exact ⟨rfl, rfl, trivial⟩
      · exact Out.fill (by repeat (first | with_reducible exact Out.refl _ _ _ | exact Out.hv | refine Out.upd ?_ | refine Out.hvIn ?_)) rfl
    · refine zN ?_; refine eqI ?_; refine asB ?_; refine LS.done ?_
      refine zN ?_
      refine RS.cond (fun y => ?_) (fun y => ?_)
      · obtain rfl : kk = 1 := by have := of_decide_eq_true y; omega
        obtain rfl : (2 : Int) = e := he
        have hsub := e1
        refine zD ?_; refine RS.draw [.free, .free, .free, .ex, .ex, .eff, .ex, .ex, .ex, .ex, .free] [woH z] ?_ (by kernel_rfl) (by kernel_rfl) (by infer_instance); refine D.mvP ?_; refine D.nilck ?_; refine D.fld ?_; refine D.ld1 (v := .pointer _) ?_
        refine D.callN (fun v τ => RepA τ v (gangK (6) 4)) ?_ (hc := fun _ _ w' _ _ _ => gangA_c (6) 4 (by omega) ⟨by omega, by omega⟩ w')
        skip
        refine D.callWU (fun us => [ptV z.c, us 57]) (fun v τ => AnsM ([]) 2 v τ) (ansM_mono _ _) (CS z (c1 2) []) ?_ (hc := fun us σ' w' X hle hfs hw => by
          obtain ⟨τ, hg, ht, _⟩ : ∃ τ, RepA τ (us 57) (gangK (6) 4) ∧ PH.le τ σ' ∧ New _ τ := by first | exact hfs.1 | exact hfs.2.1
          exact submitB (c := c1 2) ‹Inv (c1 2) _› (by omega) (lib5.mono hle) (hg.mono ht) hsub hw)
        refine D.mvFT (fun v τ => AnsM ([]) 2 v τ) (ansM_mono _ _) ?_ (fun us σ' hle hf => hf.1)
        refine D.exFT (fun v τ => RepL τ v ([])) mono_L ?_ (fun us σ' hle hf => by obtain ⟨a, c, h1, h2⟩ := hf.1; exact ⟨_, _, h1, rfl, h2⟩)
        refine D.exV (.int .i64 2) ?_ (fun us σ' hle hf => by obtain ⟨a, c, h1, h2⟩ := hf.2.1; exact ⟨_, h1, rfl⟩)
        refine D.asFT (fun v τ => RepL τ v ([])) mono_L ?_ (fun us σ' hle hf => hf.1)
        refine D.asI ?_; refine D.done (fun us σ1 hle1 hfs => ?_)
        have hr6 : RepL σ1 (us 8) ([] : List MsgD) := hfs.1
        refine RS.ow ?_
        refine RS.inBlock ?_
        refine J (us 8, σ1) ⟨lib5.mono hle1, hr6⟩ ?_ ?_ ⟨fun h => h⟩ rfl
        · exact ⟨rfl, rfl, trivial⟩
        · exact Out.fill (by repeat (first | with_reducible exact Out.refl _ _ _ | exact Out.hv | refine Out.upd ?_ | refine Out.hvIn ?_)) rfl
      · refine zN ?_; refine eqI ?_; refine asB ?_; refine LS.done ?_
        refine zN ?_
        refine RS.cond (fun y => ?_) (fun y => ?_)
        · obtain rfl : kk = 2 := by have := of_decide_eq_true y; omega
          obtain rfl : (3 : Int) = e := he
          refine zN ?_; refine mvP ?_; refine nilck ?_; refine fld ?_; refine ld1 (v := .pointer _) ?_; refine bld (vals := [(0, .int _ _)]) [_, _] ?_
          refine submitE (g := ⟨6, []⟩) i1 ⟨by decide, by decide⟩ (RepL.nil _ _ _) lib5 e2 (fun a69 p69 σ6 k6 lib6 r69 => ?_)
          refine mvT ?_; refine extr (v := .slice _ _ _) ?_; refine extr (v := .int _ _) ?_; refine asL ?_; refine asI ?_; refine LS.done ?_
          refine RS.inBlock ?_
          exact J (_, σ6) ⟨lib6, r69⟩ ⟨rfl, rfl, trivial⟩ (by repeat (first | with_reducible exact Out.refl _ _ _ | exact Out.hv | refine Out.upd ?_ | refine Out.hvIn ?_)) ⟨fun h => h⟩ rfl
        · refine zN ?_; refine eqI ?_; refine asB ?_; refine LS.done ?_
          refine zN ?_
          refine RS.cond (fun y => ?_) (fun y => ?_)
          · obtain rfl : kk = 3 := by have := of_decide_eq_true y; omega
            obtain rfl : (2 : Int) = e := he
            have hsub := e3 (id := 0 - n % 9) (by omega)
            refine zD ?_; refine RS.draw [.free, .free, .free, .ex, .free, .ex, .free, .ex, .eff, .ex, .ex, .ex, .ex, .free] [woH z] ?_ (by kernel_rfl) (by kernel_rfl) (by infer_instance); refine D.mvP ?_; refine D.nilck ?_; refine D.fld ?_; refine D.ld1 (v := .pointer _) ?_; refine D.mvI ?_
            refine D.callP (v := .int .i64 (n % 9)) ?_ (hc := fun _ _ w' _ _ _ => w11_c n 9 (by omega) (by omega) w')
            (first | refine D.subN ?_ | refine D.subI ?_)
            refine D.callN (fun v τ => RepA τ v (gangK (0 - n % 9) 1)) ?_ (hc := fun _ _ w' _ _ _ => gangA_c (0 - n % 9) 1 (by omega) ⟨by omega, by omega⟩ w')
            skip
            refine D.callWU (fun us => [ptV z.c, us 82]) (fun v τ => AnsM ([]) 2 v τ) (ansM_mono _ _) (CS z (c1 2) []) ?_ (hc := fun us σ' w' X hle hfs hw => by
              obtain ⟨τ, hg, ht, _⟩ : ∃ τ, RepA τ (us 82) (gangK (0 - n % 9) 1) ∧ PH.le τ σ' ∧ New _ τ := by first | exact hfs.1 | exact hfs.2.1
              exact submitB (c := c1 2) ‹Inv (c1 2) _› (by omega) (lib5.mono hle) (hg.mono ht) hsub hw)
            refine D.mvFT (fun v τ => AnsM ([]) 2 v τ) (ansM_mono _ _) ?_ (fun us σ' hle hf => hf.1)
            refine D.exFT (fun v τ => RepL τ v ([])) mono_L ?_ (fun us σ' hle hf => by obtain ⟨a, c, h1, h2⟩ := hf.1; exact ⟨_, _, h1, rfl, h2⟩)
            refine D.exV (.int .i64 2) ?_ (fun us σ' hle hf => by obtain ⟨a, c, h1, h2⟩ := hf.2.1; exact ⟨_, h1, rfl⟩)
            refine D.asFT (fun v τ => RepL τ v ([])) mono_L ?_ (fun us σ' hle hf => hf.1)
            refine D.asI ?_; refine D.done (fun us σ1 hle1 hfs => ?_)
            have hr6 : RepL σ1 (us 8) ([] : List MsgD) := hfs.1
            refine RS.ow ?_
            refine RS.inBlock ?_
            refine J (us 8, σ1) ⟨lib5.mono hle1, hr6⟩ ?_ ?_ ⟨fun h => h⟩ rfl
            · exact ⟨rfl, rfl, trivial⟩
            · exact Out.fill (by repeat (first | with_reducible exact Out.refl _ _ _ | exact Out.hv | refine Out.upd ?_ | refine Out.hvIn ?_)) rfl
          · refine zN ?_; refine eqI ?_; refine asB ?_; refine LS.done ?_
            refine zN ?_
            refine RS.cond (fun y => ?_) (fun y => ?_)
            · obtain rfl : kk = 4 := by have := of_decide_eq_true y; omega
              obtain rfl : (5 : Int) = e := he
              refine zD ?_; refine RS.draw [.free, .free, .free, .ex, .free, .ex, .free, .eff, .ex, .ex, .ex, .ex, .free] [woH z] ?_ (by kernel_rfl) (by kernel_rfl) (by infer_instance); refine D.mvP ?_; refine D.nilck ?_; refine D.fld ?_; refine D.ld1 (v := .pointer _) ?_; refine D.mvI ?_
              refine D.callP (v := .int .i64 (n % 100)) ?_ (hc := fun _ _ w' _ _ _ => w11_c n 100 (by omega) (by omega) w')
              (first | refine D.addN ?_ | refine D.addI ?_)
              refine D.callWU (fun us => [ptV z.c, .int .i64 (6 + n % 100)]) (fun v τ => AnsM [] 5 v τ) (ansM_mono _ _) (CS z (c1 2) []) ?_ (hc := fun us σ' w' X hle hfs hw => cancelB _ i1 (cancel_none (find1 (by omega))) hw)
              refine D.mvFT (fun v τ => AnsM ([]) 5 v τ) (ansM_mono _ _) ?_ (fun us σ' hle hf => hf.1)
              refine D.exFT (fun v τ => RepL τ v ([])) mono_L ?_ (fun us σ' hle hf => by obtain ⟨a, c, h1, h2⟩ := hf.1; exact ⟨_, _, h1, rfl, h2⟩)
              refine D.exV (.int .i64 5) ?_ (fun us σ' hle hf => by obtain ⟨a, c, h1, h2⟩ := hf.2.1; exact ⟨_, h1, rfl⟩)
              refine D.asFT (fun v τ => RepL τ v ([])) mono_L ?_ (fun us σ' hle hf => hf.1)
              refine D.asI ?_; refine D.done (fun us σ1 hle1 hfs => ?_)
              have hr6 : RepL σ1 (us 8) ([] : List MsgD) := hfs.1
              refine RS.ow ?_
              refine RS.inBlock ?_
              refine J (us 8, σ1) ⟨lib5.mono hle1, hr6⟩ ?_ ?_ ⟨fun h => h⟩ rfl
              · exact ⟨rfl, rfl, trivial⟩
              · exact Out.fill (by repeat (first | with_reducible exact Out.refl _ _ _ | exact Out.hv | refine Out.upd ?_ | refine Out.hvIn ?_)) rfl
            · refine zN ?_; refine eqI ?_; refine asB ?_; refine LS.done ?_
              refine zN ?_
              refine RS.cond (fun y => ?_) (fun y => ?_)
              · obtain rfl : kk = 5 := by have := of_decide_eq_true y; omega
                obtain rfl : (5 : Int) = e := he
                refine zD ?_; refine RS.draw [.free, .free, .free, .ex, .free, .ex, .free, .eff, .ex, .ex, .ex, .ex, .free] [woH z] ?_ (by kernel_rfl) (by kernel_rfl) (by infer_instance); refine D.mvP ?_; refine D.nilck ?_; refine D.fld ?_; refine D.ld1 (v := .pointer _) ?_; refine D.mvI ?_
                refine D.callP (v := .int .i64 (n % 100)) ?_ (hc := fun _ _ w' _ _ _ => w11_c n 100 (by omega) (by omega) w')
                (first | refine D.addN ?_ | refine D.addI ?_)
                refine D.callWU (fun us => [ptV z.c, .int .i64 (6 + n % 100)]) (fun v τ => AnsM [] 5 v τ) (ansM_mono _ _) (CS z (c1 2) []) ?_ (hc := fun us σ' w' X hle hfs hw => releaseB _ i1 (by omega) (lib5.mono hle) (release_none (find1 (by omega))) hw)
                refine D.mvFT (fun v τ => AnsM ([]) 5 v τ) (ansM_mono _ _) ?_ (fun us σ' hle hf => hf.1)
                refine D.exFT (fun v τ => RepL τ v ([])) mono_L ?_ (fun us σ' hle hf => by obtain ⟨a, c, h1, h2⟩ := hf.1; exact ⟨_, _, h1, rfl, h2⟩)
                refine D.exV (.int .i64 5) ?_ (fun us σ' hle hf => by obtain ⟨a, c, h1, h2⟩ := hf.2.1; exact ⟨_, h1, rfl⟩)
                refine D.asFT (fun v τ => RepL τ v ([])) mono_L ?_ (fun us σ' hle hf => hf.1)
                refine D.asI ?_; refine D.done (fun us σ1 hle1 hfs => ?_)
                have hr6 : RepL σ1 (us 8) ([] : List MsgD) := hfs.1
                refine RS.ow ?_
                refine RS.inBlock ?_
                refine J (us 8, σ1) ⟨lib5.mono hle1, hr6⟩ ?_ ?_ ⟨fun h => h⟩ rfl
                · exact ⟨rfl, rfl, trivial⟩
                · exact Out.fill (by repeat (first | with_reducible exact Out.refl _ _ _ | exact Out.hv | refine Out.upd ?_ | refine Out.hvIn ?_)) rfl
              · refine zN ?_; refine mvP ?_; refine nilck ?_; refine fld ?_; refine ld1 (v := .pointer _) ?_
                obtain rfl : kk = 6 := by
                  simp only [decide_eq_false_iff_not] at *
                  change kk < 7 at hk7
                  omega
                obtain rfl : (7 : Int) = e := he
                refine releaseE i1 5 lib5 (release_shut (c := c1 2) (by decide +kernel) (by decide +kernel)) (fun a36 p36 σ6 k6 lib6 r36 => ?_)
                refine mvT ?_; refine extr (v := .slice _ _ _) ?_; refine extr (v := .int _ _) ?_; refine asL ?_; refine asI ?_; refine LS.done ?_
                refine RS.inBlock ?_
                exact J (_, σ6) ⟨lib6, r36⟩ ⟨rfl, rfl, trivial⟩ (by repeat (first | with_reducible exact Out.refl _ _ _ | exact Out.hv | refine Out.upd ?_ | refine Out.hvIn ?_)) ⟨fun h => h⟩ rfl
  rintro ⟨v8, σ6⟩ g6 ⟨lib6, r8⟩
  dsimp only at lib6 r8
  obtain ⟨a8, p8, rfl⟩ := r8.form
  refine zN ?_; refine bldS [.int .i64 4, .int .i64 2, .int .i64 3, .int .i64 2, .int .i64 5, .int .i64 5, .int .i64 7] [.int .i64 4, .int .i64 2, .int .i64 3, .int .i64 2, .int .i64 5, .int .i64 5, .int .i64 7] (fun b112 => ?_); refine LS.frozenL (α := Int) L7 b112 (CellsL.ofInts _ (fun z hz => by simp [L7] at hz; rcases hz with rfl | rfl | rfl | rfl | rfl | rfl <;> exact ⟨by decide, by decide⟩)) (fun σ7 k7 h112 => ?_); refine asL ?_; refine LS.done ?_
  obtain ⟨b1, o1, e77, hrow⟩ := h112.addr (by simp [L7])
  obtain ⟨hcell, _⟩ := hrow.int kk hk7
  rw [he] at hcell
  obtain ⟨rfl, rfl⟩ : b112 = b1 ∧ 0 = o1 := by simp at e77; exact ⟨e77.1, e77.2⟩
  refine zN ?_; refine mvI ?_; refine mvL ?_; refine mvI ?_; refine idx (i := kk) ?_; refine ldS hcell ?_; refine eqI ?_; rw [decide_eq_true (rfl : e = e)]; refine mvB ?_; refine LS.on ?_; refine mvL ?_; refine LS.on ?_; refine lenL ?_; refine LS.on ?_; refine eqI ?_; refine pk (v := .bool _) ?_; refine mvB ?_; refine LS.on ?_; refine mvP ?_; refine LS.on ?_; refine nilck ?_; refine LS.on ?_; refine fld ?_; refine LS.on ?_; refine ld1 (v := .pointer _) ?_; refine LS.on ?_
  refine linesL i1 (lib6.mono k7) (fun a129 p129 σ8 k8 lib8 _ => ?_)
  rw [refL_len, show (c1 2).rs.length = 1 from rfl]
  refine LS.on ?_; refine lenL ?_; refine LS.on ?_; refine mvI ?_; refine LS.on ?_; refine eqI ?_; refine pk (v := .bool _) ?_; refine mvB ?_; refine LS.on ?_; refine mvP ?_; refine LS.on ?_; refine nilck ?_; refine LS.on ?_; refine fld ?_; refine LS.on ?_; refine ld1 (v := .pointer _) ?_; refine LS.on ?_
  refine stateE i1 5 (by decide +kernel : stateP (c1 2).gs 5 = 1) ?_
  refine LS.on ?_; refine eqI ?_; refine pk (v := .bool _) ?_; refine mvB ?_; refine LS.on ?_; refine mvP ?_; refine LS.on ?_; refine nilck ?_; refine LS.on ?_; refine fld ?_; refine LS.on ?_; refine ld1 (v := .pointer _) ?_; refine LS.on ?_
  refine gangsE i1 lib8 (by decide +kernel : ((c1 2).gs.map (·.id)).length = 1) (fun a147 p147 σ9 k9 lib9 => ?_)
  refine LS.on ?_; refine lenL ?_; refine LS.on ?_; refine eqI ?_; refine pk (v := .bool _) ?_; refine asB ?_; refine LS.done ?_
  refine zN ?_; refine RS.ret1 (v := .bool _) Tryz.func4 fun w hw => ?_
  exact ⟨rfl, hw.below⟩
end Go.Proofs.YtaokfeonmgpjcaaGreatDoor
