/- The walk of LineKnown. -/
import Derived.Test.YtaiofgmhlfccgaaGreatDoorQ5
namespace Go.Proofs.YtaiofgmhlfccgaaGreatDoor
open Go.JW Go.RowKit
def errT (e : Int) : ByteArray := if e = 1 then ⟨#[110, 97, 109, 101]⟩ else if e = 2 then ⟨#[97, 114, 103]⟩ else if e = 3 then ⟨#[108, 111, 110, 103]⟩ else if e = 4 then ⟨#[116, 119, 105, 99, 101]⟩ else ⟨#[102, 111, 114, 109]⟩
theorem early_c (e : Int) (h : e = 1 ∨ e = 2 ∨ e = 3 ∨ e = 4) (w : World) : Calls Tryz.prog 60 #[.int .i64 e] w fun x w' => x = .returned (.string (errT e)) ∧ Below w.heap.size w w' := by
  refine RS.enter Tryz.func60 Tryz.ntmps60 rfl rfl ?_
  (repeat (first | refine zS ?_ | refine zR ?_ | refine zQ ?_ | refine zK ?_ | refine zI ?_ | refine zB ?_ | refine zE ?_)); refine asS ?_; refine LS.done ?_
  (repeat (first | refine zS ?_ | refine zR ?_ | refine zQ ?_ | refine zK ?_ | refine zI ?_ | refine zB ?_ | refine zE ?_)); refine mvI ?_; refine LS.done ?_
  (repeat (first | refine zS ?_ | refine zR ?_ | refine zQ ?_ | refine zK ?_ | refine zI ?_ | refine zB ?_ | refine zE ?_)); refine eqI ?_; refine asB ?_; refine LS.done ?_
  (repeat (first | refine zS ?_ | refine zR ?_ | refine zQ ?_ | refine zK ?_ | refine zI ?_ | refine zB ?_ | refine zE ?_))
  refine RS.condF ?_ (h := by simp; omega)
  (repeat (first | refine zS ?_ | refine zR ?_ | refine zQ ?_ | refine zK ?_ | refine zI ?_ | refine zB ?_ | refine zE ?_)); refine eqI ?_; refine asB ?_; refine LS.done ?_
  (repeat (first | refine zS ?_ | refine zR ?_ | refine zQ ?_ | refine zK ?_ | refine zI ?_ | refine zB ?_ | refine zE ?_))
  refine RS.cond (fun z => ?_) (fun z => ?_)
  · have z := of_decide_eq_true z
    (repeat (first | refine zS ?_ | refine zR ?_ | refine zQ ?_ | refine zK ?_ | refine zI ?_ | refine zB ?_ | refine zE ?_)); refine asS ?_; refine LS.done ?_; (repeat (first | refine zS ?_ | refine zR ?_ | refine zQ ?_ | refine zK ?_ | refine zI ?_ | refine zB ?_ | refine zE ?_)); refine RS.ret1 (v := .string _) Tryz.func60 fun w hw => ?_
    exact ⟨by rw [z]; rfl, hw.below⟩
  have z := of_decide_eq_false z
  (repeat (first | refine zS ?_ | refine zR ?_ | refine zQ ?_ | refine zK ?_ | refine zI ?_ | refine zB ?_ | refine zE ?_)); refine eqI ?_; refine asB ?_; refine LS.done ?_
  (repeat (first | refine zS ?_ | refine zR ?_ | refine zQ ?_ | refine zK ?_ | refine zI ?_ | refine zB ?_ | refine zE ?_))
  refine RS.cond (fun z => ?_) (fun z => ?_)
  · have z := of_decide_eq_true z
    (repeat (first | refine zS ?_ | refine zR ?_ | refine zQ ?_ | refine zK ?_ | refine zI ?_ | refine zB ?_ | refine zE ?_)); refine asS ?_; refine LS.done ?_; (repeat (first | refine zS ?_ | refine zR ?_ | refine zQ ?_ | refine zK ?_ | refine zI ?_ | refine zB ?_ | refine zE ?_)); refine RS.ret1 (v := .string _) Tryz.func60 fun w hw => ?_
    exact ⟨by rw [z]; rfl, hw.below⟩
  have z := of_decide_eq_false z
  (repeat (first | refine zS ?_ | refine zR ?_ | refine zQ ?_ | refine zK ?_ | refine zI ?_ | refine zB ?_ | refine zE ?_)); refine eqI ?_; refine asB ?_; refine LS.done ?_
  (repeat (first | refine zS ?_ | refine zR ?_ | refine zQ ?_ | refine zK ?_ | refine zI ?_ | refine zB ?_ | refine zE ?_))
  refine RS.cond (fun z => ?_) (fun z => ?_)
  · have z := of_decide_eq_true z
    (repeat (first | refine zS ?_ | refine zR ?_ | refine zQ ?_ | refine zK ?_ | refine zI ?_ | refine zB ?_ | refine zE ?_)); refine asS ?_; refine LS.done ?_; (repeat (first | refine zS ?_ | refine zR ?_ | refine zQ ?_ | refine zK ?_ | refine zI ?_ | refine zB ?_ | refine zE ?_)); refine RS.ret1 (v := .string _) Tryz.func60 fun w hw => ?_
    exact ⟨by rw [z]; rfl, hw.below⟩
  have z := of_decide_eq_false z
  obtain rfl : e = 4 := by omega
  (repeat (first | refine zS ?_ | refine zR ?_ | refine zQ ?_ | refine zK ?_ | refine zI ?_ | refine zB ?_ | refine zE ?_)); refine eqI ?_; refine asB ?_; refine LS.done ?_
  (repeat (first | refine zS ?_ | refine zR ?_ | refine zQ ?_ | refine zK ?_ | refine zI ?_ | refine zB ?_ | refine zE ?_))
  refine RS.condT ?_
  (repeat (first | refine zS ?_ | refine zR ?_ | refine zQ ?_ | refine zK ?_ | refine zI ?_ | refine zB ?_ | refine zE ?_)); refine asS ?_; refine LS.done ?_; (repeat (first | refine zS ?_ | refine zR ?_ | refine zQ ?_ | refine zK ?_ | refine zI ?_ | refine zB ?_ | refine zE ?_)); refine RS.ret1 (v := .string _) Tryz.func60 fun w hw => ?_
  exact ⟨rfl, hw.below⟩
theorem late_c (w : World) : Calls Tryz.prog 61 #[.int .i64 8] w fun x w' => x = .returned (.string (errT 8)) ∧ Below w.heap.size w w' := by
  refine RS.enter Tryz.func61 Tryz.ntmps61 rfl rfl ?_
  (repeat (first | refine zS ?_ | refine zR ?_ | refine zQ ?_ | refine zK ?_ | refine zI ?_ | refine zB ?_ | refine zE ?_)); refine asS ?_; refine LS.done ?_
  (repeat (first | refine zS ?_ | refine zR ?_ | refine zQ ?_ | refine zK ?_ | refine zI ?_ | refine zB ?_ | refine zE ?_)); refine mvI ?_; refine LS.done ?_
  (repeat (first | refine zS ?_ | refine zR ?_ | refine zQ ?_ | refine zK ?_ | refine zI ?_ | refine zB ?_ | refine zE ?_)); refine eqI ?_; refine asB ?_; refine LS.done ?_
  (repeat (first | refine zS ?_ | refine zR ?_ | refine zQ ?_ | refine zK ?_ | refine zI ?_ | refine zB ?_ | refine zE ?_))
  refine RS.condF ?_
  (repeat (first | refine zS ?_ | refine zR ?_ | refine zQ ?_ | refine zK ?_ | refine zI ?_ | refine zB ?_ | refine zE ?_)); refine eqI ?_; refine asB ?_; refine LS.done ?_
  (repeat (first | refine zS ?_ | refine zR ?_ | refine zQ ?_ | refine zK ?_ | refine zI ?_ | refine zB ?_ | refine zE ?_))
  refine RS.condF ?_
  (repeat (first | refine zS ?_ | refine zR ?_ | refine zQ ?_ | refine zK ?_ | refine zI ?_ | refine zB ?_ | refine zE ?_)); refine eqI ?_; refine asB ?_; refine LS.done ?_
  (repeat (first | refine zS ?_ | refine zR ?_ | refine zQ ?_ | refine zK ?_ | refine zI ?_ | refine zB ?_ | refine zE ?_))
  refine RS.condF ?_
  (repeat (first | refine zS ?_ | refine zR ?_ | refine zQ ?_ | refine zK ?_ | refine zI ?_ | refine zB ?_ | refine zE ?_)); refine eqI ?_; refine asB ?_; refine LS.done ?_
  (repeat (first | refine zS ?_ | refine zR ?_ | refine zQ ?_ | refine zK ?_ | refine zI ?_ | refine zB ?_ | refine zE ?_))
  refine RS.condT ?_
  (repeat (first | refine zS ?_ | refine zR ?_ | refine zQ ?_ | refine zK ?_ | refine zI ?_ | refine zB ?_ | refine zE ?_)); refine asS ?_; refine LS.done ?_; (repeat (first | refine zS ?_ | refine zR ?_ | refine zQ ?_ | refine zK ?_ | refine zI ?_ | refine zB ?_ | refine zE ?_)); refine RS.ret1 (v := .string _) Tryz.func61 fun w hw => ?_
  exact ⟨rfl, hw.below⟩
theorem error_c (e : Int) (h : e = 1 ∨ e = 2 ∨ e = 3 ∨ e = 4 ∨ e = 8) (w : World) : Calls Tryz.prog 27 #[.int .i64 e] w fun x w' => x = .returned (.string (errT e)) ∧ Below w.heap.size w w' := by
  refine RS.enter Tryz.func27 Tryz.ntmps27 rfl rfl ?_
  (repeat (first | refine zS ?_ | refine zR ?_ | refine zQ ?_ | refine zK ?_ | refine zI ?_ | refine zB ?_ | refine zE ?_)); refine asS ?_; refine LS.done ?_
  (repeat (first | refine zS ?_ | refine zR ?_ | refine zQ ?_ | refine zK ?_ | refine zI ?_ | refine zB ?_ | refine zE ?_)); refine mvI ?_; refine leI ?_; refine LS.done ?_
  (repeat (first | refine zS ?_ | refine zR ?_ | refine zQ ?_ | refine zK ?_ | refine zI ?_ | refine zB ?_ | refine zE ?_))
  refine RS.cond (fun z => ?_) (fun z => ?_)
  · have z := of_decide_eq_true z
    (repeat (first | refine zS ?_ | refine zR ?_ | refine zQ ?_ | refine zK ?_ | refine zI ?_ | refine zB ?_ | refine zE ?_)); refine mvI ?_
    refine callP ?_ (hc := fun w _ => early_c e (by omega) w)
    refine asS ?_; refine LS.done ?_
    (repeat (first | refine zS ?_ | refine zR ?_ | refine zQ ?_ | refine zK ?_ | refine zI ?_ | refine zB ?_ | refine zE ?_)); refine RS.ret1 (v := .string _) Tryz.func27 fun w hw => ?_
    exact ⟨rfl, hw.below⟩
  · have z := of_decide_eq_false z
    obtain rfl : e = 8 := by omega
    (repeat (first | refine zS ?_ | refine zR ?_ | refine zQ ?_ | refine zK ?_ | refine zI ?_ | refine zB ?_ | refine zE ?_)); refine mvI ?_
    refine callP ?_ (hc := fun w _ => late_c w)
    refine asS ?_; refine LS.done ?_
    (repeat (first | refine zS ?_ | refine zR ?_ | refine zQ ?_ | refine zK ?_ | refine zI ?_ | refine zB ?_ | refine zE ?_)); refine RS.ret1 (v := .string _) Tryz.func27 fun w hw => ?_
    exact ⟨rfl, hw.below⟩
def lines30 : List ByteArray := [⟨#[110, 111, 100, 101, 32, 110, 49, 58, 52, 44, 56, 43, 98, 105, 103, 43, 115, 115, 100, 126, 206, 179, 33]⟩, ⟨#[103, 111, 110, 101, 32, 207, 137, 57]⟩, ⟨#[112, 114, 101, 112, 97, 114, 101, 32, 49, 50, 32, 49, 44, 51, 32, 112, 97, 62, 110, 49, 58, 50, 44, 48, 33, 32, 112, 98, 62, 206, 177, 58, 48, 44, 49]⟩, ⟨#[103, 97, 110, 103, 32, 57, 57, 57, 57, 57, 57, 32, 49, 44, 50, 44, 51, 44, 52]⟩, ⟨#[97, 98, 111, 114, 116, 32, 49]⟩, ⟨#[114, 101, 108, 101, 97, 115, 101, 32, 51, 48]⟩, ⟨#[110, 111, 100, 101, 32, 110, 49, 58, 52, 44, 56]⟩, ⟨#[99, 111, 109, 109, 105, 116, 32, 48]⟩, ⟨#[99, 111, 109, 109, 105, 116, 32, 48, 49]⟩, ⟨#[99, 111, 109, 109, 105, 116, 32, 49, 32, 50]⟩, ⟨#[99, 111, 109, 109, 105, 116]⟩, ⟨#[103, 97, 110, 103, 32, 49]⟩, ⟨#[103, 97, 110, 103, 32, 49, 32, 50, 44, 49]⟩, ⟨#[103, 97, 110, 103, 32, 49, 32, 53]⟩, ⟨#[103, 97, 110, 103, 32, 49, 32, 49, 44]⟩, ⟨#[112, 114, 101, 112, 97, 114, 101, 32, 49, 32, 49]⟩, ⟨#[112, 114, 101, 112, 97, 114, 101, 32, 49, 32, 49, 32, 112, 97, 62, 110, 58, 49, 44, 49, 32, 112, 97, 62, 109, 58, 48, 44, 48]⟩, ⟨#[110, 111, 100, 101, 32, 78, 58, 49, 44, 49]⟩, ⟨#[110, 111, 100, 101, 32, 110, 58, 49]⟩, ⟨#[110, 111, 100, 101, 32, 110, 58, 49, 44, 49, 43, 98, 43, 97]⟩, ⟨#[110, 111, 100, 101, 32, 110, 58, 49, 44, 49, 126]⟩, ⟨#[110, 111, 100, 101, 32, 110, 58, 49, 44, 49, 33, 120]⟩, ⟨#[103, 111, 110, 101, 32, 32, 97]⟩, ⟨#[103, 111, 110, 101, 32, 97, 32, 98]⟩, ⟨#[110, 111, 100, 101, 32, 110, 58, 49, 48, 57, 57, 53, 49, 49, 54, 50, 55, 55, 55, 55, 44, 48]⟩, ⟨#[110, 111, 100, 101, 32, 110, 58, 49, 48, 48, 48, 48, 48, 48, 48, 48, 48, 48, 48, 48, 48, 48, 48, 44, 48]⟩, ⟨#[112, 114, 101, 112, 97, 114, 101, 32, 49, 32, 49, 32, 112, 97, 62, 58, 49, 44, 49]⟩, ⟨#[67, 111, 109, 109, 105, 116, 32, 49]⟩, ⟨#[103, 111, 110, 101, 32, 97, 58]⟩, ⟨#[99, 111, 109, 109, 105, 116, 32, 49, 48, 48, 48, 48, 48, 48]⟩]
def says30 : List ByteArray := [⟨#[]⟩, ⟨#[]⟩, ⟨#[]⟩, ⟨#[]⟩, ⟨#[]⟩, ⟨#[]⟩, ⟨#[]⟩, ⟨#[97, 114, 103]⟩, ⟨#[102, 111, 114, 109]⟩, ⟨#[102, 111, 114, 109]⟩, ⟨#[102, 111, 114, 109]⟩, ⟨#[102, 111, 114, 109]⟩, ⟨#[97, 114, 103]⟩, ⟨#[97, 114, 103]⟩, ⟨#[102, 111, 114, 109]⟩, ⟨#[108, 111, 110, 103]⟩, ⟨#[116, 119, 105, 99, 101]⟩, ⟨#[110, 97, 109, 101]⟩, ⟨#[102, 111, 114, 109]⟩, ⟨#[110, 97, 109, 101]⟩, ⟨#[102, 111, 114, 109]⟩, ⟨#[102, 111, 114, 109]⟩, ⟨#[102, 111, 114, 109]⟩, ⟨#[102, 111, 114, 109]⟩, ⟨#[97, 114, 103]⟩, ⟨#[102, 111, 114, 109]⟩, ⟨#[102, 111, 114, 109]⟩, ⟨#[102, 111, 114, 109]⟩, ⟨#[102, 111, 114, 109]⟩, ⟨#[97, 114, 103]⟩]
def errs30 : List Int := [0, 0, 0, 0, 0, 0, 0, 2, 8, 8, 8, 8, 2, 2, 8, 3, 4, 1, 8, 1, 8, 8, 8, 8, 2, 8, 8, 8, 8, 2]
theorem parse30 : ∀ i : Fin 30, (parseP (bs (lines30.getD i.val ⟨#[]⟩))).2 = errs30.getD i.val 0 := by decide +kernel
theorem says30_ok : ∀ i : Fin 30, (errs30.getD i.val 0 = 0 ↔ says30.getD i.val ⟨#[]⟩ = ⟨#[]⟩) := by decide +kernel
theorem says30_bad : ∀ i : Fin 30, errs30.getD i.val 0 ≠ 0 → says30.getD i.val ⟨#[]⟩ = errT (errs30.getD i.val 0) := by decide +kernel
theorem errs30_in : ∀ i : Fin 30, errs30.getD i.val 0 ≠ 0 → (errs30.getD i.val 0 = 1 ∨ errs30.getD i.val 0 = 2 ∨ errs30.getD i.val 0 = 3 ∨ errs30.getD i.val 0 = 4 ∨ errs30.getD i.val 0 = 8) := by decide +kernel
theorem lines30_len : ∀ i : Fin 30, (bs (lines30.getD i.val ⟨#[]⟩)).length ≤ 100 := by decide +kernel
abbrev l3B (b : Nat) : HP := blk b (.cells (List.toArray (lines30.map Value.string)) 9 (0, 0))
abbrev s3B (b : Nat) : HP := blk b (.cells (List.toArray (says30.map Value.string)) 9 (0, 0))
theorem knownL_c (which : Int) (_ : I64 which) (w : World) (lib : LibAt (hp w)) :
    Calls Tryz.prog 12 #[.int .i64 which] w fun e w' => e = .returned (.bool true) ∧ Below w.heap.size w w' := by
  obtain ⟨m1, m2⟩ := wmod which 30 (by omega)
  obtain ⟨i, hi⟩ : ∃ i : Nat, which % 30 = i := ⟨(which % 30).toNat, by omega⟩
  have hi30 : i < 30 := by omega
  have p1 := parse30 ⟨i, hi30⟩
  have p2 := says30_ok ⟨i, hi30⟩
  have p3 := says30_bad ⟨i, hi30⟩
  have p4 := errs30_in ⟨i, hi30⟩
  have p5 := lines30_len ⟨i, hi30⟩
  simp only at p1 p2 p3 p4 p5
  have n1 := nth_str lines30 i (by simp [lines30]; omega)
  have n2 := nth_str says30 i (by simp [says30]; omega)
  generalize lines30.getD i ⟨#[]⟩ = u0 at *
  generalize says30.getD i ⟨#[]⟩ = sy at *
  generalize errs30.getD i 0 = er at *
  obtain ⟨u, rfl⟩ : ∃ u, u0 = B u := ⟨bs u0, (B_bs _).symm⟩
  rw [bs_B] at p1 p5
  refine RS.enter Tryz.func12 Tryz.ntmps12 rfl rfl ?_
  (repeat (first | refine zS ?_ | refine zR ?_ | refine zQ ?_ | refine zK ?_ | refine zI ?_ | refine zB ?_ | refine zE ?_)); refine asB ?_; refine LS.done ?_
  (repeat (first | refine zS ?_ | refine zR ?_ | refine zQ ?_ | refine zK ?_ | refine zI ?_ | refine zB ?_ | refine zE ?_)); skip
  refine callQ (fun v _ => v = .bool true) [] (fun v σ1 k1 hq => ?_) (hc := fun w' hw => known_s lib w' hw)
  subst hq
  refine not_ ?_; refine LS.done ?_
  (repeat (first | refine zS ?_ | refine zR ?_ | refine zQ ?_ | refine zK ?_ | refine zI ?_ | refine zB ?_ | refine zE ?_))
  refine RS.condF ?_
  (repeat (first | refine zS ?_ | refine zR ?_ | refine zQ ?_ | refine zK ?_ | refine zI ?_ | refine zB ?_ | refine zE ?_)); refine bldS [.string _, .string _, .string _, .string _, .string _, .string _, .string _, .string _, .string _, .string _, .string _, .string _, .string _, .string _, .string _, .string _, .string _, .string _, .string _, .string _, .string _, .string _, .string _, .string _, .string _, .string _, .string _, .string _, .string _, .string _] [.string _, .string _, .string _, .string _, .string _, .string _, .string _, .string _, .string _, .string _, .string _, .string _, .string _, .string _, .string _, .string _, .string _, .string _, .string _, .string _, .string _, .string _, .string _, .string _, .string _, .string _, .string _, .string _, .string _, .string _] (fun b10 => ?_); refine asL ?_; refine LS.done ?_
  (repeat (first | refine zS ?_ | refine zR ?_ | refine zQ ?_ | refine zK ?_ | refine zI ?_ | refine zB ?_ | refine zE ?_)); refine bldS [.string _, .string _, .string _, .string _, .string _, .string _, .string _, .string _, .string _, .string _, .string _, .string _, .string _, .string _, .string _, .string _, .string _, .string _, .string _, .string _, .string _, .string _, .string _, .string _, .string _, .string _, .string _, .string _, .string _, .string _] [.string _, .string _, .string _, .string _, .string _, .string _, .string _, .string _, .string _, .string _, .string _, .string _, .string _, .string _, .string _, .string _, .string _, .string _, .string _, .string _, .string _, .string _, .string _, .string _, .string _, .string _, .string _, .string _, .string _, .string _] (fun b11 => ?_); refine asL ?_; refine LS.done ?_
  (repeat (first | refine zS ?_ | refine zR ?_ | refine zQ ?_ | refine zK ?_ | refine zI ?_ | refine zB ?_ | refine zE ?_)); refine mvI ?_; refine mvL ?_; refine lenL ?_
  refine callP ?_ (hc := fun w _ => w4_c _ _ (by omega) (by omega) w)
  rw [show which % ((30 : Nat) : Int) = i from hi]
  refine asI ?_; refine LS.done ?_
  refine RS.to (K' := [s3B b11, l3B b10]) ?_ ⟨fun h => h⟩
  (repeat (first | refine zS ?_ | refine zR ?_ | refine zQ ?_ | refine zK ?_ | refine zI ?_ | refine zB ?_ | refine zE ?_)); refine mvL ?_; refine mvI ?_; refine idx (i := i) ?_; refine ld1 (v := .string (B u)) ?_ (hv := n1)
  refine callQ (ParseA u) [s3B b11, l3B b10] (fun v σ2 k2 hq => ?_) (hc := fun w' hw => parse_s u (by omega) (lib.mono k1) w' hw)
  obtain ⟨cs, rfl, hr2⟩ := hq
  obtain ⟨f2, rfl⟩ := rep_form hr2
  refine mvT ?_; refine extr (v := _) ?_; refine extr (v := .int _ _) ?_; refine alloc_ (fun b6 => ?_); refine st (.agg _) _ ?_; refine asI ?_; refine LS.done ?_
  refine RS.to (K' := [rcW b6 (parseP u).1 f2, s3B b11, l3B b10]) ?_ ⟨fun h => h⟩
  rw [p1]
  have k12 := PH.le_trans k1 k2
  (repeat (first | refine zS ?_ | refine zR ?_ | refine zQ ?_ | refine zK ?_ | refine zI ?_ | refine zB ?_ | refine zE ?_)); refine mvL ?_; refine mvI ?_; refine idx (i := i) ?_; refine ld1 (v := .string sy) ?_ (hv := n2); refine eqS ?_; refine LS.done ?_
  by_cases q : er = 0
  · have hs := p2.1 q
    subst q hs
    obtain ⟨r, hr3⟩ : ∃ r, r = (parseP u).1 := ⟨_, rfl⟩
    obtain ⟨e1, e2⟩ := text_parse (s := u) (r := r) (by rw [hr3, ← p1])
    rw [← hr3] at hr2 ⊢
    refine RS.condT ?_
    (repeat (first | refine RS.seq ?_ | refine RS.region ?_ | refine RS.skip ?_ | refine RS.inBlock ?_ | refine RS.block ?_ | refine RS.exit ?_)); refine RS.drawG [(31, some true)] [.free, .free, .free, .ex, .ex, .free, .free, .free, .ex, .free, .free, .free] [rcW b6 r f2, s3B b11, l3B b10] ?_ (by kernel_rfl) (by kernel_rfl) (by kernel_rfl) ⟨fun h => h⟩; simp only [ers, ersO, onOff, glook, nthO, List.map_cons, List.map_nil, Option.bind_some, Option.map_some, Nat.beq, cond_true, BEq.beq]; refine D.mvI ?_; refine D.eqI ?_; refine D.mvB ?_; refine D.ldA (rcV r f2) ?_
    refine D.callP ?_ (hc := fun _ _ w' hle _ hw => text_w _ r w' (Rep.mono hr2 (PH.le_trans hle hw.imm)) e2 (lib.mono (PH.le_trans k12 (PH.le_trans hle hw.imm))))
    rw [e1]
    refine D.mvL ?_; refine D.mvI ?_; refine D.idx (i := i) ?_; refine D.ld1 (v := .string (B u)) ?_ (hv := n1); refine D.eqS ?_; rw [decide_eq_true (show B u = B u from rfl)]; refine D.pk (v := .bool _) ?_; refine D.asB ?_; refine D.doneG [(31, some true)] ⟨⟨rfl, rfl⟩, trivial⟩ (fun us σ1 hle1 hfs => ?_)
    refine RS.ow ?_
    (repeat (first | refine zS ?_ | refine zR ?_ | refine zQ ?_ | refine zK ?_ | refine zI ?_ | refine zB ?_ | refine zE ?_)); refine RS.ret1 (v := .bool _) Tryz.func12 fun w hw => ?_
    exact ⟨rfl, hw.below⟩
  · have hs := p3 q
    have hbad := parse_bad (s := u) (by rw [p1]; exact q)
    rw [hbad] at hr2 ⊢
    refine RS.condF ?_ (h := by simp; exact fun e => q (p2.2 e))
    (repeat (first | refine RS.seq ?_ | refine RS.region ?_ | refine RS.skip ?_ | refine RS.inBlock ?_ | refine RS.block ?_ | refine RS.exit ?_)); refine RS.drawG [(47, some true)] [.free, .ex, .free, .free, .free, .ex, .free, .free, .free, .ex, .free, .free, .free] [rcW b6 rec0 f2, s3B b11, l3B b10] ?_ (by kernel_rfl) (by kernel_rfl) (by kernel_rfl) ⟨fun h => h⟩; simp only [ers, ersO, onOff, glook, nthO, List.map_cons, List.map_nil, Option.bind_some, Option.map_some, Nat.beq, cond_true, BEq.beq]; refine D.mvI ?_
    refine D.callP ?_ (hc := fun _ _ w _ _ _ => error_c er (p4 q) w)
    refine D.mvL ?_; refine D.mvI ?_; refine D.idx (i := i) ?_; refine D.ld1 (v := .string sy) ?_ (hv := n2); refine D.eqS ?_; rw [decide_eq_true hs.symm]; refine D.mvB ?_; refine D.fld ?_; refine D.ld1 (v := .int _ _) ?_; refine D.eqI ?_; refine D.pk (v := .bool _) ?_; refine D.asB ?_; refine D.doneG [(47, some true)] ⟨⟨rfl, rfl⟩, trivial⟩ (fun us σ1 hle1 hfs => ?_)
    refine RS.ow ?_
    (repeat (first | refine zS ?_ | refine zR ?_ | refine zQ ?_ | refine zK ?_ | refine zI ?_ | refine zB ?_ | refine zE ?_)); refine RS.ret1 (v := .bool _) Tryz.func12 fun w hw => ?_
    exact ⟨rfl, hw.below⟩
end Go.Proofs.YtaiofgmhlfccgaaGreatDoor
