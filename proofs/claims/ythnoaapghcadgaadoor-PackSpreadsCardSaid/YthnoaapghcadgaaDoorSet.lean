/- Contracts: sets of marks; sizes. -/
import Derived.Test.YthnoaapghcadgaaDoorApi
namespace Go.Proofs.YthnoaapghcadgaaDoor
open Go.JW Go.RowKit

theorem part_c (c : Int) (w : World) : Calls Tryd.prog 57 #[.int .i64 c] w fun e w' => e = .returned (.bool (size1 c)) ∧ Below w.heap.size w w' := by
  refine RS.enter Tryd.func57 Tryd.ntmps57 rfl rfl ?_
  (repeat (first | refine RS.seq ?_ | refine RS.region ?_ | refine RS.regionQ ?_ (by kernel_rfl) (by kernel_rfl) | refine RS.skip ?_ | refine RS.inBlock ?_ | refine RS.block ?_ | refine RS.exit ?_)); refine asB ?_; refine LS.done ?_
  (repeat (first | refine RS.seq ?_ | refine RS.region ?_ | refine RS.regionQ ?_ (by kernel_rfl) (by kernel_rfl) | refine RS.skip ?_ | refine RS.inBlock ?_ | refine RS.block ?_ | refine RS.exit ?_)); refine mvI ?_; refine geI ?_; refine mvB ?_; refine LS.part 5 (fun g5 => ?_) (fun g5 => ?_) <;> first | (cases g5; done) | (refine LS.on ?_; refine mvI ?_; refine LS.on ?_; refine leI ?_; refine pk (v := .bool _) ?_; refine asB ?_; refine LS.done ?_) | (refine LS.off ?_; refine LS.off ?_; refine pk (v := .bool _) ?_; refine asB ?_; refine LS.done ?_)
  all_goals ((repeat (first | refine RS.seq ?_ | refine RS.region ?_ | refine RS.regionQ ?_ (by kernel_rfl) (by kernel_rfl) | refine RS.skip ?_ | refine RS.inBlock ?_ | refine RS.block ?_ | refine RS.exit ?_)); refine RS.ret1 (v := .bool _) Tryd.func57 fun w hw => ?_; exact ⟨retB (by clear hw; simp_all [size1] <;> omega), hw.below⟩)
theorem room_c (c m : Int) (w : World) : Calls Tryd.prog 30 #[.agg #[.int .i64 c, .int .i64 m]] w fun e w' => e = .returned (.bool (sizeOk c m)) ∧ Below w.heap.size w w' := by
  refine RS.enter Tryd.func30 Tryd.ntmps30 rfl rfl ?_
  (repeat (first | refine RS.seq ?_ | refine RS.region ?_ | refine RS.regionQ ?_ (by kernel_rfl) (by kernel_rfl) | refine RS.skip ?_ | refine RS.inBlock ?_ | refine RS.block ?_ | refine RS.exit ?_)); refine box_ (v := .agg _) (cs := [_, _]) (fun b1 => ?_); refine asB ?_; refine LS.done ?_
  (repeat (first | refine RS.seq ?_ | refine RS.region ?_ | refine RS.regionQ ?_ (by kernel_rfl) (by kernel_rfl) | refine RS.skip ?_ | refine RS.inBlock ?_ | refine RS.block ?_ | refine RS.exit ?_)); refine fld ?_; refine ld1 (v := .int _ _) ?_
  refine callP ?_ (hc := fun w _ => part_c _ w)
  refine mvB ?_
  refine LS.part 6 (fun g => ?_) (fun g => ?_)
  · refine LS.on ?_; refine fld ?_; refine LS.on ?_; refine ld1 (v := .int _ _) ?_; refine LS.on ?_
    refine callP ?_ (hc := fun w _ => part_c _ w)
    refine pk (v := .bool _) ?_; refine asB ?_; refine LS.done ?_
    (repeat (first | refine RS.seq ?_ | refine RS.region ?_ | refine RS.regionQ ?_ (by kernel_rfl) (by kernel_rfl) | refine RS.skip ?_ | refine RS.inBlock ?_ | refine RS.block ?_ | refine RS.exit ?_)); refine RS.ret1 (v := .bool _) Tryd.func30 fun w hw => ?_
    exact ⟨retB (by rw [sizeOk, g]; rfl), hw.below⟩
  · refine LS.off ?_; refine LS.off ?_; refine LS.off ?_; refine pk (v := .bool _) ?_; refine asB ?_; refine LS.done ?_
    (repeat (first | refine RS.seq ?_ | refine RS.region ?_ | refine RS.regionQ ?_ (by kernel_rfl) (by kernel_rfl) | refine RS.skip ?_ | refine RS.inBlock ?_ | refine RS.block ?_ | refine RS.exit ?_)); refine RS.ret1 (v := .bool _) Tryd.func30 fun w hw => ?_
    exact ⟨retB (by rw [sizeOk, g]; rfl), hw.below⟩
theorem rsize_c (c m : Int) (w : World) : Calls Tryd.prog 69 #[.agg #[.int .i64 c, .int .i64 m]] w fun e w' => e = .returned (.bool (sizeOk c m)) ∧ Below w.heap.size w w' := by
  refine RS.enter Tryd.func69 Tryd.ntmps69 rfl rfl ?_
  (repeat (first | refine RS.seq ?_ | refine RS.region ?_ | refine RS.regionQ ?_ (by kernel_rfl) (by kernel_rfl) | refine RS.skip ?_ | refine RS.inBlock ?_ | refine RS.block ?_ | refine RS.exit ?_)); refine box_ (v := .agg _) (cs := [_, _]) (fun b1 => ?_); refine asB ?_; refine LS.done ?_
  (repeat (first | refine RS.seq ?_ | refine RS.region ?_ | refine RS.regionQ ?_ (by kernel_rfl) (by kernel_rfl) | refine RS.skip ?_ | refine RS.inBlock ?_ | refine RS.block ?_ | refine RS.exit ?_)); refine fld ?_; refine ld1 (v := .int _ _) ?_; refine geI ?_; refine mvB ?_; refine LS.part 6 (fun g6 => ?_) (fun g6 => ?_) <;> first | (cases g6; done) | (refine LS.on ?_; refine fld ?_; refine LS.on ?_; refine ld1 (v := .int _ _) ?_; refine LS.on ?_; refine geI ?_; refine pk (v := .bool _) ?_; refine mvB ?_; refine LS.part 11 (fun g11 => ?_) (fun g11 => ?_) <;> first | (cases g11; done) | (refine LS.on ?_; refine fld ?_; refine LS.on ?_; refine ld1 (v := .int _ _) ?_; refine LS.on ?_; refine leI ?_; refine pk (v := .bool _) ?_; refine mvB ?_; refine LS.part 16 (fun g16 => ?_) (fun g16 => ?_) <;> first | (cases g16; done) | (refine LS.on ?_; refine fld ?_; refine LS.on ?_; refine ld1 (v := .int _ _) ?_; refine LS.on ?_; refine leI ?_; refine pk (v := .bool _) ?_; refine asB ?_; refine LS.done ?_) | (refine LS.off ?_; refine LS.off ?_; refine LS.off ?_; refine pk (v := .bool _) ?_; refine asB ?_; refine LS.done ?_)) | (refine LS.off ?_; refine LS.off ?_; refine LS.off ?_; refine pk (v := .bool _) ?_; refine mvB ?_; refine LS.part 16 (fun g16 => ?_) (fun g16 => ?_) <;> first | (cases g16; done) | (refine LS.on ?_; refine fld ?_; refine LS.on ?_; refine ld1 (v := .int _ _) ?_; refine LS.on ?_; refine leI ?_; refine pk (v := .bool _) ?_; refine asB ?_; refine LS.done ?_) | (refine LS.off ?_; refine LS.off ?_; refine LS.off ?_; refine pk (v := .bool _) ?_; refine asB ?_; refine LS.done ?_))) | (refine LS.off ?_; refine LS.off ?_; refine LS.off ?_; refine pk (v := .bool _) ?_; refine mvB ?_; refine LS.part 11 (fun g11 => ?_) (fun g11 => ?_) <;> first | (cases g11; done) | (refine LS.on ?_; refine fld ?_; refine LS.on ?_; refine ld1 (v := .int _ _) ?_; refine LS.on ?_; refine leI ?_; refine pk (v := .bool _) ?_; refine mvB ?_; refine LS.part 16 (fun g16 => ?_) (fun g16 => ?_) <;> first | (cases g16; done) | (refine LS.on ?_; refine fld ?_; refine LS.on ?_; refine ld1 (v := .int _ _) ?_; refine LS.on ?_; refine leI ?_; refine pk (v := .bool _) ?_; refine asB ?_; refine LS.done ?_) | (refine LS.off ?_; refine LS.off ?_; refine LS.off ?_; refine pk (v := .bool _) ?_; refine asB ?_; refine LS.done ?_)) | (refine LS.off ?_; refine LS.off ?_; refine LS.off ?_; refine pk (v := .bool _) ?_; refine mvB ?_; refine LS.part 16 (fun g16 => ?_) (fun g16 => ?_) <;> first | (cases g16; done) | (refine LS.on ?_; refine fld ?_; refine LS.on ?_; refine ld1 (v := .int _ _) ?_; refine LS.on ?_; refine leI ?_; refine pk (v := .bool _) ?_; refine asB ?_; refine LS.done ?_) | (refine LS.off ?_; refine LS.off ?_; refine LS.off ?_; refine pk (v := .bool _) ?_; refine asB ?_; refine LS.done ?_)))
  all_goals ((repeat (first | refine RS.seq ?_ | refine RS.region ?_ | refine RS.regionQ ?_ (by kernel_rfl) (by kernel_rfl) | refine RS.skip ?_ | refine RS.inBlock ?_ | refine RS.block ?_ | refine RS.exit ?_)); refine RS.ret1 (v := .bool _) Tryd.func69 fun w hw => ?_; exact ⟨retB (by clear hw; simp_all [sizeOk, size1] <;> omega), hw.below⟩)

theorem getD_of {l : List ByteArray} {i : Nat} (h : i < l.length) : l.getD i ⟨#[]⟩ = l[i] := by simp [List.getD_eq_getElem?_getD, h]
theorem set_c (l : List ByteArray) (v : Value) (w : World) (h : RepL (hp w) v l) : Calls Tryd.prog 31 #[v] w fun e w' => e = .returned (.bool (isSet l)) ∧ Below w.heap.size w w' := by
  obtain ⟨a, cap, rfl⟩ := h.form
  have hlen : l.length ≤ 140737488355328 := h.1
  refine RS.enter Tryd.func31 Tryd.ntmps31 rfl rfl ?_
  (repeat (first | refine RS.seq ?_ | refine RS.region ?_ | refine RS.regionQ ?_ (by kernel_rfl) (by kernel_rfl) | refine RS.skip ?_ | refine RS.inBlock ?_ | refine RS.block ?_ | refine RS.exit ?_)); refine asB ?_; refine LS.done ?_
  (repeat (first | refine RS.seq ?_ | refine RS.region ?_ | refine RS.regionQ ?_ (by kernel_rfl) (by kernel_rfl) | refine RS.skip ?_ | refine RS.inBlock ?_ | refine RS.block ?_ | refine RS.exit ?_)); refine mvL ?_; refine lenL ?_; refine mvI ?_; refine LS.done ?_
  (repeat (first | refine RS.seq ?_ | refine RS.region ?_ | refine RS.regionQ ?_ (by kernel_rfl) (by kernel_rfl) | refine RS.skip ?_ | refine RS.inBlock ?_ | refine RS.block ?_ | refine RS.exit ?_))
  refine RS.loopF (X := Nat) 3 29 (fun k => k ≤ l.length ∧ setTo l k = true) (fun k => [(5, .slice a l.length cap), (6, .int .i64 l.length), (7, .int .i64 k)]) (fun _ => hp w) (fun _ => []) (fun k => l.length - k) 0 ⟨by omega, rfl⟩ ⟨rfl, rfl, rfl, trivial⟩ rfl inferInstance ?_
  rintro k g ⟨hk, hs⟩ ih
  (repeat (first | refine RS.seq ?_ | refine RS.region ?_ | refine RS.regionQ ?_ (by kernel_rfl) (by kernel_rfl) | refine RS.skip ?_ | refine RS.inBlock ?_ | refine RS.block ?_ | refine RS.exit ?_)); refine ltI ?_; refine LS.done ?_
  (repeat (first | refine RS.seq ?_ | refine RS.region ?_ | refine RS.regionQ ?_ (by kernel_rfl) (by kernel_rfl) | refine RS.skip ?_ | refine RS.inBlock ?_ | refine RS.block ?_ | refine RS.exit ?_))
  by_cases hlt : k < l.length
  · refine RS.condT ?_ (h := by simp; exact hlt)
    obtain ⟨b, o, rfl, hr⟩ := h.addr (fun h => by simp [h] at hlt)
    obtain ⟨hc, hsz⟩ := hr.str k hlt
    (repeat (first | refine RS.seq ?_ | refine RS.region ?_ | refine RS.regionQ ?_ (by kernel_rfl) (by kernel_rfl) | refine RS.skip ?_ | refine RS.inBlock ?_ | refine RS.block ?_ | refine RS.exit ?_)); refine mvI ?_; refine idx ?_; refine ldS hc ?_; refine asI ?_; refine asS ?_; refine LS.done ?_
    (repeat (first | refine RS.seq ?_ | refine RS.region ?_ | refine RS.regionQ ?_ (by kernel_rfl) (by kernel_rfl) | refine RS.skip ?_ | refine RS.inBlock ?_ | refine RS.block ?_ | refine RS.exit ?_)); refine mvS ?_
    refine callP ?_ (hc := fun w _ => name_c _ (by omega) w)
    refine not_ ?_; refine mvB ?_
    refine LS.cut 14 28 [(27, .bool (!setAtI l k))] (fun g => ?_) (fun J => ?_)
    · (repeat (first | refine RS.seq ?_ | refine RS.region ?_ | refine RS.regionQ ?_ (by kernel_rfl) (by kernel_rfl) | refine RS.skip ?_ | refine RS.inBlock ?_ | refine RS.block ?_ | refine RS.exit ?_))
      refine RS.cond (fun c => ?_) (fun c => ?_)
      · (repeat (first | refine RS.seq ?_ | refine RS.region ?_ | refine RS.regionQ ?_ (by kernel_rfl) (by kernel_rfl) | refine RS.skip ?_ | refine RS.inBlock ?_ | refine RS.block ?_ | refine RS.exit ?_)); refine asB ?_; refine LS.done ?_; (repeat (first | refine RS.seq ?_ | refine RS.region ?_ | refine RS.regionQ ?_ (by kernel_rfl) (by kernel_rfl) | refine RS.skip ?_ | refine RS.inBlock ?_ | refine RS.block ?_ | refine RS.exit ?_)); refine RS.ret1 (v := .bool _) Tryd.func31 fun w hw => ?_
        exact ⟨retB (by simp at c; rw [isSet, setTo_not hlt c]; rfl), hw.below⟩
      · (repeat (first | refine RS.seq ?_ | refine RS.region ?_ | refine RS.regionQ ?_ (by kernel_rfl) (by kernel_rfl) | refine RS.skip ?_ | refine RS.inBlock ?_ | refine RS.block ?_ | refine RS.exit ?_)); (first | refine addN ?_ | refine addI ?_); refine mvI ?_; refine LS.done ?_; (repeat (first | refine RS.seq ?_ | refine RS.region ?_ | refine RS.regionQ ?_ (by kernel_rfl) (by kernel_rfl) | refine RS.skip ?_ | refine RS.inBlock ?_ | refine RS.block ?_ | refine RS.exit ?_))
        simp at c
        exact ih (k + 1) ⟨hlt, by rw [setTo_succ, hs, c]; rfl⟩ (by omega) ⟨rfl, rfl, rfl, trivial⟩ (by repeat (first | with_reducible exact Out.refl _ _ _ | exact Out.hv | refine Out.upd ?_ | refine Out.hvIn ?_)) inferInstance rfl
    · refine LS.part 15 (fun gn => ?_) (fun gn => ?_)
      · refine LS.off ?_; refine LS.off ?_; refine LS.off ?_; refine LS.offU ?_; refine LS.offU ?_; refine LS.offU ?_; refine LS.offU ?_; refine LS.offU ?_; refine LS.offU ?_; refine LS.offU ?_; refine LS.off ?_; refine pk (v := .bool _) ?_; refine LS.done ?_
        refine J ⟨boolV ?_, trivial⟩ (by repeat (first | with_reducible exact Out.refl _ _ _ | exact Out.hv | refine Out.upd ?_ | refine Out.hvIn ?_))
        simp at gn; rw [setAtI, getD_of hlt, gn]; rfl
      · refine LS.on ?_; refine mvI ?_; refine LS.on ?_; refine gtI ?_; refine LS.on ?_; refine mvB ?_
        refine LS.part 18 (fun g0 => ?_) (fun g0 => ?_)
        · have g0' : 0 < k := by simp at g0; omega
          have hc' := (hr.str (k - 1) (by omega)).1
          refine LS.on ?_; refine mvL ?_; refine LS.on ?_; refine mvI ?_; refine LS.on ?_; (first | refine subN ?_ | refine subI ?_); refine LS.on ?_; refine idx (i := k - 1) ?_ (hj := by omega); refine LS.on ?_; refine ldS hc' ?_; refine LS.on ?_; refine mvS ?_; refine LS.on ?_; refine geS ?_; refine LS.on ?_; refine pk (v := .bool _) ?_; refine pk (v := .bool _) ?_; refine LS.done ?_
          refine J ⟨boolV ?_, trivial⟩ (by repeat (first | with_reducible exact Out.refl _ _ _ | exact Out.hv | refine Out.upd ?_ | refine Out.hvIn ?_))
          simp at gn
          rw [setAtI, getD_of hlt, getD_of (by omega), gn]; simp; omega
        · refine LS.off ?_; refine LS.off ?_; refine LS.off ?_; refine LS.off ?_; refine LS.off ?_; refine LS.off ?_; refine LS.off ?_; refine LS.on ?_; refine pk (v := .bool _) ?_; refine pk (v := .bool _) ?_; refine LS.done ?_
          refine J ⟨boolV ?_, trivial⟩ (by repeat (first | with_reducible exact Out.refl _ _ _ | exact Out.hv | refine Out.upd ?_ | refine Out.hvIn ?_))
          simp at gn g0
          rw [setAtI, getD_of hlt, gn]; simp; omega
  · refine RS.condF ?_ (h := by simp; omega)
    obtain rfl : k = l.length := by omega
    (repeat (first | refine RS.seq ?_ | refine RS.region ?_ | refine RS.regionQ ?_ (by kernel_rfl) (by kernel_rfl) | refine RS.skip ?_ | refine RS.inBlock ?_ | refine RS.block ?_ | refine RS.exit ?_)); refine mvL ?_; refine lenL ?_; refine leI ?_; refine asB ?_; refine LS.done ?_; (repeat (first | refine RS.seq ?_ | refine RS.region ?_ | refine RS.regionQ ?_ (by kernel_rfl) (by kernel_rfl) | refine RS.skip ?_ | refine RS.inBlock ?_ | refine RS.block ?_ | refine RS.exit ?_)); refine RS.ret1 (v := .bool _) Tryd.func31 fun w hw => ?_
    exact ⟨retB (by rw [isSet, hs]; simp; omega), hw.below⟩

theorem rset_c (l : List ByteArray) (v : Value) (w : World) (h : RepL (hp w) v l) : Calls Tryd.prog 70 #[v] w fun e w' => e = .returned (.bool (isSet l)) ∧ Below w.heap.size w w' := by
  obtain ⟨a, cap, rfl⟩ := h.form
  have hlen : l.length ≤ 140737488355328 := h.1
  refine RS.enter Tryd.func70 Tryd.ntmps70 rfl rfl ?_
  (repeat (first | refine RS.seq ?_ | refine RS.region ?_ | refine RS.regionQ ?_ (by kernel_rfl) (by kernel_rfl) | refine RS.skip ?_ | refine RS.inBlock ?_ | refine RS.block ?_ | refine RS.exit ?_)); refine asB ?_; refine LS.done ?_
  (repeat (first | refine RS.seq ?_ | refine RS.region ?_ | refine RS.regionQ ?_ (by kernel_rfl) (by kernel_rfl) | refine RS.skip ?_ | refine RS.inBlock ?_ | refine RS.block ?_ | refine RS.exit ?_)); refine mvL ?_; refine lenL ?_; refine gtI ?_; refine LS.done ?_
  (repeat (first | refine RS.seq ?_ | refine RS.region ?_ | refine RS.regionQ ?_ (by kernel_rfl) (by kernel_rfl) | refine RS.skip ?_ | refine RS.inBlock ?_ | refine RS.block ?_ | refine RS.exit ?_))
  refine RS.cond (fun c => ?_) (fun c => ?_)
  · (repeat (first | refine RS.seq ?_ | refine RS.region ?_ | refine RS.regionQ ?_ (by kernel_rfl) (by kernel_rfl) | refine RS.skip ?_ | refine RS.inBlock ?_ | refine RS.block ?_ | refine RS.exit ?_)); refine asB ?_; refine LS.done ?_; (repeat (first | refine RS.seq ?_ | refine RS.region ?_ | refine RS.regionQ ?_ (by kernel_rfl) (by kernel_rfl) | refine RS.skip ?_ | refine RS.inBlock ?_ | refine RS.block ?_ | refine RS.exit ?_)); refine RS.ret1 (v := .bool _) Tryd.func70 fun w hw => ?_
    exact ⟨retB (by simp at c; rw [isSet]; simp; omega), hw.below⟩
  (repeat (first | refine RS.seq ?_ | refine RS.region ?_ | refine RS.regionQ ?_ (by kernel_rfl) (by kernel_rfl) | refine RS.skip ?_ | refine RS.inBlock ?_ | refine RS.block ?_ | refine RS.exit ?_)); refine asI ?_; refine LS.done ?_; (repeat (first | refine RS.seq ?_ | refine RS.region ?_ | refine RS.regionQ ?_ (by kernel_rfl) (by kernel_rfl) | refine RS.skip ?_ | refine RS.inBlock ?_ | refine RS.block ?_ | refine RS.exit ?_))
  simp at c
  refine RS.loopF (X := Nat) 3 35 (fun k => k ≤ l.length ∧ setTo l k = true) (fun k => [(3, .int .i64 k)]) (fun _ => hp w) (fun _ => []) (fun k => l.length - k) 0 ⟨by omega, rfl⟩ ⟨rfl, trivial⟩ rfl inferInstance ?_
  rintro k g ⟨hk, hs⟩ ih
  (repeat (first | refine RS.seq ?_ | refine RS.region ?_ | refine RS.regionQ ?_ (by kernel_rfl) (by kernel_rfl) | refine RS.skip ?_ | refine RS.inBlock ?_ | refine RS.block ?_ | refine RS.exit ?_)); refine mvI ?_; refine mvL ?_; refine lenL ?_; refine ltI ?_; refine LS.done ?_
  (repeat (first | refine RS.seq ?_ | refine RS.region ?_ | refine RS.regionQ ?_ (by kernel_rfl) (by kernel_rfl) | refine RS.skip ?_ | refine RS.inBlock ?_ | refine RS.block ?_ | refine RS.exit ?_))
  by_cases hlt : k < l.length
  · refine RS.condT ?_ (h := by simp; exact hlt)
    obtain ⟨b, o, rfl, hr⟩ := h.addr (fun h => by simp [h] at hlt)
    obtain ⟨hc, hsz⟩ := hr.str k hlt
    (repeat (first | refine RS.seq ?_ | refine RS.region ?_ | refine RS.regionQ ?_ (by kernel_rfl) (by kernel_rfl) | refine RS.skip ?_ | refine RS.inBlock ?_ | refine RS.block ?_ | refine RS.exit ?_)); refine mvL ?_; refine mvI ?_; refine idx ?_; refine ldS hc ?_
    refine callP ?_ (hc := fun w _ => rname_c _ (by omega) w)
    refine not_ ?_; refine mvB ?_
    refine LS.cut 18 35 [(34, .bool (!setAtI l k))] (fun g => ?_) (fun J => ?_)
    · (repeat (first | refine RS.seq ?_ | refine RS.region ?_ | refine RS.regionQ ?_ (by kernel_rfl) (by kernel_rfl) | refine RS.skip ?_ | refine RS.inBlock ?_ | refine RS.block ?_ | refine RS.exit ?_))
      refine RS.cond (fun c => ?_) (fun c => ?_)
      · (repeat (first | refine RS.seq ?_ | refine RS.region ?_ | refine RS.regionQ ?_ (by kernel_rfl) (by kernel_rfl) | refine RS.skip ?_ | refine RS.inBlock ?_ | refine RS.block ?_ | refine RS.exit ?_)); refine asB ?_; refine LS.done ?_; (repeat (first | refine RS.seq ?_ | refine RS.region ?_ | refine RS.regionQ ?_ (by kernel_rfl) (by kernel_rfl) | refine RS.skip ?_ | refine RS.inBlock ?_ | refine RS.block ?_ | refine RS.exit ?_)); refine RS.ret1 (v := .bool _) Tryd.func70 fun w hw => ?_
        exact ⟨retB (by simp at c; rw [isSet, setTo_not hlt c]; rfl), hw.below⟩
      · (repeat (first | refine RS.seq ?_ | refine RS.region ?_ | refine RS.regionQ ?_ (by kernel_rfl) (by kernel_rfl) | refine RS.skip ?_ | refine RS.inBlock ?_ | refine RS.block ?_ | refine RS.exit ?_)); refine mvI ?_; (first | refine addN ?_ | refine addI ?_); refine asI ?_; refine LS.done ?_; (repeat (first | refine RS.seq ?_ | refine RS.region ?_ | refine RS.regionQ ?_ (by kernel_rfl) (by kernel_rfl) | refine RS.skip ?_ | refine RS.inBlock ?_ | refine RS.block ?_ | refine RS.exit ?_))
        simp at c
        exact ih (k + 1) ⟨hlt, by rw [setTo_succ, hs, c]; rfl⟩ (by omega) ⟨rfl, trivial⟩ (by repeat (first | with_reducible exact Out.refl _ _ _ | exact Out.hv | refine Out.upd ?_ | refine Out.hvIn ?_)) inferInstance rfl
    · refine LS.part 19 (fun gn => ?_) (fun gn => ?_)
      · refine LS.off ?_; refine LS.off ?_; refine LS.off ?_; refine LS.offU ?_; refine LS.offU ?_; refine LS.offU ?_; refine LS.offU ?_; refine LS.offU ?_; refine LS.offU ?_; refine LS.offU ?_; refine LS.offU ?_; refine LS.offU ?_; refine LS.offU ?_; refine LS.off ?_; refine pk (v := .bool _) ?_; refine LS.done ?_
        refine J ⟨boolV ?_, trivial⟩ (by repeat (first | with_reducible exact Out.refl _ _ _ | exact Out.hv | refine Out.upd ?_ | refine Out.hvIn ?_))
        simp at gn; rw [setAtI, getD_of hlt, gn]; rfl
      · refine LS.on ?_; refine mvI ?_; refine LS.on ?_; refine gtI ?_; refine LS.on ?_; refine mvB ?_
        refine LS.part 22 (fun g0 => ?_) (fun g0 => ?_)
        · have g0' : 0 < k := by simp at g0; omega
          have hc' := (hr.str (k - 1) (by omega)).1
          refine LS.on ?_; refine mvL ?_; refine LS.on ?_; refine mvI ?_; refine LS.on ?_; (first | refine subN ?_ | refine subI ?_); refine LS.on ?_; refine idx (i := k - 1) ?_ (hj := by omega); refine LS.on ?_; refine ldS hc' ?_; refine LS.on ?_; refine mvL ?_; refine LS.on ?_; refine mvI ?_; refine LS.on ?_; refine idx ?_; refine LS.on ?_; refine ldS hc ?_; refine LS.on ?_; refine geS ?_; refine LS.on ?_; refine pk (v := .bool _) ?_; refine pk (v := .bool _) ?_; refine LS.done ?_
          refine J ⟨boolV ?_, trivial⟩ (by repeat (first | with_reducible exact Out.refl _ _ _ | exact Out.hv | refine Out.upd ?_ | refine Out.hvIn ?_))
          simp at gn
          rw [setAtI, getD_of hlt, getD_of (by omega), gn]; simp; omega
        · refine LS.off ?_; refine LS.off ?_; refine LS.off ?_; refine LS.off ?_; refine LS.off ?_; refine LS.off ?_; refine LS.off ?_; refine LS.off ?_; refine LS.off ?_; refine LS.off ?_; refine LS.on ?_; refine pk (v := .bool _) ?_; refine pk (v := .bool _) ?_; refine LS.done ?_
          refine J ⟨boolV ?_, trivial⟩ (by repeat (first | with_reducible exact Out.refl _ _ _ | exact Out.hv | refine Out.upd ?_ | refine Out.hvIn ?_))
          simp at gn g0
          rw [setAtI, getD_of hlt, gn]; simp; omega
  · refine RS.condF ?_ (h := by simp; omega)
    obtain rfl : k = l.length := by omega
    (repeat (first | refine RS.seq ?_ | refine RS.region ?_ | refine RS.regionQ ?_ (by kernel_rfl) (by kernel_rfl) | refine RS.skip ?_ | refine RS.inBlock ?_ | refine RS.block ?_ | refine RS.exit ?_)); refine asB ?_; refine LS.done ?_; (repeat (first | refine RS.seq ?_ | refine RS.region ?_ | refine RS.regionQ ?_ (by kernel_rfl) (by kernel_rfl) | refine RS.skip ?_ | refine RS.inBlock ?_ | refine RS.block ?_ | refine RS.exit ?_)); refine RS.ret1 (v := .bool _) Tryd.func70 fun w hw => ?_
    exact ⟨retB (by rw [isSet, hs]; simp; omega), hw.below⟩
end Go.Proofs.YthnoaapghcadgaaDoor
