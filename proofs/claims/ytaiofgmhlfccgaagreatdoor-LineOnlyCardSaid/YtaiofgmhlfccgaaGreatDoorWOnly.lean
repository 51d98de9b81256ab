/- The walk of LineOnly. -/
import Derived.Test.YtaiofgmhlfccgaaGreatDoorQ5
namespace Go.Proofs.YtaiofgmhlfccgaaGreatDoor
open Go.JW Go.RowKit
abbrev tyY : TypeId := 5
theorem only_c (kind : Int) (_ : I64 kind) (gang : Int) (_ : I64 gang) (ns : List Int) (name : Int) (_ : I64 name) (at_ : Int) (_ : I64 at_) (y : Int) (vn : Value) (w : World) (lib : LibAt (hp w)) (hr : RepL (hp w) vn ns) :
    Calls Tryz.prog 6 #[.int .i64 kind, .int .i64 gang, vn, .int .i64 name, .int .i64 at_, .int .u8 y] w fun e w' => e = .returned (.bool true) ∧ Below w.heap.size w w' := by
  obtain ⟨an, cn, rfl⟩ := hr.form
  obtain ⟨R, hR⟩ : ∃ R, R = makeP kind gang ns name := ⟨_, rfl⟩
  have hok : checkP R = 0 := by rw [hR]; exact make_ok _ _ _ _
  refine RS.enter Tryz.func6 Tryz.ntmps6 rfl rfl ?_
  (repeat (first | refine zS ?_ | refine zR ?_ | refine zQ ?_ | refine zK ?_ | refine zI ?_ | refine zB ?_ | refine zE ?_)); refine asB ?_; refine LS.done ?_
  (repeat (first | refine zS ?_ | refine zR ?_ | refine zQ ?_ | refine zK ?_ | refine zI ?_ | refine zB ?_ | refine zE ?_)); skip
  refine callQ (fun v _ => v = .bool true) [] (fun v σ1 k1 hq => ?_) (hc := fun w' hw => known_s lib w' hw)
  subst hq
  refine not_ ?_; refine LS.done ?_
  (repeat (first | refine zS ?_ | refine zR ?_ | refine zQ ?_ | refine zK ?_ | refine zI ?_ | refine zB ?_ | refine zE ?_))
  refine RS.condF ?_
  (repeat (first | refine zS ?_ | refine zR ?_ | refine zQ ?_ | refine zK ?_ | refine zI ?_ | refine zB ?_ | refine zE ?_)); refine mvI ?_; refine mvI ?_; refine mvL ?_; refine mvI ?_
  refine callT (fun v τ => ∃ cs, v = .agg (List.toArray cs) ∧ Rep.rep τ cs R) (fun v τ2 σ2 hq hN k2 hτ => ?_) (fun w' hw => by rw [hR]; exact make_c kind gang name ns _ w' (hr.mono (PH.le_trans k1 hw.imm)))
  obtain ⟨cs, rfl, hrep⟩ := hq
  have hrep := Rep.mono hrep hτ
  obtain ⟨f, rfl⟩ := rep_form hrep
  have k12 := PH.le_trans k1 k2
  skip
  refine callP ?_ (hc := fun w' hw => text_w _ R w' (Rep.mono hrep hw.imm) hok (lib.mono (PH.le_trans k12 hw.imm)))
  obtain ⟨S, hS⟩ : ∃ S, S = textP R := ⟨_, rfl⟩
  have hSl : S.length ≤ 90000 := by rw [hS]; exact text_small hok
  have hSn : S ≠ [] := by
    rw [hS]; unfold textP; rw [textW_eq hok]; simp [joinB]
  have hSp : 0 < S.length := List.length_pos_iff.2 hSn
  rw [← hS]
  refine s2b (fun b24 z => ?_); refine asL ?_; refine LS.done ?_
  (repeat (first | refine zS ?_ | refine zR ?_ | refine zQ ?_ | refine zK ?_ | refine zI ?_ | refine zB ?_ | refine zE ?_)); refine mvL ?_; refine lenL ?_; refine eqI ?_; refine LS.done ?_
  (repeat (first | refine zS ?_ | refine zR ?_ | refine zQ ?_ | refine zK ?_ | refine zI ?_ | refine zB ?_ | refine zE ?_))
  refine RS.condF ?_ (h := by simp; omega)
  (repeat (first | refine zS ?_ | refine zR ?_ | refine zQ ?_ | refine zK ?_ | refine zI ?_ | refine zB ?_ | refine zE ?_)); refine mvL ?_; refine mvI ?_; refine mvL ?_; refine lenL ?_
  refine callP ?_ (hc := fun w _ => w4_c _ _ (by omega) (by omega) w)
  obtain ⟨m1, m2⟩ := wmod at_ (S.length : Int) (by omega)
  obtain ⟨i, hi⟩ : ∃ i : Nat, at_ % (S.length : Int) = i := ⟨(at_ % (S.length : Int)).toNat, by omega⟩
  have hil : i < S.length := by omega
  rw [hi]
  obtain ⟨c, hc⟩ : ∃ c, S[i]? = some c := ⟨S[i], List.getElem?_eq_getElem hil⟩
  refine idx (i := i) ?_; refine ldY i c ?_ hc; refine mvI ?_; refine addI ?_; rw [addY_eq]; refine idx (i := i) ?_; refine stY i (addY c y) ?_ hil; refine LS.done ?_
  obtain ⟨T, hT⟩ : ∃ T, T = S.set i (addY c y) := ⟨_, rfl⟩
  have hTl : T.length = S.length := by rw [hT]; exact List.length_set ..
  rw [← hT]
  (repeat (first | refine zS ?_ | refine zR ?_ | refine zQ ?_ | refine zK ?_ | refine zI ?_ | refine zB ?_ | refine zE ?_)); refine mvL ?_; refine b2sY (u := T) ?_ (hm := hTl.symm)
  refine callQ (ParseA T) [byB b24 tyY T z] (fun v σ3 k3 hq => ?_) (hc := fun w' hw => parse_s T (by omega) (lib.mono k12) w' hw)
  obtain ⟨cs, rfl, hrep3⟩ := hq
  obtain ⟨f3, rfl⟩ := rep_form hrep3
  refine mvT ?_; refine extr (v := _) ?_; refine extr (v := .int _ _) ?_; refine alloc_ (fun b14 => ?_); refine st (.agg _) _ ?_; refine asI ?_; refine LS.done ?_
  refine RS.to (K' := [rcW b14 (parseP T).1 f3, byB b24 tyY T z]) ?_ ⟨fun h => h⟩
  (repeat (first | refine zS ?_ | refine zR ?_ | refine zQ ?_ | refine zK ?_ | refine zI ?_ | refine zB ?_ | refine zE ?_)); refine mvI ?_; refine neI ?_; refine LS.done ?_
  (repeat (first | refine zS ?_ | refine zR ?_ | refine zQ ?_ | refine zK ?_ | refine zI ?_ | refine zB ?_ | refine zE ?_))
  refine RS.cond (fun q => ?_) (fun q => ?_)
  · have q : ¬ (parseP T).2 = 0 := by simpa using q
    have hbad := parse_bad q
    rw [hbad] at hrep3 ⊢
    (repeat (first | refine zS ?_ | refine zR ?_ | refine zQ ?_ | refine zK ?_ | refine zI ?_ | refine zB ?_ | refine zE ?_)); refine ldA (rcV rec0 f3) ?_; refine bld (vals := []) [_, _, _, _, _, _, _, _, _, _] ?_
    refine callP ?_ (hc := fun w' hw => same_x _ _ rec0 rec0 w' (Rep.mono hrep3 hw.imm) (rec0_rep _ 0 ⟨by decide, by decide⟩))
    rw [decide_eq_true (show rec0 = rec0 from rfl)]
    refine asB ?_; refine LS.done ?_
    (repeat (first | refine zS ?_ | refine zR ?_ | refine zQ ?_ | refine zK ?_ | refine zI ?_ | refine zB ?_ | refine zE ?_)); refine RS.ret1 (v := .bool _) Tryz.func6 fun w hw => ?_
    exact ⟨rfl, hw.below⟩
  · have q : (parseP T).2 = 0 := by simpa using q
    obtain ⟨r, hr3⟩ : ∃ r, r = (parseP T).1 := ⟨_, rfl⟩
    obtain ⟨e1, e2⟩ := text_parse (s := T) (r := r) (by rw [hr3, ← q])
    rw [← hr3] at hrep3 ⊢
    (repeat (first | refine RS.seq ?_ | refine RS.region ?_ | refine RS.skip ?_ | refine RS.inBlock ?_ | refine RS.block ?_ | refine RS.exit ?_)); refine RS.drawG [(54, some true)] [.ex, .ex, .free, .ex, .free, .free, .ex, .ex, .free, .free, .free] [rcW b14 r f3, byB b24 tyY T z] ?_ (by kernel_rfl) (by kernel_rfl) (by kernel_rfl) ⟨fun h => h⟩; simp only [ers, ersO, onOff, glook, nthO, List.map_cons, List.map_nil, Option.bind_some, Option.map_some, Nat.beq, cond_true, BEq.beq]; refine D.ldA (rcV r f3) ?_
    refine D.callP ?_ (hc := fun _ _ w' hle _ hw => text_w _ r w' (Rep.mono hrep3 (PH.le_trans hle hw.imm)) e2 (lib.mono (PH.le_trans k12 (PH.le_trans k3 (PH.le_trans hle hw.imm)))))
    rw [e1]
    refine D.mvL ?_; refine D.b2sY (u := T) ?_ (hm := hTl.symm); refine D.eqS ?_; rw [decide_eq_true (show B T = B T from rfl)]; refine D.mvB ?_; refine D.ldA (rcV r f3) ?_
    refine D.callP ?_ (hc := fun _ _ w' hle _ hw => check_c _ r w' (Rep.mono hrep3 (PH.le_trans hle hw.imm)) (small_ok e2))
    rw [e2]
    refine D.eqI ?_; refine D.pk (v := .bool _) ?_; refine D.asB ?_; refine D.doneG [(54, some true)] ⟨⟨rfl, rfl⟩, trivial⟩ (fun us σ1 hle1 hfs => ?_)
    refine RS.ow ?_
    (repeat (first | refine zS ?_ | refine zR ?_ | refine zQ ?_ | refine zK ?_ | refine zI ?_ | refine zB ?_ | refine zE ?_)); refine RS.ret1 (v := .bool _) Tryz.func6 fun w hw => ?_
    exact ⟨rfl, hw.below⟩
end Go.Proofs.YtaiofgmhlfccgaaGreatDoor
