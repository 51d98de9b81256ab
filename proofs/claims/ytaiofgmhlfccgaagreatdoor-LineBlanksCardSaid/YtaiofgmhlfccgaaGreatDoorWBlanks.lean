/- The walk of LineBlanks. -/
import Derived.Test.YtaiofgmhlfccgaaGreatDoorQ5
namespace Go.Proofs.YtaiofgmhlfccgaaGreatDoor
open Go.JW Go.RowKit
abbrev tyS3 : TypeId := 9
def signs6 : List Bs := [[32], [9], [10], [45], [0], [206, 177]]
def signs6V : List Value := signs6.map fun x => Value.string (B x)
theorem signs6_at : ∀ i : Fin 6, (signs6.getD i.val []).length = 1 ∨ (signs6.getD i.val []).length = 2 := by decide
theorem blanks_c (kind : Int) (_ : I64 kind) (gang : Int) (_ : I64 gang) (ns : List Int) (name : Int) (_ : I64 name) (at_ : Int) (_ : I64 at_) (sign : Int) (_ : I64 sign) (vn : Value) (w : World) (lib : LibAt (hp w)) (hr : RepL (hp w) vn ns) :
    Calls Tryz.prog 9 #[.int .i64 kind, .int .i64 gang, vn, .int .i64 name, .int .i64 at_, .int .i64 sign] w fun e w' => e = .returned (.bool true) ∧ Below w.heap.size w w' := by
  obtain ⟨an, cn, rfl⟩ := hr.form
  obtain ⟨R, hR⟩ : ∃ R, R = makeP kind gang ns name := ⟨_, rfl⟩
  have hok : checkP R = 0 := by rw [hR]; exact make_ok _ _ _ _
  refine RS.enter Tryz.func9 Tryz.ntmps9 rfl rfl ?_
  (repeat (first | refine zS ?_ | refine zR ?_ | refine zQ ?_ | refine zK ?_ | refine zI ?_ | refine zB ?_ | refine zE ?_)); refine asB ?_; refine LS.done ?_
  (repeat (first | refine zS ?_ | refine zR ?_ | refine zQ ?_ | refine zK ?_ | refine zI ?_ | refine zB ?_ | refine zE ?_)); skip
  refine callQ (fun v _ => v = .bool true) [] (fun v σ1 k1 hq => ?_) (hc := fun w' hw => known_s lib w' hw)
  subst hq
  refine not_ ?_; refine LS.done ?_
  (repeat (first | refine zS ?_ | refine zR ?_ | refine zQ ?_ | refine zK ?_ | refine zI ?_ | refine zB ?_ | refine zE ?_))
  refine RS.condF ?_
  (repeat (first | refine zS ?_ | refine zR ?_ | refine zQ ?_ | refine zK ?_ | refine zI ?_ | refine zB ?_ | refine zE ?_)); refine mvI ?_; refine mvI ?_; refine mvL ?_; refine mvI ?_
  refine callT (fun v τ => ∃ cs, v = .agg (List.toArray cs) ∧ Rep.rep τ cs R) (fun v τ2 σ2 hq hN k2 hτ => ?_) (fun w' hw => by rw [hR]; exact make_c kind gang name ns _ w' (hr.mono (PH.le_trans k1 hw.imm)))
  obtain ⟨cs, rfl, hrep⟩ := hq
  have hrep := Rep.mono hrep hτ
  obtain ⟨f, rfl⟩ := rep_form hrep
  have k12 := PH.le_trans k1 k2
  refine alloc_ (fun b13 => ?_); refine st (.agg _) _ ?_; refine LS.done ?_
  refine RS.to (K' := [rcW b13 R f]) ?_ ⟨fun h => h⟩
  (repeat (first | refine zS ?_ | refine zR ?_ | refine zQ ?_ | refine zK ?_ | refine zI ?_ | refine zB ?_ | refine zE ?_)); refine ldA (rcV R f) ?_
  refine callP ?_ (hc := fun w' hw => text_w _ R w' (Rep.mono hrep hw.imm) hok (lib.mono (PH.le_trans k12 hw.imm)))
  obtain ⟨S, hS⟩ : ∃ S, S = textP R := ⟨_, rfl⟩
  have hSl : S.length ≤ 5000 := by rw [hS]; exact textP_size hok
  have bS : (B S).size = S.length := B_size _
  rw [← hS]
  refine asS ?_; refine LS.done ?_
  (repeat (first | refine zS ?_ | refine zR ?_ | refine zQ ?_ | refine zK ?_ | refine zI ?_ | refine zB ?_ | refine zE ?_)); refine mvI ?_; refine mvS ?_; refine lenS ?_; (first | refine addN ?_ | refine addI ?_)
  refine callP ?_ (hc := fun w _ => w4_c _ _ (by omega) (by omega) w)
  obtain ⟨n1, n2⟩ := wmod at_ ((B S).size + 1 : Int) (by omega)
  obtain ⟨k, hk⟩ : ∃ k : Nat, at_ % ((B S).size + 1 : Int) = k := ⟨(at_ % ((B S).size + 1 : Int)).toNat, by omega⟩
  rw [hk]
  have hkl : k ≤ S.length := by omega
  refine asI ?_; refine LS.done ?_
  obtain ⟨m1, m2⟩ := wmod sign 6 (by omega)
  obtain ⟨i, hi⟩ : ∃ i : Nat, sign % 6 = i := ⟨(sign % 6).toNat, by omega⟩
  have hi6 : i < 6 := by omega
  obtain ⟨sg, hsg⟩ : ∃ sg, sg = signs6.getD i [] := ⟨_, rfl⟩
  have hsgl : sg.length = 1 ∨ sg.length = 2 := by rw [hsg]; exact signs6_at ⟨i, hi6⟩
  have hcell : signs6V[i]? = some (.string (B sg)) := by
    rw [hsg]; unfold signs6V
    rw [List.getElem?_map, List.getElem?_eq_getElem (by simp [signs6]; omega)]
    simp [List.getD_eq_getElem?_getD, show i < signs6.length by simp [signs6]; omega]
  have btk : (B (S.take k)).size ≤ S.length := by rw [B_size, List.length_take]; omega
  have bdk : (B (S.drop k)).size ≤ S.length := by rw [B_size, List.length_drop]; omega
  have bsg : (B sg).size = sg.length := B_size _
  have b1 : (B (S.take k ++ sg)).size ≤ S.length + sg.length := by rw [B_size, List.length_append, List.length_take]; omega
  have y1 : (B (S.take k)).size + (B sg).size ≤ 9223372036854775807 := by omega
  have y2 : (B (S.take k ++ sg)).size + (B (S.drop k)).size ≤ 9223372036854775807 := by omega
  obtain ⟨T, hT⟩ : ∃ T, T = S.take k ++ sg ++ S.drop k := ⟨_, rfl⟩
  have hTl : T.length = S.length + sg.length := by rw [hT]; simp; omega
  (repeat (first | refine RS.seq ?_ | refine RS.region ?_ | refine RS.skip ?_ | refine RS.inBlock ?_ | refine RS.block ?_ | refine RS.exit ?_)); refine RS.draw [.free, .free, .free, .ex, .free, .ex, .ex, .ex, .free, .free, .free, .free, .free, .free] [rcW b13 R f] ?_ (by kernel_rfl) (by kernel_rfl) (by infer_instance); refine D.mvS ?_; refine D.mvI ?_; refine D.slcUptoT (u := S) k ?_ hkl
  refine D.bldL signs6V signs6V ?_
  refine D.mvI ?_
  refine D.callP ?_ (hc := fun _ _ w _ _ _ => w4_c _ _ (by omega) (by omega) w)
  rw [hi]
  refine D.idxT (e := tyS3) (len := 6) (i := i) (cs := signs6V) ?_ (fun us σ' hle hf => by exact hf.1); refine D.ldT (e := tyS3) (i := i) (cs := signs6V) (.string (B sg)) ?_ (fun us σ' hle hf => by exact hf.1) hcell; refine D.addS ?_ (hs := y1); rw [B_add]; refine D.mvS ?_; refine D.mvI ?_; refine D.slcFromT (u := S) k ?_ hkl; refine D.addS ?_ (hs := y2); rw [B_add, ← hT]; refine D.asS ?_; refine D.done (fun us σ1 hle1 hfs => ?_)
  have k3 := hle1
  refine RS.ow ?_
  have k123 := PH.le_trans k12 k3
  (repeat (first | refine zS ?_ | refine zR ?_ | refine zQ ?_ | refine zK ?_ | refine zI ?_ | refine zB ?_ | refine zE ?_)); refine mvS ?_
  refine callQ (ParseA T) [rcW b13 R f] (fun v σ4 k4 hq => ?_) (hc := fun w' hw => parse_s T (by omega) (lib.mono k123) w' hw)
  obtain ⟨cs, rfl, hrep4⟩ := hq
  obtain ⟨f4, rfl⟩ := rep_form hrep4
  refine mvT ?_; refine extr (v := _) ?_; refine extr (v := .int _ _) ?_; refine alloc_ (fun b17 => ?_); refine st (.agg _) _ ?_; refine asI ?_; refine LS.done ?_
  refine RS.to (K' := [rcW b17 (parseP T).1 f4, rcW b13 R f]) ?_ ⟨fun h => h⟩
  (repeat (first | refine zS ?_ | refine zR ?_ | refine zQ ?_ | refine zK ?_ | refine zI ?_ | refine zB ?_ | refine zE ?_)); refine mvI ?_; refine neI ?_; refine mvB ?_
  by_cases q : (parseP T).2 = 0
  · obtain ⟨r, hr3⟩ : ∃ r, r = (parseP T).1 := ⟨_, rfl⟩
    obtain ⟨e1, e2⟩ := text_parse (s := T) (r := r) (by rw [hr3, ← q])
    have hne : ¬ r = R := fun e => by
      have h1 := congrArg List.length e1
      rw [e, ← hS, hTl] at h1
      omega
    rw [← hr3] at hrep4 ⊢
    rw [q]
    refine LS.part 53 (fun z => ?_) (fun z => ?_)
    · cases z
    refine LS.off ?_; refine LS.off ?_; refine LS.off ?_; refine pk (v := .bool _) ?_; refine mvB ?_; refine LS.on ?_; refine mvI ?_; refine LS.on ?_; refine eqI ?_; refine LS.on ?_; refine mvB ?_; refine LS.on ?_; refine ldA (rcV r f4) ?_; refine LS.on ?_; refine ldA (rcV R f) ?_; refine LS.on ?_
    refine callP ?_ (hc := fun w' hw => same_x _ _ r R w' (Rep.mono hrep4 hw.imm) (Rep.mono hrep (PH.le_trans k3 (PH.le_trans k4 hw.imm))))
    rw [decide_eq_false hne]
    refine LS.on ?_; refine not_ ?_; refine LS.on ?_; refine pk (v := .bool _) ?_; refine LS.on ?_; refine mvB ?_; refine LS.on ?_; refine ldA (rcV r f4) ?_; refine LS.on ?_
    refine callP ?_ (hc := fun w' hw => text_w _ r w' (Rep.mono hrep4 hw.imm) e2 (lib.mono (PH.le_trans k123 (PH.le_trans k4 hw.imm))))
    rw [e1]
    refine LS.on ?_; refine mvS ?_; refine LS.on ?_; refine eqS ?_; rw [decide_eq_true (show B T = B T from rfl)]; refine LS.on ?_; refine pk (v := .bool _) ?_; refine pk (v := .bool _) ?_; refine asB ?_; refine LS.done ?_
    (repeat (first | refine zS ?_ | refine zR ?_ | refine zQ ?_ | refine zK ?_ | refine zI ?_ | refine zB ?_ | refine zE ?_)); refine RS.ret1 (v := .bool _) Tryz.func9 fun w hw => ?_
    exact ⟨rfl, hw.below⟩
  · have hbad := parse_bad q
    rw [hbad] at hrep4 ⊢
    refine LS.part 53 (fun z => ?_) (fun z => ?_)
    · refine LS.on ?_; refine fld ?_; refine LS.on ?_; refine ld1 (v := .int _ _) ?_; refine LS.on ?_; refine eqI ?_; refine pk (v := .bool _) ?_; refine mvB ?_; refine LS.off ?_; refine LS.off ?_; refine LS.off ?_; refine LS.offU ?_; refine LS.offU ?_; refine LS.offU ?_; refine LS.offU ?_; refine LS.off ?_; refine LS.off ?_; refine LS.offU ?_; refine LS.offU ?_; refine LS.offU ?_; refine LS.offU ?_; refine LS.off ?_; refine pk (v := .bool _) ?_; refine asB ?_; refine LS.done ?_
      (repeat (first | refine zS ?_ | refine zR ?_ | refine zQ ?_ | refine zK ?_ | refine zI ?_ | refine zB ?_ | refine zE ?_)); refine RS.ret1 (v := .bool _) Tryz.func9 fun w hw => ?_
      exact ⟨rfl, hw.below⟩
    · exact absurd (by simpa using z) q
end Go.Proofs.YtaiofgmhlfccgaaGreatDoor
