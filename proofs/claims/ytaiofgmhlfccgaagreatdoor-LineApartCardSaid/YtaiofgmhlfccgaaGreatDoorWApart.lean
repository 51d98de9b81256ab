/- The walk of LineApart. -/
import Derived.Test.YtaiofgmhlfccgaaGreatDoorQ5
namespace Go.Proofs.YtaiofgmhlfccgaaGreatDoor
open Go.JW Go.RowKit
theorem apart_c (kind : Int) (_ : I64 kind) (gang : Int) (_ : I64 gang) (ns : List Int) (name : Int) (_ : I64 name) (other : Int) (_ : I64 other) (ms : List Int) (which : Int) (_ : I64 which) (vn vm : Value) (w : World) (lib : LibAt (hp w)) (hr : RepL (hp w) vn ns) (hm : RepL (hp w) vm ms) :
    Calls Tryz.prog 8 #[.int .i64 kind, .int .i64 gang, vn, .int .i64 name, .int .i64 other, vm, .int .i64 which] w fun e w' => e = .returned (.bool true) ∧ Below w.heap.size w w' := by
  obtain ⟨an, cn, rfl⟩ := hr.form
  obtain ⟨am, cm, rfl⟩ := hm.form
  obtain ⟨A, hAe⟩ : ∃ R, R = makeP kind gang ns name := ⟨_, rfl⟩
  obtain ⟨S, hSe⟩ : ∃ R, R = makeP kind gang ms other := ⟨_, rfl⟩
  have hokA : checkP A = 0 := by rw [hAe]; exact make_ok _ _ _ _
  have hokS : checkP S = 0 := by rw [hSe]; exact make_ok _ _ _ _
  refine RS.enter Tryz.func8 Tryz.ntmps8 rfl rfl ?_
  (repeat (first | refine zS ?_ | refine zR ?_ | refine zQ ?_ | refine zK ?_ | refine zI ?_ | refine zB ?_ | refine zE ?_)); refine asB ?_; refine LS.done ?_
  (repeat (first | refine zS ?_ | refine zR ?_ | refine zQ ?_ | refine zK ?_ | refine zI ?_ | refine zB ?_ | refine zE ?_)); skip
  refine callQ (fun v _ => v = .bool true) [] (fun v σ1 k1 hq => ?_) (hc := fun w' hw => known_s lib w' hw)
  subst hq
  refine not_ ?_; refine LS.done ?_
  (repeat (first | refine zS ?_ | refine zR ?_ | refine zQ ?_ | refine zK ?_ | refine zI ?_ | refine zB ?_ | refine zE ?_))
  refine RS.condF ?_
  (repeat (first | refine zS ?_ | refine zR ?_ | refine zQ ?_ | refine zK ?_ | refine zI ?_ | refine zB ?_ | refine zE ?_)); refine mvI ?_; refine mvI ?_; refine mvL ?_; refine mvI ?_
  refine callT (fun v τ => ∃ cs, v = .agg (List.toArray cs) ∧ Rep.rep τ cs A) (fun v τ2 σ2 hq hN k2 hτ => ?_) (fun w' hw => by rw [hAe]; exact make_c kind gang name ns _ w' (hr.mono (PH.le_trans k1 hw.imm)))
  obtain ⟨cs, rfl, hA⟩ := hq
  have hA := Rep.mono hA hτ
  obtain ⟨f, rfl⟩ := rep_form hA
  refine mvI ?_; refine mvI ?_; refine mvL ?_; refine mvI ?_
  refine callT (fun v τ => ∃ cs, v = .agg (List.toArray cs) ∧ Rep.rep τ cs S) (fun v τ3 σ3 hq hN3 k3 hτ3 => ?_) (fun w' hw => by rw [hSe]; exact make_c kind gang other ms _ w' (hm.mono (PH.le_trans (PH.le_trans k1 k2) hw.imm)))
  obtain ⟨cs, rfl, hS⟩ := hq
  have hS := Rep.mono hS hτ3
  obtain ⟨f3, rfl⟩ := rep_form hS
  have k13 := PH.le_trans (PH.le_trans k1 k2) k3
  refine alloc_ (fun b15 => ?_); refine alloc_ (fun b16 => ?_); refine st (.agg _) _ ?_; refine st (.agg _) _ ?_; refine LS.done ?_
  refine RS.to (K' := [rcW b16 S f3, rcW b15 A f]) ?_ ⟨fun h => h⟩
  (repeat (first | refine zS ?_ | refine zR ?_ | refine zQ ?_ | refine zK ?_ | refine zI ?_ | refine zB ?_ | refine zE ?_)); refine mvI ?_
  refine callP ?_ (hc := fun w _ => w4_c _ _ (by omega) (by omega) w)
  refine eqI ?_; refine LS.done ?_
  (repeat (first | refine zS ?_ | refine zR ?_ | refine zQ ?_ | refine zK ?_ | refine zI ?_ | refine zB ?_ | refine zE ?_))
  refine RS.cond (fun c => ?_) (fun c => ?_)
  · (repeat (first | refine zS ?_ | refine zR ?_ | refine zQ ?_ | refine zK ?_ | refine zI ?_ | refine zB ?_ | refine zE ?_)); refine mvI ?_; refine mvI ?_; refine mvI ?_
    refine callP ?_ (hc := fun w _ => w4_c _ _ (by omega) (by omega) w)
    refine addI ?_; refine mvL ?_; refine mvI ?_
    obtain ⟨T, hTe⟩ : ∃ R, R = makeP kind (IntKind.i64.wrap (gang + which % 4)) ns name := ⟨_, rfl⟩
    have hokT : checkP T = 0 := by rw [hTe]; exact make_ok _ _ _ _
    refine callT (fun v τ => ∃ cs, v = .agg (List.toArray cs) ∧ Rep.rep τ cs T) (fun v τ4 σ4 hq hN4 k4 hτ4 => ?_) (fun w' hw => by rw [hTe]; exact make_c kind _ name ns _ w' (hr.mono (PH.le_trans k13 hw.imm)))
    obtain ⟨cs, rfl, hT⟩ := hq
    have hT := Rep.mono hT hτ4
    obtain ⟨f4, rfl⟩ := rep_form hT
    refine st (.agg _) _ ?_; refine LS.done ?_
    refine RS.to (K' := [rcW b16 T f4, rcW b15 A f]) ?_ ⟨fun h => h⟩
    (repeat (first | refine RS.seq ?_ | refine RS.region ?_ | refine RS.skip ?_ | refine RS.inBlock ?_ | refine RS.block ?_ | refine RS.exit ?_)); refine RS.draw [.ex, .ex, .ex, .ex, .free, .ex, .ex, .ex, .free, .free] [rcW b16 T f4, rcW b15 A f] ?_ (by kernel_rfl) (by kernel_rfl) (by infer_instance); refine D.ldA (rcV A f) ?_
    refine D.callP ?_ (hc := fun _ _ w' hle _ hw => text_w _ A w' (Rep.mono hA (PH.le_trans (PH.le_trans k3 k4) (PH.le_trans hle hw.imm))) hokA (lib.mono (PH.le_trans (PH.le_trans k13 k4) (PH.le_trans hle hw.imm))))
    refine D.ldA (rcV T f4) ?_
    refine D.callP ?_ (hc := fun _ _ w' hle _ hw => text_w _ T w' (Rep.mono hT (PH.le_trans hle hw.imm)) hokT (lib.mono (PH.le_trans (PH.le_trans k13 k4) (PH.le_trans hle hw.imm))))
    refine D.eqS ?_; refine D.ldA (rcV A f) ?_; refine D.ldA (rcV T f4) ?_
    refine D.callP ?_ (hc := fun _ _ w' hle _ hw => same_x _ _ A T w' (Rep.mono hA (PH.le_trans (PH.le_trans k3 k4) (PH.le_trans hle hw.imm))) (Rep.mono hT (PH.le_trans hle hw.imm)))
    refine D.bin_eql_B ?_; refine D.asB ?_; refine D.done (fun us σ1 hle1 hfs => ?_)
    refine RS.ow ?_
    (repeat (first | refine zS ?_ | refine zR ?_ | refine zQ ?_ | refine zK ?_ | refine zI ?_ | refine zB ?_ | refine zE ?_)); refine RS.ret1 (v := .bool _) Tryz.func8 fun w hw => ?_
    exact ⟨by rw [show decide (B (textP A) = B (textP T)) = decide (A = T) from decide_eq_decide.2 ⟨fun h => text_inj hokA hokT (B_inj.1 h), fun h => by rw [h]⟩]; simp, hw.below⟩
  · (repeat (first | refine RS.seq ?_ | refine RS.region ?_ | refine RS.skip ?_ | refine RS.inBlock ?_ | refine RS.block ?_ | refine RS.exit ?_)); refine RS.draw [.ex, .ex, .ex, .ex, .free, .ex, .ex, .ex, .free, .free] [rcW b16 S f3, rcW b15 A f] ?_ (by kernel_rfl) (by kernel_rfl) (by infer_instance); refine D.ldA (rcV A f) ?_
    refine D.callP ?_ (hc := fun _ _ w' hle _ hw => text_w _ A w' (Rep.mono hA (PH.le_trans k3 (PH.le_trans hle hw.imm))) hokA (lib.mono (PH.le_trans k13 (PH.le_trans hle hw.imm))))
    refine D.ldA (rcV S f3) ?_
    refine D.callP ?_ (hc := fun _ _ w' hle _ hw => text_w _ S w' (Rep.mono hS (PH.le_trans hle hw.imm)) hokS (lib.mono (PH.le_trans k13 (PH.le_trans hle hw.imm))))
    refine D.eqS ?_; refine D.ldA (rcV A f) ?_; refine D.ldA (rcV S f3) ?_
    refine D.callP ?_ (hc := fun _ _ w' hle _ hw => same_x _ _ A S w' (Rep.mono hA (PH.le_trans k3 (PH.le_trans hle hw.imm))) (Rep.mono hS (PH.le_trans hle hw.imm)))
    refine D.bin_eql_B ?_; refine D.asB ?_; refine D.done (fun us σ1 hle1 hfs => ?_)
    refine RS.ow ?_
    (repeat (first | refine zS ?_ | refine zR ?_ | refine zQ ?_ | refine zK ?_ | refine zI ?_ | refine zB ?_ | refine zE ?_)); refine RS.ret1 (v := .bool _) Tryz.func8 fun w hw => ?_
    exact ⟨by rw [show decide (B (textP A) = B (textP S)) = decide (A = S) from decide_eq_decide.2 ⟨fun h => text_inj hokA hokS (B_inj.1 h), fun h => by rw [h]⟩]; simp, hw.below⟩
end Go.Proofs.YtaiofgmhlfccgaaGreatDoor
