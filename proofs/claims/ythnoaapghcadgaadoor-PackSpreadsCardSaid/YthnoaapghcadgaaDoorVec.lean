/- Contracts: so much of two things. -/
import Derived.Test.YthnoaapghcadgaaDoorMap
import Derived.Test.YthnoaapghcadgaaDoorTypes
import Derived.Test.YthnoaapghcadgaaDoorFun
import Derived.ChangeKeysEq
import Derived.Laws.Small
namespace Go.JW
section
variable {P : Program} {q : Bool} {ops : Array Oper} {f : FuncId} {R : Ending → World → Prop} {k : List Item} {n : Nat} {fr : Nat → Value} {w0 : World} {M : Nat → Prop} {σ : PH} {K : List HP}
variable {rest : List Oper} {d : Nat} {ty : TypeId} {pos : String} {aft : Array Edge} {x y : Operand} {t t' : TypeId}
theorem maxI {a b : Int} (h : LS P q ops f R k rest n (upd fr d (.int .i64 (if b > a then b else a))) w0 M σ K) (hx : ev n fr x = .int .i64 a := by rfl) (hy : ev n fr y = .int .i64 b := by rfl) :
    LS P q ops f R k (⟨some d, .call ⟨.builtin .max, #[x, y], #[t, t']⟩, ty, pos, aft, none⟩ :: rest) n fr w0 M σ K :=
  LS.val rfl rfl (fun w _ => by
    have := run_max_int2 (P := P) w #[t, t'] ty .i64 .i64 a b
    simp [execOp, resolve, invoke, builtin, hx, hy, this]) h
theorem RS.retCT {fn : Func} {t b s u : Nat} {cs : List Value} {ty T : TypeId} {v : Value} {put : HP → List HP} {K' : List HP} (hf : P.funcs[f]? = some fn) (vs : List Value) [ha : TAgg P ty] [hs : TSz P ty s] (h : ∀ w, Sat w0 M σ K w → R (.returned (.tuple #[.agg vs.toArray, v])) w)
    (hr : fn.results = #[.cell t ty, .tmp u] := by rfl) (hv : ev n fr (.tmp t) = .pointer (some ⟨b, 0, none⟩) := by rfl) (hu : ev n fr (.tmp u) = v := by rfl) (hb : FindB b K (.cells cs.toArray T (0, 0)) put K' := by infer_instance) (hc : takeAt cs 0 s = some vs := by rfl) :
    RS P f R (.code .ret :: k) n fr w0 M σ K := by
  refine ⟨fun w hw => ?_⟩
  have hbb := hw.get (i := hb)
  obtain ⟨hl, hcc⟩ := takeAt_spec _ _ _ _ hc
  have h1 := run_loadVarA (P := P) (w := w) (b := b) ha.agg hs.eq 0 hl (fun j hj => (cell_blk hbb (0 + j)).trans (hcc j hj))
  refine Run.ret hf ?_ rfl (h w hw)
  have e1 := tmps_at hv
  have e2 := tmps_at hu
  rw [Array.getD_eq_getD_getElem?] at e1 e2
  simp [results, hr, e1, e2, asAddr, h1]
theorem run_buildA {t e : TypeId} {len s : Nat} {zs cs : List Value} {parts : List (Nat × Value)} (w : World) (ht : P.underlying t = some (.array len e)) (hs : szOf P e = some s) (hz : zeroOf P t = some zs) (h : fillL (fun i => some (i * s, s)) zs parts = some cs) :
    (Instr.build t parts.toArray).run P w = .ok (.agg cs.toArray) w := by
  obtain ⟨z, h1, h2⟩ := zero_cells hz w
  have h4 := fill_list (fun i => some (i * s, s)) parts zs cs h
  simp only [Instr.build, Sem.run_bind, h1, Result.andThen_ok, run_underlying ht, run_sz w hs, h2]
  rw [h4]
  rfl
theorem bldA {e : TypeId} {len s : Nat} {zs : List Value} {parts : Array (Nat × Operand)} {vals : List (Nat × Value)} (cs : List Value) [ht : TArr P t len e] [hs : TSz P e s] [hz : TZero P t zs] (h : LS P q ops f R k rest n (upd fr d (.agg cs.toArray)) w0 M σ K)
    (hx : parts.toList.map (fun p => (p.1, ev n fr p.2)) = vals := by rfl) (hc : fillL (fun i => some (i * s, s)) zs vals = some cs := by rfl) :
    LS P q ops f R k (⟨some d, .build t parts, ty, pos, aft, none⟩ :: rest) n fr w0 M σ K :=
  LS.val rfl rfl (fun w _ => by
    have e : (parts.map fun (i, x) => (i, ev n fr x)) = vals.toArray := by rw [← hx]; cases parts; simp
    simp [execOp, e, run_buildA w ht.eq hs.eq hz.eq hc]) h
end
end Go.JW
namespace Go.Proofs.YthnoaapghcadgaaDoor
open Go.JW Go.RowKit

theorem eq_vec (c m c' m' : Int) (w : World) : (Op.equalIn 10000 30 (.agg (List.toArray [.int .i64 c, .int .i64 m])) (.agg (List.toArray [.int .i64 c', .int .i64 m']))).run Tryd.prog w = .ok (c == c' && m == m') w := by
  have ht : Tryd.prog.underlying 30 = some (.struct (Tryd.prog.fieldsOf 30)) := by kernel_rfl
  have hf : (Tryd.prog.fieldsOf 30).toList = [⟨"Cpu", 3, 0, false, "", "", 0⟩, ⟨"Mem", 3, 1, false, "", "", 8⟩] := by kernel_rfl
  have hi : Tryd.prog.underlying 3 = some (.int .i64) := TInt.eq
  have hag := fun w => run_agg (P := Tryd.prog) (t := 3) w TOne.agg
  rw [run_equalIn_agg w 9999 _ _ _ ht (by kernel_rfl), hf]
  simp [Op.eqFields, part, hag, run_equalIn_int _ 9998 3 .i64 .i64 _ _ hi]
  by_cases h : c = c' <;> by_cases h2 : m = m' <;> simp [h, h2]
theorem eq_row (c m c' m' : Int) (w : World) : (Op.equalIn 10000 82 (.agg (List.toArray [.int .i64 c, .int .i64 m])) (.agg (List.toArray [.int .i64 c', .int .i64 m']))).run Tryd.prog w = .ok (c == c' && m == m') w := by
  have ht : Tryd.prog.underlying 82 = some (.array 2 3) := TArr.eq
  have hi : Tryd.prog.underlying 3 = some (.int .i64) := TInt.eq
  have hag := fun w => run_agg (P := Tryd.prog) (t := 3) w TOne.agg
  have hsz : Tryd.prog.cellsOf 3 = 1 := by kernel_rfl
  have hz := (TSz.eq : szOf Tryd.prog 3 = some 1)
  cases hinf : Tryd.prog.info? 3 with
  | none => unfold szOf at hz; rw [hinf] at hz; cases hz
  | some i =>
    rw [run_equalIn_array w 9999 _ _ ht hinf, hsz]
    simp [Op.eqItems, List.range, List.range.loop, part, hag, run_equalIn_int _ 9998 3 .i64 .i64 _ _ hi]
    by_cases h : c = c' <;> by_cases h2 : m = m' <;> simp [h, h2]
theorem parts_c (c m : Int) (w : World) : Calls Tryd.prog 32 #[.agg (List.toArray [.int .i64 c, .int .i64 m])] w fun e w' => e = .returned (.agg (List.toArray [.int .i64 c, .int .i64 m])) ∧ Below w.heap.size w w' := by
  refine RS.enter Tryd.func32 Tryd.ntmps32 rfl rfl ?_
  (repeat (first | refine RS.seq ?_ | refine RS.region ?_ | refine RS.regionQ ?_ (by kernel_rfl) (by kernel_rfl) | refine RS.skip ?_ | refine RS.inBlock ?_ | refine RS.block ?_ | refine RS.exit ?_)); refine box_ (v := .agg _) (cs := [_, _]) (fun b1 => ?_); refine alloc_ (fun b2 => ?_); refine LS.done ?_
  (repeat (first | refine RS.seq ?_ | refine RS.region ?_ | refine RS.regionQ ?_ (by kernel_rfl) (by kernel_rfl) | refine RS.skip ?_ | refine RS.inBlock ?_ | refine RS.block ?_ | refine RS.exit ?_)); refine fld ?_; refine ld1 (v := .int _ _) ?_; refine fld ?_; refine ld1 (v := .int _ _) ?_; refine bldA [.int .i64 c, .int .i64 m] ?_; refine st (.agg _) _ ?_; refine LS.done ?_
  (repeat (first | refine RS.seq ?_ | refine RS.region ?_ | refine RS.regionQ ?_ (by kernel_rfl) (by kernel_rfl) | refine RS.skip ?_ | refine RS.inBlock ?_ | refine RS.block ?_ | refine RS.exit ?_)); refine RS.retC (ty := 82) Tryd.func32 [_, _] fun w hw => ?_
  exact ⟨rfl, hw.below⟩
theorem whole_c (c m : Int) (w : World) : Calls Tryd.prog 77 #[.agg (List.toArray [.int .i64 c, .int .i64 m])] w fun e w' => e = .returned (.agg (List.toArray [.int .i64 c, .int .i64 m])) ∧ Below w.heap.size w w' := by
  refine RS.enter Tryd.func77 Tryd.ntmps77 rfl rfl ?_
  (repeat (first | refine RS.seq ?_ | refine RS.region ?_ | refine RS.regionQ ?_ (by kernel_rfl) (by kernel_rfl) | refine RS.skip ?_ | refine RS.inBlock ?_ | refine RS.block ?_ | refine RS.exit ?_)); refine box_ (v := .agg _) (cs := [_, _]) (fun b1 => ?_); refine alloc_ (fun b2 => ?_); refine LS.done ?_
  (repeat (first | refine RS.seq ?_ | refine RS.region ?_ | refine RS.regionQ ?_ (by kernel_rfl) (by kernel_rfl) | refine RS.skip ?_ | refine RS.inBlock ?_ | refine RS.block ?_ | refine RS.exit ?_)); refine idxA (i := 0) ?_; refine ld1 (v := .int _ _) ?_; refine idxA (i := 1) ?_; refine ld1 (v := .int _ _) ?_; refine bld (vals := [(0, .int _ _), (1, .int _ _)]) [_, _] ?_; refine st (.agg _) _ ?_; refine LS.done ?_
  (repeat (first | refine RS.seq ?_ | refine RS.region ?_ | refine RS.regionQ ?_ (by kernel_rfl) (by kernel_rfl) | refine RS.skip ?_ | refine RS.inBlock ?_ | refine RS.block ?_ | refine RS.exit ?_)); refine RS.retC (ty := 30) Tryd.func77 [_, _] fun w hw => ?_
  exact ⟨rfl, hw.below⟩
theorem right_c (c m : Int) (w : World) : Calls Tryd.prog 64 #[.agg (List.toArray [.int .i64 c, .int .i64 m])] w fun e w' => e = .returned (.bool (decide (0 ≤ c ∧ 0 ≤ m))) ∧ Below w.heap.size w w' := by
  refine RS.enter Tryd.func64 Tryd.ntmps64 rfl rfl ?_
  (repeat (first | refine RS.seq ?_ | refine RS.region ?_ | refine RS.regionQ ?_ (by kernel_rfl) (by kernel_rfl) | refine RS.skip ?_ | refine RS.inBlock ?_ | refine RS.block ?_ | refine RS.exit ?_)); refine box_ (v := .agg _) (cs := [_, _]) (fun b1 => ?_); refine asB ?_; refine LS.done ?_
  (repeat (first | refine RS.seq ?_ | refine RS.region ?_ | refine RS.regionQ ?_ (by kernel_rfl) (by kernel_rfl) | refine RS.skip ?_ | refine RS.inBlock ?_ | refine RS.block ?_ | refine RS.exit ?_)); refine ldA [_, _] ?_; refine fld ?_; refine ld1 (v := .int _ _) ?_; refine maxI ?_; refine fld ?_; refine ld1 (v := .int _ _) ?_; refine maxI ?_; refine bld (vals := [(0, .int _ _), (1, .int _ _)]) [_, _] ?_; refine eqA (us1 := [.int .i64 _, .int .i64 _]) (us2 := [.int .i64 _, .int .i64 _]) (eq_vec _ _ _ _) (by kernel_rfl) ?_; refine asB ?_; refine LS.done ?_
  (repeat (first | refine RS.seq ?_ | refine RS.region ?_ | refine RS.regionQ ?_ (by kernel_rfl) (by kernel_rfl) | refine RS.skip ?_ | refine RS.inBlock ?_ | refine RS.block ?_ | refine RS.exit ?_)); refine RS.ret1 (v := .bool _) Tryd.func64 fun w hw => ?_
  refine ⟨retB ?_, hw.below⟩
  by_cases h1 : 0 ≤ c <;> by_cases h2 : 0 ≤ m <;> simp [h1, h2] <;> omega
def fitsB (c m rc rm : Int) : Bool := decide (c ≤ rc ∧ m ≤ rm)
theorem lesser_c (c m rc rm : Int) (w : World) : Calls Tryd.prog 33 #[.agg (List.toArray [.int .i64 c, .int .i64 m]), .agg (List.toArray [.int .i64 rc, .int .i64 rm])] w fun e w' => e = .returned (.agg (List.toArray [.int .i64 (if fitsB c m rc rm then c else rc), .int .i64 (if fitsB c m rc rm then m else rm)])) ∧ Below w.heap.size w w' := by
  refine RS.enter Tryd.func33 Tryd.ntmps33 rfl rfl ?_
  (repeat (first | refine RS.seq ?_ | refine RS.region ?_ | refine RS.regionQ ?_ (by kernel_rfl) (by kernel_rfl) | refine RS.skip ?_ | refine RS.inBlock ?_ | refine RS.block ?_ | refine RS.exit ?_)); refine box_ (v := .agg _) (cs := [_, _]) (fun b2 => ?_); refine box_ (v := .agg _) (cs := [_, _]) (fun b3 => ?_); refine alloc_ (fun b4 => ?_); refine LS.done ?_
  (repeat (first | refine RS.seq ?_ | refine RS.region ?_ | refine RS.regionQ ?_ (by kernel_rfl) (by kernel_rfl) | refine RS.skip ?_ | refine RS.inBlock ?_ | refine RS.block ?_ | refine RS.exit ?_)); refine mvI ?_; refine LS.done ?_
  (repeat (first | refine RS.seq ?_ | refine RS.region ?_ | refine RS.regionQ ?_ (by kernel_rfl) (by kernel_rfl) | refine RS.skip ?_ | refine RS.inBlock ?_ | refine RS.block ?_ | refine RS.exit ?_))
  refine RS.loopF (X := Nat) 5 19 (fun i => i ≤ 2 ∧ (1 ≤ i → c ≤ rc) ∧ (2 ≤ i → m ≤ rm)) (fun i => [(6, .int .i64 i)]) (fun _ => hp w) (fun _ => [blk b4 (.cells (List.toArray [.int .i64 0, .int .i64 0]) 82 (0, 0)), blk b3 (.cells (List.toArray [.int .i64 rc, .int .i64 rm]) 82 (0, 0)), blk b2 (.cells (List.toArray [.int .i64 c, .int .i64 m]) 82 (0, 0))]) (fun i => 2 - i) 0 ⟨by omega, by omega, by omega⟩ ⟨rfl, trivial⟩ rfl ⟨fun h => h⟩ ?_
  rintro i g ⟨hi, h1, h2⟩ ih
  (repeat (first | refine RS.seq ?_ | refine RS.region ?_ | refine RS.regionQ ?_ (by kernel_rfl) (by kernel_rfl) | refine RS.skip ?_ | refine RS.inBlock ?_ | refine RS.block ?_ | refine RS.exit ?_)); refine ltI ?_; refine LS.done ?_
  (repeat (first | refine RS.seq ?_ | refine RS.region ?_ | refine RS.regionQ ?_ (by kernel_rfl) (by kernel_rfl) | refine RS.skip ?_ | refine RS.inBlock ?_ | refine RS.block ?_ | refine RS.exit ?_))
  by_cases hlt : i < 2
  · refine RS.condT ?_ (h := by simp; omega)
    (repeat (first | refine RS.seq ?_ | refine RS.region ?_ | refine RS.regionQ ?_ (by kernel_rfl) (by kernel_rfl) | refine RS.skip ?_ | refine RS.inBlock ?_ | refine RS.block ?_ | refine RS.exit ?_)); refine mvI ?_; refine asI ?_; refine LS.done ?_
    have hi01 : i = 0 ∨ i = 1 := by omega
    rcases hi01 with rfl | rfl
    · (repeat (first | refine RS.seq ?_ | refine RS.region ?_ | refine RS.regionQ ?_ (by kernel_rfl) (by kernel_rfl) | refine RS.skip ?_ | refine RS.inBlock ?_ | refine RS.block ?_ | refine RS.exit ?_)); refine mvI ?_; refine idxA (i := 0) ?_; refine ld1 (v := .int _ _) ?_; refine mvI ?_; refine idxA (i := 0) ?_; refine ld1 (v := .int _ _) ?_; refine gtI ?_; refine LS.done ?_
      (repeat (first | refine RS.seq ?_ | refine RS.region ?_ | refine RS.regionQ ?_ (by kernel_rfl) (by kernel_rfl) | refine RS.skip ?_ | refine RS.inBlock ?_ | refine RS.block ?_ | refine RS.exit ?_))
      refine RS.cond (fun z => ?_) (fun z => ?_)
      · simp only [decide_eq_true_eq] at z
        (repeat (first | refine RS.seq ?_ | refine RS.region ?_ | refine RS.regionQ ?_ (by kernel_rfl) (by kernel_rfl) | refine RS.skip ?_ | refine RS.inBlock ?_ | refine RS.block ?_ | refine RS.exit ?_)); refine ldA [_, _] ?_; refine st (.agg _) _ ?_; refine LS.done ?_; (repeat (first | refine RS.seq ?_ | refine RS.region ?_ | refine RS.regionQ ?_ (by kernel_rfl) (by kernel_rfl) | refine RS.skip ?_ | refine RS.inBlock ?_ | refine RS.block ?_ | refine RS.exit ?_)); refine RS.retC (ty := 82) Tryd.func33 [_, _] fun w hw => ?_
        have e : fitsB c m rc rm = false := decide_eq_false (by omega)
        exact ⟨by rw [e]; rfl, hw.below⟩
      · simp only [decide_eq_false_iff_not] at z
        (repeat (first | refine RS.seq ?_ | refine RS.region ?_ | refine RS.regionQ ?_ (by kernel_rfl) (by kernel_rfl) | refine RS.skip ?_ | refine RS.inBlock ?_ | refine RS.block ?_ | refine RS.exit ?_)); (first | refine addN ?_ | refine addI ?_); refine mvI ?_; refine LS.done ?_; (repeat (first | refine RS.seq ?_ | refine RS.region ?_ | refine RS.regionQ ?_ (by kernel_rfl) (by kernel_rfl) | refine RS.skip ?_ | refine RS.inBlock ?_ | refine RS.block ?_ | refine RS.exit ?_))
        exact ih 1 ⟨by omega, by omega, by omega⟩ (by omega) ⟨rfl, trivial⟩ (by repeat (first | with_reducible exact Out.refl _ _ _ | exact Out.hv | refine Out.upd ?_ | refine Out.hvIn ?_)) ⟨fun h => h⟩ rfl
    · (repeat (first | refine RS.seq ?_ | refine RS.region ?_ | refine RS.regionQ ?_ (by kernel_rfl) (by kernel_rfl) | refine RS.skip ?_ | refine RS.inBlock ?_ | refine RS.block ?_ | refine RS.exit ?_)); refine mvI ?_; refine idxA (i := 1) ?_; refine ld1 (v := .int _ _) ?_; refine mvI ?_; refine idxA (i := 1) ?_; refine ld1 (v := .int _ _) ?_; refine gtI ?_; refine LS.done ?_
      (repeat (first | refine RS.seq ?_ | refine RS.region ?_ | refine RS.regionQ ?_ (by kernel_rfl) (by kernel_rfl) | refine RS.skip ?_ | refine RS.inBlock ?_ | refine RS.block ?_ | refine RS.exit ?_))
      refine RS.cond (fun z => ?_) (fun z => ?_)
      · simp only [decide_eq_true_eq] at z
        (repeat (first | refine RS.seq ?_ | refine RS.region ?_ | refine RS.regionQ ?_ (by kernel_rfl) (by kernel_rfl) | refine RS.skip ?_ | refine RS.inBlock ?_ | refine RS.block ?_ | refine RS.exit ?_)); refine ldA [_, _] ?_; refine st (.agg _) _ ?_; refine LS.done ?_; (repeat (first | refine RS.seq ?_ | refine RS.region ?_ | refine RS.regionQ ?_ (by kernel_rfl) (by kernel_rfl) | refine RS.skip ?_ | refine RS.inBlock ?_ | refine RS.block ?_ | refine RS.exit ?_)); refine RS.retC (ty := 82) Tryd.func33 [_, _] fun w hw => ?_
        have e : fitsB c m rc rm = false := decide_eq_false (by omega)
        exact ⟨by rw [e]; rfl, hw.below⟩
      · simp only [decide_eq_false_iff_not] at z
        (repeat (first | refine RS.seq ?_ | refine RS.region ?_ | refine RS.regionQ ?_ (by kernel_rfl) (by kernel_rfl) | refine RS.skip ?_ | refine RS.inBlock ?_ | refine RS.block ?_ | refine RS.exit ?_)); (first | refine addN ?_ | refine addI ?_); refine mvI ?_; refine LS.done ?_; (repeat (first | refine RS.seq ?_ | refine RS.region ?_ | refine RS.regionQ ?_ (by kernel_rfl) (by kernel_rfl) | refine RS.skip ?_ | refine RS.inBlock ?_ | refine RS.block ?_ | refine RS.exit ?_))
        exact ih 2 ⟨by omega, by omega, by omega⟩ (by omega) ⟨rfl, trivial⟩ (by repeat (first | with_reducible exact Out.refl _ _ _ | exact Out.hv | refine Out.upd ?_ | refine Out.hvIn ?_)) ⟨fun h => h⟩ rfl
  · refine RS.condF ?_ (h := by simp; omega)
    (repeat (first | refine RS.seq ?_ | refine RS.region ?_ | refine RS.regionQ ?_ (by kernel_rfl) (by kernel_rfl) | refine RS.skip ?_ | refine RS.inBlock ?_ | refine RS.block ?_ | refine RS.exit ?_)); refine ldA [_, _] ?_; refine st (.agg _) _ ?_; refine LS.done ?_; (repeat (first | refine RS.seq ?_ | refine RS.region ?_ | refine RS.regionQ ?_ (by kernel_rfl) (by kernel_rfl) | refine RS.skip ?_ | refine RS.inBlock ?_ | refine RS.block ?_ | refine RS.exit ?_)); refine RS.retC (ty := 82) Tryd.func33 [_, _] fun w hw => ?_
    have e : fitsB c m rc rm = true := decide_eq_true (by omega)
    exact ⟨by rw [e]; rfl, hw.below⟩
theorem fits_c (c m rc rm : Int) (w : World) : Calls Tryd.prog 17 #[.agg (List.toArray [.int .i64 c, .int .i64 m]), .agg (List.toArray [.int .i64 rc, .int .i64 rm])] w fun e w' => e = .returned (.bool (fitsB c m rc rm)) ∧ Below w.heap.size w w' := by
  refine RS.enter Tryd.func17 Tryd.ntmps17 rfl rfl ?_
  (repeat (first | refine RS.seq ?_ | refine RS.region ?_ | refine RS.regionQ ?_ (by kernel_rfl) (by kernel_rfl) | refine RS.skip ?_ | refine RS.inBlock ?_ | refine RS.block ?_ | refine RS.exit ?_)); refine box_ (v := .agg _) (cs := [_, _]) (fun b2 => ?_); refine box_ (v := .agg _) (cs := [_, _]) (fun b3 => ?_); refine asB ?_; refine LS.done ?_
  (repeat (first | refine RS.seq ?_ | refine RS.region ?_ | refine RS.regionQ ?_ (by kernel_rfl) (by kernel_rfl) | refine RS.skip ?_ | refine RS.inBlock ?_ | refine RS.block ?_ | refine RS.exit ?_)); refine ldA [_, _] ?_
  refine callP ?_ (hc := fun w _ => parts_c _ _ w)
  refine alloc_ (fun b5 => ?_); refine st (.agg _) _ ?_; refine LS.done ?_
  (repeat (first | refine RS.seq ?_ | refine RS.region ?_ | refine RS.regionQ ?_ (by kernel_rfl) (by kernel_rfl) | refine RS.skip ?_ | refine RS.inBlock ?_ | refine RS.block ?_ | refine RS.exit ?_)); refine ldA [_, _] ?_
  refine callP ?_ (hc := fun w _ => parts_c _ _ w)
  refine ldA [_, _] ?_
  refine callP ?_ (hc := fun w _ => lesser_c _ _ _ _ w)
  refine ldA [_, _] ?_; refine neqA (us1 := [.int .i64 _, .int .i64 _]) (us2 := [.int .i64 _, .int .i64 _]) (eq_row _ _ _ _) (by kernel_rfl) ?_; refine mvB ?_
  refine LS.part 14 (fun g1 => ?_) (fun g1 => ?_)
  · refine LS.off ?_; refine LS.off ?_; refine LS.off ?_; refine LS.off ?_; refine pk (v := .bool _) ?_; refine asB ?_; refine LS.done ?_
    (repeat (first | refine RS.seq ?_ | refine RS.region ?_ | refine RS.regionQ ?_ (by kernel_rfl) (by kernel_rfl) | refine RS.skip ?_ | refine RS.inBlock ?_ | refine RS.block ?_ | refine RS.exit ?_)); refine RS.ret1 (v := .bool _) Tryd.func17 fun w hw => ?_
    refine ⟨retB ?_, hw.below⟩
    cases e : fitsB c m rc rm with
    | true => rfl
    | false => rw [e] at g1; simp at g1
  · refine LS.on ?_; refine ldA [_, _] ?_; refine LS.on ?_
    refine callP ?_ (hc := fun w _ => parts_c _ _ w)
    refine LS.on ?_; refine ldA [_, _] ?_; refine LS.on ?_; refine eqA (us1 := [.int .i64 _, .int .i64 _]) (us2 := [.int .i64 _, .int .i64 _]) (eq_row _ _ _ _) (by kernel_rfl) ?_; refine pk (v := .bool _) ?_; refine asB ?_; refine LS.done ?_
    (repeat (first | refine RS.seq ?_ | refine RS.region ?_ | refine RS.regionQ ?_ (by kernel_rfl) (by kernel_rfl) | refine RS.skip ?_ | refine RS.inBlock ?_ | refine RS.block ?_ | refine RS.exit ?_)); refine RS.ret1 (v := .bool _) Tryd.func17 fun w hw => ?_
    refine ⟨retB ?_, hw.below⟩
    cases e : fitsB c m rc rm with
    | true =>
      rw [e] at g1
      simpa using g1
    | false =>
      have := of_decide_eq_false e
      simp
      omega
/-- Both added up; what is wrong with it. -/
def addR (c m c' m' : Int) : (Int × Int) × Int :=
  if ¬ (0 ≤ c ∧ 0 ≤ m ∧ 0 ≤ c' ∧ 0 ≤ m') then ((0, 0), 2) else if 9223372036854775807 - c' < c ∨ 9223372036854775807 - m' < m then ((0, 0), 6) else ((c + c', m + m'), 0)
theorem add1_c (a b : Int) (ha : 0 ≤ a ∧ a ≤ 9223372036854775807) (hb : 0 ≤ b ∧ b ≤ 9223372036854775807) (w : World) : Calls Tryd.prog 66 #[.int .i64 a, .int .i64 b] w fun e w' => e = .returned (.tuple #[.int .i64 (if 9223372036854775807 - b < a then 0 else a + b), .bool (!decide (9223372036854775807 - b < a))]) ∧ Below w.heap.size w w' := by
  refine RS.enter Tryd.func66 Tryd.ntmps66 rfl rfl ?_
  (repeat (first | refine RS.seq ?_ | refine RS.region ?_ | refine RS.regionQ ?_ (by kernel_rfl) (by kernel_rfl) | refine RS.skip ?_ | refine RS.inBlock ?_ | refine RS.block ?_ | refine RS.exit ?_)); refine asI ?_; refine asB ?_; refine LS.done ?_
  (repeat (first | refine RS.seq ?_ | refine RS.region ?_ | refine RS.regionQ ?_ (by kernel_rfl) (by kernel_rfl) | refine RS.skip ?_ | refine RS.inBlock ?_ | refine RS.block ?_ | refine RS.exit ?_)); refine mvI ?_; refine mvI ?_; (first | refine subN ?_ | refine subI ?_); refine gtI ?_; refine LS.done ?_
  (repeat (first | refine RS.seq ?_ | refine RS.region ?_ | refine RS.regionQ ?_ (by kernel_rfl) (by kernel_rfl) | refine RS.skip ?_ | refine RS.inBlock ?_ | refine RS.block ?_ | refine RS.exit ?_))
  refine RS.cond (fun z => ?_) (fun z => ?_)
  · simp only [decide_eq_true_eq] at z
    (repeat (first | refine RS.seq ?_ | refine RS.region ?_ | refine RS.regionQ ?_ (by kernel_rfl) (by kernel_rfl) | refine RS.skip ?_ | refine RS.inBlock ?_ | refine RS.block ?_ | refine RS.exit ?_)); refine asI ?_; refine asB ?_; refine LS.done ?_; (repeat (first | refine RS.seq ?_ | refine RS.region ?_ | refine RS.regionQ ?_ (by kernel_rfl) (by kernel_rfl) | refine RS.skip ?_ | refine RS.inBlock ?_ | refine RS.block ?_ | refine RS.exit ?_)); refine RS.ret2 (v := .int _ _) (v' := .bool _) Tryd.func66 fun w hw => ?_
    have z' : 9223372036854775807 - b < a := by omega
    exact ⟨by rw [if_pos z', decide_eq_true z']; rfl, hw.below⟩
  · simp only [decide_eq_false_iff_not] at z
    have z' : ¬ 9223372036854775807 - b < a := by omega
    (repeat (first | refine RS.seq ?_ | refine RS.region ?_ | refine RS.regionQ ?_ (by kernel_rfl) (by kernel_rfl) | refine RS.skip ?_ | refine RS.inBlock ?_ | refine RS.block ?_ | refine RS.exit ?_)); refine mvI ?_; refine mvI ?_; (first | refine addN ?_ | refine addI ?_); refine asI ?_; refine asB ?_; refine LS.done ?_; (repeat (first | refine RS.seq ?_ | refine RS.region ?_ | refine RS.regionQ ?_ (by kernel_rfl) (by kernel_rfl) | refine RS.skip ?_ | refine RS.inBlock ?_ | refine RS.block ?_ | refine RS.exit ?_)); refine RS.ret2 (v := .int _ _) (v' := .bool _) Tryd.func66 fun w hw => ?_
    exact ⟨by rw [if_neg z', decide_eq_false z']; rfl, hw.below⟩
theorem each_c (c m c' m' : Int) (hc : I64 c) (hm : I64 m) (hc' : I64 c') (hm' : I64 m') (w : World) : Calls Tryd.prog 65 #[.agg (List.toArray [.int .i64 c, .int .i64 m]), .agg (List.toArray [.int .i64 c', .int .i64 m']), .func (.func 66) #[] #[]] w fun e w' =>
    e = .returned (.tuple #[.agg (List.toArray [.int .i64 (addR c m c' m').1.1, .int .i64 (addR c m c' m').1.2]), .int .i64 (addR c m c' m').2]) ∧ Below w.heap.size w w' := by
  refine RS.enter Tryd.func65 Tryd.ntmps65 rfl rfl ?_
  (repeat (first | refine RS.seq ?_ | refine RS.region ?_ | refine RS.regionQ ?_ (by kernel_rfl) (by kernel_rfl) | refine RS.skip ?_ | refine RS.inBlock ?_ | refine RS.block ?_ | refine RS.exit ?_)); refine box_ (v := .agg _) (cs := [_, _]) (fun b3 => ?_); refine box_ (v := .agg _) (cs := [_, _]) (fun b4 => ?_); refine alloc_ (fun b6 => ?_); refine asI ?_; refine LS.done ?_
  (repeat (first | refine RS.seq ?_ | refine RS.region ?_ | refine RS.regionQ ?_ (by kernel_rfl) (by kernel_rfl) | refine RS.skip ?_ | refine RS.inBlock ?_ | refine RS.block ?_ | refine RS.exit ?_))
  refine LS.cut 14 22 [(21, .bool (decide (¬ (0 ≤ c ∧ 0 ≤ m ∧ 0 ≤ c' ∧ 0 ≤ m'))))] (fun gg => ?_) (fun J => ?_)
  rotate_left
  · refine ldA [_, _] ?_
    refine callP ?_ (hc := fun w _ => right_c _ _ w)
    refine not_ ?_; refine mvB ?_
    refine LS.part 17 (fun g1 => ?_) (fun g1 => ?_)
    · refine LS.off ?_; refine LS.off ?_; refine LS.off ?_; refine pk (v := .bool _) ?_; refine LS.done ?_
      simp only [Bool.not_eq_true', decide_eq_false_iff_not] at g1
      exact J ⟨boolV (by symm; exact decide_eq_true (fun h => g1 ⟨h.1, h.2.1⟩)), trivial⟩ (by repeat (first | with_reducible exact Out.refl _ _ _ | exact Out.hv | refine Out.upd ?_ | refine Out.hvIn ?_))
    · refine LS.on ?_; refine ldA [_, _] ?_; refine LS.on ?_
      refine callP ?_ (hc := fun w _ => right_c _ _ w)
      refine LS.on ?_; refine not_ ?_; refine pk (v := .bool _) ?_; refine LS.done ?_
      simp only [Bool.not_eq_false', decide_eq_true_eq] at g1
      exact J ⟨boolV (by rw [← decide_not]; exact decide_eq_decide.2 (by omega)), trivial⟩ (by repeat (first | with_reducible exact Out.refl _ _ _ | exact Out.hv | refine Out.upd ?_ | refine Out.hvIn ?_))
  (repeat (first | refine RS.seq ?_ | refine RS.region ?_ | refine RS.regionQ ?_ (by kernel_rfl) (by kernel_rfl) | refine RS.skip ?_ | refine RS.inBlock ?_ | refine RS.block ?_ | refine RS.exit ?_))
  refine RS.cond (fun z => ?_) (fun z => ?_)
  · simp only [decide_eq_true_eq] at z
    (repeat (first | refine RS.seq ?_ | refine RS.region ?_ | refine RS.regionQ ?_ (by kernel_rfl) (by kernel_rfl) | refine RS.skip ?_ | refine RS.inBlock ?_ | refine RS.block ?_ | refine RS.exit ?_)); refine bld (vals := []) [_, _] ?_; refine st (.agg _) _ ?_; refine asI ?_; refine LS.done ?_; (repeat (first | refine RS.seq ?_ | refine RS.region ?_ | refine RS.regionQ ?_ (by kernel_rfl) (by kernel_rfl) | refine RS.skip ?_ | refine RS.inBlock ?_ | refine RS.block ?_ | refine RS.exit ?_))
    refine RS.retCT (ty := 30) (v := .int .i64 2) Tryd.func65 [.int .i64 0, .int .i64 0] fun w hw => ?_
    exact ⟨by unfold addR; rw [if_pos z], hw.below⟩
  · simp only [decide_eq_false_iff_not, Classical.not_not] at z
    obtain ⟨z1, z2, z3, z4⟩ := z
    (repeat (first | refine RS.seq ?_ | refine RS.region ?_ | refine RS.regionQ ?_ (by kernel_rfl) (by kernel_rfl) | refine RS.skip ?_ | refine RS.inBlock ?_ | refine RS.block ?_ | refine RS.exit ?_)); refine alloc_ (fun b8 => ?_); refine LS.done ?_
    (repeat (first | refine RS.seq ?_ | refine RS.region ?_ | refine RS.skip ?_ | refine RS.inBlock ?_ | refine RS.block ?_ | refine RS.exit ?_)); refine RS.drawK [.ex, .ex, .ex, .ex, .own, .own, .st, .st] ?_ (by kernel_rfl) (by kernel_rfl); refine D.ldA [_, _] ?_
    refine D.callP ?_ (hc := fun _ _ w _ _ _ => parts_c _ _ w)
    refine D.ldA [_, _] ?_
    refine D.callP ?_ (hc := fun _ _ w _ _ _ => parts_c _ _ w)
    refine D.alloc_ ?_; refine D.alloc_ ?_
    refine D.stO2 [.int .i64 c, .int .i64 m] ?_
    refine D.stK [.int .i64 c', .int .i64 m'] ?_
    refine D.done (fun us σ1 hle1 hfs => ?_)
    refine RS.openOwn (fun b10 h10 => ?_); refine RS.as 10 (.pointer (some ⟨b10, 0, none⟩)) h10 ?_
    refine RS.to (K' := [ownHP (us 9) (.cells (List.toArray [.int .i64 c, .int .i64 m]) 82 (0, 0)), blk b10 (.cells (List.toArray [.int .i64 c', .int .i64 m']) 82 (0, 0)), blk b8 (.cells (List.toArray [.int .i64 0, .int .i64 0]) 82 (0, 0)), blk b6 (.cells (List.toArray [.int .i64 0, .int .i64 0]) 30 (0, 0)), blk b4 (.cells (List.toArray [.int .i64 c', .int .i64 m']) 30 (0, 0)), blk b3 (.cells (List.toArray [.int .i64 c, .int .i64 m]) 30 (0, 0))]) ?_ ⟨fun h => h.swap⟩
    refine RS.openOwn (fun b9 h9 => ?_); refine RS.as 9 (.pointer (some ⟨b9, 0, none⟩)) h9 ?_
    (repeat (first | refine RS.seq ?_ | refine RS.region ?_ | refine RS.regionQ ?_ (by kernel_rfl) (by kernel_rfl) | refine RS.skip ?_ | refine RS.inBlock ?_ | refine RS.block ?_ | refine RS.exit ?_)); refine mvI ?_; refine LS.done ?_
    (repeat (first | refine RS.seq ?_ | refine RS.region ?_ | refine RS.regionQ ?_ (by kernel_rfl) (by kernel_rfl) | refine RS.skip ?_ | refine RS.inBlock ?_ | refine RS.block ?_ | refine RS.exit ?_))
    refine RS.loopF (X := Nat) 11 48 (fun i => i ≤ 2 ∧ (1 ≤ i → ¬ 9223372036854775807 - c' < c) ∧ (2 ≤ i → ¬ 9223372036854775807 - m' < m)) (fun i => [(27, .int .i64 i)]) (fun _ => σ1) (fun i => [blk b9 (.cells (List.toArray [.int .i64 c, .int .i64 m]) 82 (0, 0)), blk b10 (.cells (List.toArray [.int .i64 c', .int .i64 m']) 82 (0, 0)), blk b8 (.cells (List.toArray [.int .i64 (if 1 ≤ i then c + c' else 0), .int .i64 (if 2 ≤ i then m + m' else 0)]) 82 (0, 0)), blk b6 (.cells (List.toArray [.int .i64 0, .int .i64 0]) 30 (0, 0)), blk b4 (.cells (List.toArray [.int .i64 c', .int .i64 m']) 30 (0, 0)), blk b3 (.cells (List.toArray [.int .i64 c, .int .i64 m]) 30 (0, 0))]) (fun i => 2 - i) 0 ⟨by omega, by omega, by omega⟩ ⟨rfl, trivial⟩ rfl ⟨fun h => h⟩ ?_
    rintro i g ⟨hi, h1, h2⟩ ih
    (repeat (first | refine RS.seq ?_ | refine RS.region ?_ | refine RS.regionQ ?_ (by kernel_rfl) (by kernel_rfl) | refine RS.skip ?_ | refine RS.inBlock ?_ | refine RS.block ?_ | refine RS.exit ?_)); refine ltI ?_; refine LS.done ?_
    (repeat (first | refine RS.seq ?_ | refine RS.region ?_ | refine RS.regionQ ?_ (by kernel_rfl) (by kernel_rfl) | refine RS.skip ?_ | refine RS.inBlock ?_ | refine RS.block ?_ | refine RS.exit ?_))
    by_cases hlt : i < 2
    · refine RS.condT ?_ (h := by simp; omega)
      (repeat (first | refine RS.seq ?_ | refine RS.region ?_ | refine RS.regionQ ?_ (by kernel_rfl) (by kernel_rfl) | refine RS.skip ?_ | refine RS.inBlock ?_ | refine RS.block ?_ | refine RS.exit ?_)); refine mvI ?_; refine asI ?_; refine LS.done ?_
      have hi01 : i = 0 ∨ i = 1 := by omega
      rcases hi01 with rfl | rfl
      · (repeat (first | refine RS.seq ?_ | refine RS.region ?_ | refine RS.regionQ ?_ (by kernel_rfl) (by kernel_rfl) | refine RS.skip ?_ | refine RS.inBlock ?_ | refine RS.block ?_ | refine RS.exit ?_)); refine mvF ?_; refine mvI ?_; refine idxA (i := 0) ?_; refine ld1 (v := .int _ _) ?_; refine mvI ?_; refine idxA (i := 0) ?_; refine ld1 (v := .int _ _) ?_
        refine callVP (v := .tuple #[.int .i64 (if 9223372036854775807 - c' < c then 0 else c + c'), .bool (!decide (9223372036854775807 - c' < c))]) (g := 66) (args := [.int .i64 c, .int .i64 c']) (caps := []) ?_ (hc := fun w hw => add1_c c c' (by omega) (by omega) w)
        refine mvT ?_; refine extr (v := .int _ _) ?_; refine extr (v := .bool _) ?_; refine asI ?_; refine asB ?_; refine LS.done ?_
        (repeat (first | refine RS.seq ?_ | refine RS.region ?_ | refine RS.regionQ ?_ (by kernel_rfl) (by kernel_rfl) | refine RS.skip ?_ | refine RS.inBlock ?_ | refine RS.block ?_ | refine RS.exit ?_)); refine mvB ?_; refine not_ ?_; refine LS.done ?_
        (repeat (first | refine RS.seq ?_ | refine RS.region ?_ | refine RS.regionQ ?_ (by kernel_rfl) (by kernel_rfl) | refine RS.skip ?_ | refine RS.inBlock ?_ | refine RS.block ?_ | refine RS.exit ?_))
        refine RS.cond (fun z2 => ?_) (fun z2 => ?_)
        · simp only [Bool.not_not, decide_eq_true_eq] at z2
          have e : addR c m c' m' = ((0, 0), 6) := by unfold addR; rw [if_neg (by omega), if_pos (by omega)]
          (repeat (first | refine RS.seq ?_ | refine RS.region ?_ | refine RS.regionQ ?_ (by kernel_rfl) (by kernel_rfl) | refine RS.skip ?_ | refine RS.inBlock ?_ | refine RS.block ?_ | refine RS.exit ?_)); refine bld (vals := []) [_, _] ?_; refine st (.agg _) _ ?_; refine asI ?_; refine LS.done ?_; (repeat (first | refine RS.seq ?_ | refine RS.region ?_ | refine RS.regionQ ?_ (by kernel_rfl) (by kernel_rfl) | refine RS.skip ?_ | refine RS.inBlock ?_ | refine RS.block ?_ | refine RS.exit ?_))
          refine RS.retCT (ty := 30) (v := .int .i64 6) Tryd.func65 [.int .i64 0, .int .i64 0] fun w hw => ?_
          exact ⟨by rw [e], hw.below⟩
        · simp only [Bool.not_not, decide_eq_false_iff_not] at z2
          (repeat (first | refine RS.seq ?_ | refine RS.region ?_ | refine RS.regionQ ?_ (by kernel_rfl) (by kernel_rfl) | refine RS.skip ?_ | refine RS.inBlock ?_ | refine RS.block ?_ | refine RS.exit ?_)); refine mvI ?_; refine mvI ?_; refine idxA (i := 0) ?_; refine st (.int _ _) _ ?_; refine LS.done ?_
          (repeat (first | refine RS.seq ?_ | refine RS.region ?_ | refine RS.regionQ ?_ (by kernel_rfl) (by kernel_rfl) | refine RS.skip ?_ | refine RS.inBlock ?_ | refine RS.block ?_ | refine RS.exit ?_)); (first | refine addN ?_ | refine addI ?_); refine mvI ?_; refine LS.done ?_; (repeat (first | refine RS.seq ?_ | refine RS.region ?_ | refine RS.regionQ ?_ (by kernel_rfl) (by kernel_rfl) | refine RS.skip ?_ | refine RS.inBlock ?_ | refine RS.block ?_ | refine RS.exit ?_))
          exact ih 1 ⟨by omega, by omega, by omega⟩ (by omega) ⟨rfl, trivial⟩ (by repeat (first | with_reducible exact Out.refl _ _ _ | exact Out.hv | refine Out.upd ?_ | refine Out.hvIn ?_)) ⟨fun h => by simp [z2] at h ⊢; exact h⟩ rfl
      · (repeat (first | refine RS.seq ?_ | refine RS.region ?_ | refine RS.regionQ ?_ (by kernel_rfl) (by kernel_rfl) | refine RS.skip ?_ | refine RS.inBlock ?_ | refine RS.block ?_ | refine RS.exit ?_)); refine mvF ?_; refine mvI ?_; refine idxA (i := 1) ?_; refine ld1 (v := .int _ _) ?_; refine mvI ?_; refine idxA (i := 1) ?_; refine ld1 (v := .int _ _) ?_
        refine callVP (v := .tuple #[.int .i64 (if 9223372036854775807 - m' < m then 0 else m + m'), .bool (!decide (9223372036854775807 - m' < m))]) (g := 66) (args := [.int .i64 m, .int .i64 m']) (caps := []) ?_ (hc := fun w hw => add1_c m m' (by omega) (by omega) w)
        refine mvT ?_; refine extr (v := .int _ _) ?_; refine extr (v := .bool _) ?_; refine asI ?_; refine asB ?_; refine LS.done ?_
        (repeat (first | refine RS.seq ?_ | refine RS.region ?_ | refine RS.regionQ ?_ (by kernel_rfl) (by kernel_rfl) | refine RS.skip ?_ | refine RS.inBlock ?_ | refine RS.block ?_ | refine RS.exit ?_)); refine mvB ?_; refine not_ ?_; refine LS.done ?_
        (repeat (first | refine RS.seq ?_ | refine RS.region ?_ | refine RS.regionQ ?_ (by kernel_rfl) (by kernel_rfl) | refine RS.skip ?_ | refine RS.inBlock ?_ | refine RS.block ?_ | refine RS.exit ?_))
        refine RS.cond (fun z2 => ?_) (fun z2 => ?_)
        · simp only [Bool.not_not, decide_eq_true_eq] at z2
          have e : addR c m c' m' = ((0, 0), 6) := by unfold addR; rw [if_neg (by omega), if_pos (by omega)]
          (repeat (first | refine RS.seq ?_ | refine RS.region ?_ | refine RS.regionQ ?_ (by kernel_rfl) (by kernel_rfl) | refine RS.skip ?_ | refine RS.inBlock ?_ | refine RS.block ?_ | refine RS.exit ?_)); refine bld (vals := []) [_, _] ?_; refine st (.agg _) _ ?_; refine asI ?_; refine LS.done ?_; (repeat (first | refine RS.seq ?_ | refine RS.region ?_ | refine RS.regionQ ?_ (by kernel_rfl) (by kernel_rfl) | refine RS.skip ?_ | refine RS.inBlock ?_ | refine RS.block ?_ | refine RS.exit ?_))
          refine RS.retCT (ty := 30) (v := .int .i64 6) Tryd.func65 [.int .i64 0, .int .i64 0] fun w hw => ?_
          exact ⟨by rw [e], hw.below⟩
        · simp only [Bool.not_not, decide_eq_false_iff_not] at z2
          (repeat (first | refine RS.seq ?_ | refine RS.region ?_ | refine RS.regionQ ?_ (by kernel_rfl) (by kernel_rfl) | refine RS.skip ?_ | refine RS.inBlock ?_ | refine RS.block ?_ | refine RS.exit ?_)); refine mvI ?_; refine mvI ?_; refine idxA (i := 1) ?_; refine st (.int _ _) _ ?_; refine LS.done ?_
          (repeat (first | refine RS.seq ?_ | refine RS.region ?_ | refine RS.regionQ ?_ (by kernel_rfl) (by kernel_rfl) | refine RS.skip ?_ | refine RS.inBlock ?_ | refine RS.block ?_ | refine RS.exit ?_)); (first | refine addN ?_ | refine addI ?_); refine mvI ?_; refine LS.done ?_; (repeat (first | refine RS.seq ?_ | refine RS.region ?_ | refine RS.regionQ ?_ (by kernel_rfl) (by kernel_rfl) | refine RS.skip ?_ | refine RS.inBlock ?_ | refine RS.block ?_ | refine RS.exit ?_))
          exact ih 2 ⟨by omega, by omega, by omega⟩ (by omega) ⟨rfl, trivial⟩ (by repeat (first | with_reducible exact Out.refl _ _ _ | exact Out.hv | refine Out.upd ?_ | refine Out.hvIn ?_)) ⟨fun h => by simp [z2] at h ⊢; exact h⟩ rfl
    · refine RS.condF ?_ (h := by simp; omega)
      obtain rfl : i = 2 := by omega
      have e : addR c m c' m' = ((c + c', m + m'), 0) := by unfold addR; rw [if_neg (by omega), if_neg (by omega)]
      (repeat (first | refine RS.seq ?_ | refine RS.region ?_ | refine RS.regionQ ?_ (by kernel_rfl) (by kernel_rfl) | refine RS.skip ?_ | refine RS.inBlock ?_ | refine RS.block ?_ | refine RS.exit ?_)); refine ldA [_, _] ?_
      refine callP ?_ (hc := fun w _ => whole_c _ _ w)
      refine st (.agg _) _ ?_; refine asI ?_; refine LS.done ?_
      (repeat (first | refine RS.seq ?_ | refine RS.region ?_ | refine RS.regionQ ?_ (by kernel_rfl) (by kernel_rfl) | refine RS.skip ?_ | refine RS.inBlock ?_ | refine RS.block ?_ | refine RS.exit ?_))
      refine RS.retCT (ty := 30) (v := .int .i64 0) Tryd.func65 [.int .i64 (c + c'), .int .i64 (m + m')] fun w hw => ?_
      exact ⟨by rw [e], hw.below⟩
theorem add_c (c m c' m' : Int) (hc : I64 c) (hm : I64 m) (hc' : I64 c') (hm' : I64 m') (w : World) : Calls Tryd.prog 41 #[.agg (List.toArray [.int .i64 c, .int .i64 m]), .agg (List.toArray [.int .i64 c', .int .i64 m'])] w fun e w' =>
    e = .returned (.tuple #[.agg (List.toArray [.int .i64 (addR c m c' m').1.1, .int .i64 (addR c m c' m').1.2]), .int .i64 (addR c m c' m').2]) ∧ Below w.heap.size w w' := by
  refine RS.enter Tryd.func41 Tryd.ntmps41 rfl rfl ?_
  (repeat (first | refine RS.seq ?_ | refine RS.region ?_ | refine RS.regionQ ?_ (by kernel_rfl) (by kernel_rfl) | refine RS.skip ?_ | refine RS.inBlock ?_ | refine RS.block ?_ | refine RS.exit ?_)); refine box_ (v := .agg _) (cs := [_, _]) (fun b2 => ?_); refine box_ (v := .agg _) (cs := [_, _]) (fun b3 => ?_); refine alloc_ (fun b4 => ?_); refine asI ?_; refine LS.done ?_
  (repeat (first | refine RS.seq ?_ | refine RS.region ?_ | refine RS.regionQ ?_ (by kernel_rfl) (by kernel_rfl) | refine RS.skip ?_ | refine RS.inBlock ?_ | refine RS.block ?_ | refine RS.exit ?_)); refine ldA [_, _] ?_; refine ldA [_, _] ?_
  refine callP ?_ (hc := fun w _ => each_c c m c' m' hc hm hc' hm' w)
  refine extr (v := _) ?_; refine extr (v := .int _ _) ?_; refine st (.agg _) _ ?_; refine asI ?_; refine LS.done ?_
  (repeat (first | refine RS.seq ?_ | refine RS.region ?_ | refine RS.regionQ ?_ (by kernel_rfl) (by kernel_rfl) | refine RS.skip ?_ | refine RS.inBlock ?_ | refine RS.block ?_ | refine RS.exit ?_))
  refine RS.retCT (ty := 30) (v := .int .i64 (addR c m c' m').2) Tryd.func41 [.int .i64 (addR c m c' m').1.1, .int .i64 (addR c m c' m').1.2] fun w hw => ?_
  exact ⟨rfl, hw.below⟩
end Go.Proofs.YthnoaapghcadgaaDoor
