/- Contracts: the ledger's lesser operations. -/
import Derived.Test.YthnoaapghcadgaaDoorLedOwn
import Derived.Test.YthnoaapghcadgaaDoorVec
import Derived.Test.YthnoaapghcadgaaDoorPod
import Derived.Test.YthnoaapghcadgaaDoorTypesB
namespace Go.JW
section
variable {P : Program} {q : Bool} {ops : Array Oper} {f : FuncId} {R : Ending → World → Prop} {k : List Item} {n : Nat} {fr : Nat → Value} {w0 : World} {M : Nat → Prop} {σ : PH} {K : List HP}
variable {rest : List Oper} {d : Nat} {ty : TypeId} {pos : String} {aft : Array Edge}
/-- A call that leaves what is told as it was. -/
theorem callS {g : FuncId} {xs : Array Operand} {ts : Array TypeId} {args : List Value} {v : Value} [i : Fun P g]
    (h : LS P q ops f R k rest n (upd fr d v) w0 M σ K) (hc : ∀ w, Sat w0 M σ K w → Calls P g args.toArray w fun e w' => e = .returned v ∧ Sat w0 M σ K w') (hx : xs.toList.map (ev n fr) = args := by rfl) :
    LS P q ops f R k (⟨some d, .call ⟨.value (.func g), xs, ts⟩, ty, pos, aft, none⟩ :: rest) n fr w0 M σ K :=
  LS.enterP rfl rfl (fun w _ => exec_call i.eq hx w) hc h
end
end Go.JW
namespace Go.Proofs.YthnoaapghcadgaaDoor
open Go.JW Go.RowKit

/-- A ledger's three blocks. -/
abbrev LK (bl b1 b2 : Nat) (es1 : Array MapEntry) (c1 : Nat) (es2 : Array MapEntry) (c2 : Nat) : List HP :=
  [blk bl (.cells (List.toArray [.map (some b1), .map (some b2)]) 55 (0, 0)), blk b1 (.map es1 c1), blk b2 (.map es2 c2)]
def tk (t : List (Int × List PlaceD)) (g : Int) : List PlaceD := (asg t g).getD []
theorem look_t {σ : PH} {es : Array MapEntry} {c : Nat} {t : List (Int × List PlaceD)} (h : MapOk σ es c t) (g : Int) : ∃ a cap, (lookV es (KeyT.kind Int) (KeyT.enc g) (.slice none 0 0)).1 = .slice a (tk t g).length cap ∧ RepL σ (.slice a (tk t g).length cap) (tk t g) := by
  unfold tk
  cases ha : asg t g with
  | none => rw [lookV_none h ha]; exact ⟨none, 0, rfl, RepL.nil _ _ _⟩
  | some ps =>
    obtain ⟨cs, h1, v, rfl, h2⟩ := lookV_some (zv := .slice none 0 0) h ha
    obtain ⟨a, cap, rfl⟩ := h2.form
    rw [h1]; exact ⟨a, cap, rfl, h2⟩
theorem look_n {σ : PH} {es : Array MapEntry} {c : Nat} {l : List (ByteArray × NodeD)} (h : MapOk σ es c l) (nm : ByteArray) :
    ∃ (s : ByteArray) (m t : Int) (v1 v2 : Value) (z : Bool), lookV es (KeyT.kind ByteArray) (KeyT.enc nm) (.agg (List.toArray [.string ⟨#[]⟩, .int .i64 0, .int .i64 0, .slice none 0 0, .slice none 0 0, .bool false])) = (.agg (List.toArray [.string s, .int .i64 m, .int .i64 t, v1, v2, .bool z]), (asg l nm).isSome) ∧
      (∃ (a : Option Addr) (c : Nat × Nat), v1 = .slice a c.1 c.2) ∧ (∃ (a : Option Addr) (c : Nat × Nat), v2 = .slice a c.1 c.2) ∧ ∀ n, asg l nm = some n → Rep.rep σ [.string s, .int .i64 m, .int .i64 t, v1, v2, .bool z] n := by
  cases ha : asg l nm with
  | none => rw [lookV_none h ha]; exact ⟨_, _, _, _, _, _, rfl, ⟨none, (0, 0), rfl⟩, ⟨none, (0, 0), rfl⟩, fun n hn => by cases hn⟩
  | some n =>
    obtain ⟨cs, h1, h2⟩ := lookV_some (zv := .agg (List.toArray [.string ⟨#[]⟩, .int .i64 0, .int .i64 0, .slice none 0 0, .slice none 0 0, .bool false])) h ha
    have h20 := h2
    obtain ⟨v1, v2, rfl, _, _, _, h3, h4⟩ := h2
    obtain ⟨a1, c1, rfl⟩ := h3.form
    obtain ⟨a2, c2, rfl⟩ := h4.form
    rw [h1]
    exact ⟨_, _, _, _, _, _, rfl, ⟨a1, (_, c1), rfl⟩, ⟨a2, (_, c2), rfl⟩, fun n' hn => by injection hn with hn; subst hn; exact h20⟩
section
variable {w0 : World} {M : Nat → Prop} {σ : PH} {K : List HP} {bl b1 b2 c1 c2 : Nat} {es1 es2 : Array MapEntry} {S : LedD}
def giveE (t : List (Int × List PlaceD)) (g : Int) : Int := if (tk t g).length = 0 then 5 else 0
def giveT (t : List (Int × List PlaceD)) (g : Int) : List (Int × List PlaceD) := if (tk t g).length = 0 then t else adel t g
theorem places_c (g : Int) (h2 : MapOk σ es2 c2 S.taken) (hl : (tk S.taken g).length ≤ 1000) (w : World) (hw : Sat w0 M σ (LK bl b1 b2 es1 c1 es2 c2 ++ K) w) :
    Calls Tryd.prog 20 #[.pointer (some ⟨bl, 0, none⟩), .int .i64 g] w fun e w' => ∃ v σ', PH.le σ σ' ∧ RepL σ' v (tk S.taken g) ∧ e = .returned v ∧ Sat w0 M σ' (LK bl b1 b2 es1 c1 es2 c2 ++ K) w' := by
  obtain ⟨a, cap, hv, hrep⟩ := look_t h2 g
  refine RS.enterK Tryd.func20 Tryd.ntmps20 rfl rfl hw ?_
  refine RS.to (K' := blk bl (.cells (List.toArray [.map (some b1), .map (some b2)]) 55 (0, 0)) :: blk b1 (.map es1 c1) :: blk b2 (.map es2 c2) :: K) ?_ ⟨fun h => h⟩
  (repeat (first | refine RS.seq ?_ | refine RS.region ?_ | refine RS.regionQ ?_ (by kernel_rfl) (by kernel_rfl) | refine RS.skip ?_ | refine RS.inBlock ?_ | refine RS.block ?_ | refine RS.exit ?_)); refine asL ?_; refine LS.done ?_
  (repeat (first | refine RS.seq ?_ | refine RS.region ?_ | refine RS.regionQ ?_ (by kernel_rfl) (by kernel_rfl) | refine RS.skip ?_ | refine RS.inBlock ?_ | refine RS.block ?_ | refine RS.exit ?_)); refine mvP ?_; refine nilck ?_; refine fld ?_; refine ld1 (v := .map _) ?_; refine mvI ?_; refine lk (bm := b2) g h2 ?_; rw [hv]
  refine callT (fun v τ => RepL τ v (tk S.taken g)) (fun v11 τ1 σ1 hq1 hN1 hle1 hτ1 => ?_) (fun w' hw => cloneP_c _ _ w' (hrep.mono hw.imm) hl)
  obtain ⟨a11, c11, rfl⟩ := hq1.form
  refine asL ?_; refine LS.done ?_
  (repeat (first | refine RS.seq ?_ | refine RS.region ?_ | refine RS.regionQ ?_ (by kernel_rfl) (by kernel_rfl) | refine RS.skip ?_ | refine RS.inBlock ?_ | refine RS.block ?_ | refine RS.exit ?_)); refine RS.ret1 (v := .slice _ _ _) Tryd.func20 fun w hw => ?_
  exact ⟨_, σ1, hle1, hq1.mono hτ1, rfl, hw⟩
theorem usedT_c (nm : ByteArray) (h2 : MapOk σ es2 c2 S.taken) (hok : TakenOk S.taken) (w : World) (hw : Sat w0 M σ (LK bl b1 b2 es1 c1 es2 c2 ++ K) w) :
    Calls Tryd.prog 15 #[.pointer (some ⟨bl, 0, none⟩), .string nm] w fun e w' => ∃ σ', PH.le σ σ' ∧ e = .returned (.tuple #[.agg (List.toArray [.int .i64 (usedC S.taken nm), .int .i64 (usedM S.taken nm)]), .int .i64 (usedN S.taken nm)]) ∧ Sat w0 M σ' (LK bl b1 b2 es1 c1 es2 c2 ++ K) w' := by
  refine RS.enterK Tryd.func15 Tryd.ntmps15 rfl rfl hw ?_
  refine RS.to (K' := blk bl (.cells (List.toArray [.map (some b1), .map (some b2)]) 55 (0, 0)) :: blk b1 (.map es1 c1) :: blk b2 (.map es2 c2) :: K) ?_ ⟨fun h => h⟩
  (repeat (first | refine RS.seq ?_ | refine RS.region ?_ | refine RS.regionQ ?_ (by kernel_rfl) (by kernel_rfl) | refine RS.skip ?_ | refine RS.inBlock ?_ | refine RS.block ?_ | refine RS.exit ?_)); refine alloc_ (fun b4 => ?_); refine asI ?_; refine LS.done ?_
  (repeat (first | refine RS.seq ?_ | refine RS.region ?_ | refine RS.regionQ ?_ (by kernel_rfl) (by kernel_rfl) | refine RS.skip ?_ | refine RS.inBlock ?_ | refine RS.block ?_ | refine RS.exit ?_)); refine mvP ?_; refine mvS ?_
  refine callS ?_ (hc := fun w' hw => (used_c (K := _ :: K) nm h2 hok w' (hw.front [_] (LK bl b1 b2 es1 c1 es2 c2))).mono fun _ _ h => ⟨h.1, h.2.front (LK bl b1 b2 es1 c1 es2 c2) [_]⟩)
  refine alloc_ (fun b6 => ?_); refine st (.agg _) _ ?_; refine LS.done ?_
  refine RS.freeze (b := b6) inferInstance (fun σ2 hle2 hb6 => ?_)
  have hb6' : σ2 b6 = some (.cells (List.toArray [.int .i64 (usedC S.taken nm), .int .i64 (usedM S.taken nm), .int .i64 (usedN S.taken nm)]) 59 (0, 0)) := hb6
  have hvec : ∀ j, j < 2 → σ2.cell b6 (0 + 0 + j) = [Value.int .i64 (usedC S.taken nm), .int .i64 (usedM S.taken nm)][j]? := fun j hj => by
    have : j = 0 ∨ j = 1 := by omega
    rcases this with rfl | rfl <;> simp [PH.cell, hb6']
  have hn : σ2.cell b6 (0 + 2) = some (.int .i64 (usedN S.taken nm)) := by simp [PH.cell, hb6']
  (repeat (first | refine RS.seq ?_ | refine RS.region ?_ | refine RS.skip ?_ | refine RS.inBlock ?_ | refine RS.block ?_ | refine RS.exit ?_)); refine RS.drawK [.free, .free, .free, .free, .st, .free] ?_ (by kernel_rfl) (by kernel_rfl); refine D.fld ?_; refine D.ldSAf (vs := [.int .i64 (usedC S.taken nm), .int .i64 (usedM S.taken nm)]) rfl hvec ?_; refine D.fld ?_; refine D.ldSf hn ?_
  refine D.stB (.agg (List.toArray [.int .i64 (usedC S.taken nm), .int .i64 (usedM S.taken nm)])) _ ?_
  refine D.asI ?_; refine D.done (fun us σ1 hle1 hfs => ?_)
  (repeat (first | refine RS.seq ?_ | refine RS.region ?_ | refine RS.regionQ ?_ (by kernel_rfl) (by kernel_rfl) | refine RS.skip ?_ | refine RS.inBlock ?_ | refine RS.block ?_ | refine RS.exit ?_))
  refine RS.retCT (ty := 30) (v := .int .i64 (usedN S.taken nm)) Tryd.func15 [.int .i64 (usedC S.taken nm), .int .i64 (usedM S.taken nm)] (hb := FindB.head) fun w hw => ?_
  exact ⟨σ1, PH.le_trans hle2 hle1, rfl, hw.weak fun F h => h.tail⟩
/-- What is wrong with a place. -/
def wrongE (S : LedD) (p : PlaceD) : Int := if (asg S.nodes p.node).isSome = false then 5 else if ¬ (0 ≤ p.cpu ∧ 0 ≤ p.mem) then 2 else 0
theorem wrong_c (p : PlaceD) (h1 : MapOk σ es1 c1 S.nodes) (w : World) (hw : Sat w0 M σ (LK bl b1 b2 es1 c1 es2 c2 ++ K) w) :
    Calls Tryd.prog 40 #[.pointer (some ⟨bl, 0, none⟩), .agg (List.toArray (placeC p))] w fun e w' => ∃ σ', PH.le σ σ' ∧ e = .returned (.int .i64 (wrongE S p)) ∧ Sat w0 M σ' (LK bl b1 b2 es1 c1 es2 c2 ++ K) w' := by
  obtain ⟨vs, vm, vt, v1, v2, vz, hv, ⟨a1, d1, rfl⟩, ⟨a2, d2, rfl⟩, hrn⟩ := look_n h1 p.node
  refine RS.enterK Tryd.func40 Tryd.ntmps40 rfl rfl hw ?_
  refine RS.to (K' := blk bl (.cells (List.toArray [.map (some b1), .map (some b2)]) 55 (0, 0)) :: blk b1 (.map es1 c1) :: blk b2 (.map es2 c2) :: K) ?_ ⟨fun h => h⟩
  (repeat (first | refine RS.seq ?_ | refine RS.region ?_ | refine RS.regionQ ?_ (by kernel_rfl) (by kernel_rfl) | refine RS.skip ?_ | refine RS.inBlock ?_ | refine RS.block ?_ | refine RS.exit ?_)); refine box_ (v := .agg _) (cs := [_, _, _, _, _]) (fun b3 => ?_); refine asI ?_; refine LS.done ?_
  (repeat (first | refine RS.seq ?_ | refine RS.region ?_ | refine RS.skip ?_ | refine RS.inBlock ?_ | refine RS.block ?_ | refine RS.exit ?_)); refine RS.drawK [.free, .free, .free, .ex, .free, .ex, .ex, .free, .free, .free, .own, .st, .free] ?_ (by kernel_rfl) (by kernel_rfl); refine D.mvP ?_; refine D.nilck ?_; refine D.fld ?_; refine D.ld1 (v := .map _) ?_; refine D.fld ?_; refine D.ld1 (v := .string _) ?_; refine D.lkOk (bm := b1) p.node h1 ?_; rw [hv]; refine D.mvT ?_; refine D.extr (v := _) ?_; refine D.extr (v := .bool _) ?_; refine D.alloc_ ?_
  refine D.stO (fun _ => [.string vs, .int .i64 vm, .int .i64 vt, .slice a1 d1.1 d1.2, .slice a2 d2.1 d2.2, .bool vz]) ?_ (fun _ _ _ _ => ⟨rfl, rfl, rfl⟩)
  refine D.asB ?_; refine D.done (fun us σ1 hle1 hfs => ?_)
  refine RS.openOwn (fun b5 h5 => ?_)
  (repeat (first | refine RS.seq ?_ | refine RS.region ?_ | refine RS.regionQ ?_ (by kernel_rfl) (by kernel_rfl) | refine RS.skip ?_ | refine RS.inBlock ?_ | refine RS.block ?_ | refine RS.exit ?_)); refine mvB ?_; refine not_ ?_; refine LS.done ?_
  (repeat (first | refine RS.seq ?_ | refine RS.region ?_ | refine RS.regionQ ?_ (by kernel_rfl) (by kernel_rfl) | refine RS.skip ?_ | refine RS.inBlock ?_ | refine RS.block ?_ | refine RS.exit ?_))
  refine RS.cond (fun z => ?_) (fun z => ?_)
  · have z' : (asg S.nodes p.node).isSome = false := by simpa using z
    (repeat (first | refine RS.seq ?_ | refine RS.region ?_ | refine RS.regionQ ?_ (by kernel_rfl) (by kernel_rfl) | refine RS.skip ?_ | refine RS.inBlock ?_ | refine RS.block ?_ | refine RS.exit ?_)); refine asI ?_; refine LS.done ?_; (repeat (first | refine RS.seq ?_ | refine RS.region ?_ | refine RS.regionQ ?_ (by kernel_rfl) (by kernel_rfl) | refine RS.skip ?_ | refine RS.inBlock ?_ | refine RS.block ?_ | refine RS.exit ?_)); refine RS.ret1 (v := .int _ _) Tryd.func40 fun w hw => ?_
    exact ⟨_, hle1, by rw [wrongE, if_pos z'], hw.weak fun F h => h.tail.tail⟩
  · have z' : (asg S.nodes p.node).isSome = true := by simpa using z
    (repeat (first | refine RS.seq ?_ | refine RS.region ?_ | refine RS.regionQ ?_ (by kernel_rfl) (by kernel_rfl) | refine RS.skip ?_ | refine RS.inBlock ?_ | refine RS.block ?_ | refine RS.exit ?_)); refine fld ?_; refine ldA [_, _] ?_
    refine callP ?_ (hc := fun w _ => right_c _ _ w)
    refine not_ ?_; refine LS.done ?_
    (repeat (first | refine RS.seq ?_ | refine RS.region ?_ | refine RS.regionQ ?_ (by kernel_rfl) (by kernel_rfl) | refine RS.skip ?_ | refine RS.inBlock ?_ | refine RS.block ?_ | refine RS.exit ?_))
    refine RS.cond (fun y => ?_) (fun y => ?_)
    · have y' : ¬ (0 ≤ p.cpu ∧ 0 ≤ p.mem) := by simp at y; omega
      (repeat (first | refine RS.seq ?_ | refine RS.region ?_ | refine RS.regionQ ?_ (by kernel_rfl) (by kernel_rfl) | refine RS.skip ?_ | refine RS.inBlock ?_ | refine RS.block ?_ | refine RS.exit ?_)); refine asI ?_; refine LS.done ?_; (repeat (first | refine RS.seq ?_ | refine RS.region ?_ | refine RS.regionQ ?_ (by kernel_rfl) (by kernel_rfl) | refine RS.skip ?_ | refine RS.inBlock ?_ | refine RS.block ?_ | refine RS.exit ?_)); refine RS.ret1 (v := .int _ _) Tryd.func40 fun w hw => ?_
      exact ⟨_, hle1, by rw [wrongE, if_neg (by rw [z']; simp), if_pos y'], hw.weak fun F h => h.tail.tail⟩
    · have y' : 0 ≤ p.cpu ∧ 0 ≤ p.mem := by simpa using y
      (repeat (first | refine RS.seq ?_ | refine RS.region ?_ | refine RS.regionQ ?_ (by kernel_rfl) (by kernel_rfl) | refine RS.skip ?_ | refine RS.inBlock ?_ | refine RS.block ?_ | refine RS.exit ?_)); refine asI ?_; refine LS.done ?_; (repeat (first | refine RS.seq ?_ | refine RS.region ?_ | refine RS.regionQ ?_ (by kernel_rfl) (by kernel_rfl) | refine RS.skip ?_ | refine RS.inBlock ?_ | refine RS.block ?_ | refine RS.exit ?_)); refine RS.ret1 (v := .int _ _) Tryd.func40 fun w hw => ?_
      exact ⟨_, hle1, by rw [wrongE, if_neg (by rw [z']; simp), if_neg (fun h => h y')], hw.weak fun F h => h.tail.tail⟩
end
end Go.Proofs.YthnoaapghcadgaaDoor
