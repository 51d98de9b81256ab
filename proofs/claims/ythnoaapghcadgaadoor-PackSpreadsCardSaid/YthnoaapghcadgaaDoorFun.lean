/- Function values; structs that are compared. -/
import Derived.Test.YthnoaapghcadgaaDoorCells
import Derived.Laws.StructEq
namespace Go.JW
section
variable {P : Program} {q : Bool} {ops : Array Oper} {f : FuncId} {R : Ending → World → Prop} {k : List Item} {n : Nat} {fr : Nat → Value} {w0 : World} {M : Nat → Prop} {σ : PH} {K K' : List HP}
variable {rest : List Oper} {d : Nat} {ty : TypeId} {pos : String} {aft : Array Edge} {x y z : Operand} {t t' : TypeId}
theorem mkF {fn : Fn} {cap : Array Operand} (cs : List Value) (h : LS P q ops f R k rest n (upd fr d (.func fn #[] cs.toArray)) w0 M σ K) (hx : cap.toList.map (ev n fr) = cs := by rfl) :
    LS P q ops f R k (⟨some d, .makeFunc fn #[] cap, ty, pos, aft, none⟩ :: rest) n fr w0 M σ K :=
  LS.val rfl rfl (fun w _ => by
    have e : cap.map (ev n fr) = cs.toArray := by rw [← hx]; cases cap; simp
    simp [execOp, Instr.makeFunc, e]) h
theorem exec_callV {g : FuncId} {xs : Array Operand} {ts : Array TypeId} {cf : Operand} {args caps : List Value} {dd : Option Tmp} {gd : Option (Nat × Bool)} (h : callable P g = true) (hf : ev n fr cf = .func (.func g) #[] caps.toArray) (hx : xs.toList.map (ev n fr) = args) (w : World) :
    (execOp (ev n fr) ⟨dd, .call ⟨.value cf, xs, ts⟩, ty, pos, aft, gd⟩).run P w = .ok (.enter g (args ++ caps).toArray) w := by
  have e : xs.map (ev n fr) = args.toArray := by rw [← hx]; cases xs; simp
  have e2 : (args ++ caps).toArray = args.toArray ++ caps.toArray := by simp
  simp [execOp, resolve, hf, Deferred.ofValue, invoke, e, run_callFunc h]
/-- A call of a function value, with what it has caught; it leaves what was there as it was. -/
theorem callVP {g : FuncId} {xs : Array Operand} {ts : Array TypeId} {cf : Operand} {args caps : List Value} {v : Value} [i : Fun P g]
    (h : LS P q ops f R k rest n (upd fr d v) w0 M σ K) (hx : xs.toList.map (ev n fr) = args := by rfl) (hf : ev n fr cf = .func (.func g) #[] caps.toArray := by rfl)
    (hc : ∀ w, Sat w0 M σ K w → Calls P g (args ++ caps).toArray w fun e w' => e = .returned v ∧ RowKit.Below w.heap.size w w') :
    LS P q ops f R k (⟨some d, .call ⟨.value cf, xs, ts⟩, ty, pos, aft, none⟩ :: rest) n fr w0 M σ K :=
  LS.enterP rfl rfl (fun w _ => exec_callV i.eq hf hx w) (fun w hw => (hc w hw).mono fun _ _ ⟨he, hb⟩ => ⟨he, hw.ext hb⟩) h
theorem eqA {b : Bool} {us1 us2 : List Value} (heq : ∀ w, (Op.equalIn 10000 t (.agg us1.toArray) (.agg us2.toArray)).run P w = .ok b w) (hg : P.eqGuardType P.depth t = false) (h : LS P q ops f R k rest n (upd fr d (.bool b)) w0 M σ K)
    (hx : ev n fr x = .agg us1.toArray := by rfl) (hy : ev n fr y = .agg us2.toArray := by rfl) : LS P q ops f R k (⟨some d, .binOp .eql t x y t', ty, pos, aft, none⟩ :: rest) n fr w0 M σ K :=
  LS.val rfl rfl (fun w _ => by
    simp only [execOp, hx, hy, Sem.run_bind, run_eqGuard_agg w .eql t x y _ _ hg, Result.andThen_ok, run_eql_struct, heq]
    rfl) h
end
end Go.JW
