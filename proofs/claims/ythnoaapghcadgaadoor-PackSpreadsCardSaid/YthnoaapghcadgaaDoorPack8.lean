/- Several texts as one; printed by merge.py. -/
import Derived.Test.YthnoaapghcadgaaDoorLaw7
import Derived.Test.YthnoaapghcadgaaDoorFun
import Derived.Test.YthnoaapghcadgaaDoorShelf
import Derived.Test.YthnoaapghcadgaaDoorRef7
import Derived.Test.YthnoaapghcadgaaDoorGives
import Derived.KernelRfl
/- Rules: interfaces; a method called through one; texts and interfaces in calls that are drawn. -/
namespace Go.JW
section
variable {P : Program} {q : Bool} {ops : Array Oper} {f : FuncId} {R : Ending → World → Prop} {k : List Item} {n : Nat} {fr : Nat → Value} {w0 : World} {M : Nat → Prop} {σ : PH} {K K' : List HP}
variable {rest : List Oper} {d : Nat} {ty : TypeId} {pos : String} {aft : Array Edge} {x y z : Operand} {t t' : TypeId}
theorem mkI {e : TypeId} (v : Value) [ht : TPtr P t e] (h : LS P q ops f R k rest n (upd fr d (.iface t v)) w0 M σ K) (hx : ev n fr x = v := by rfl) :
    LS P q ops f R k (⟨some d, .makeInterface t x, ty, pos, aft, none⟩ :: rest) n fr w0 M σ K :=
  LS.val rfl rfl (fun w _ => by simp [execOp, hx, Instr.makeInterface, run_underlying ht.eq]) h
theorem tyA {e : TypeId} (v : Value) [ht : TPtr P t e] (h : LS P q ops f R k rest n (upd fr d (.tuple #[v, .bool true])) w0 M σ K) (hx : ev n fr x = .iface t v := by rfl) :
    LS P q ops f R k (⟨some d, .typeAssert x t' t true, ty, pos, aft, none⟩ :: rest) n fr w0 M σ K :=
  LS.val rfl rfl (fun w _ => by simp [execOp, hx, Instr.typeAssert, run_underlying ht.eq]) h
theorem exec_inv {g : FuncId} {T : TypeId} {nm : String} {v : Value} {xs : Array Operand} {ts : Array TypeId} {r : Operand} {args : List Value} {dd : Option Tmp} {gd : Option (Nat × Bool)} (hm : ∀ w, (callMethod (.iface T v) nm args.toArray).run P w = .ok (.enter g (v :: args).toArray) w) (hr : ev n fr r = .iface T v) (hx : xs.toList.map (ev n fr) = args) (w : World) :
    (execOp (ev n fr) ⟨dd, .call ⟨.invoke r nm, xs, ts⟩, ty, pos, aft, gd⟩).run P w = .ok (.enter g (v :: args).toArray) w := by
  have e : xs.map (ev n fr) = args.toArray := by rw [← hx]; cases xs; simp
  have e2 : (#[Value.iface T v] ++ args.toArray).extract 1 (#[Value.iface T v] ++ args.toArray).size = args.toArray := by
    apply Array.ext'
    simp
  simp only [execOp, resolve, hr, e, Sem.run_bind, Sem.run_pure, Result.andThen_ok, invoke]
  simp [e2, hm]
/-- A call of a method through an interface. -/
theorem invX {g : FuncId} {T : TypeId} {nm : String} {v : Value} {xs : Array Operand} {ts : Array TypeId} {r : Operand} {args : List Value} {X : Type} (val : X → Value) (σx : X → PH) (Kx : X → List HP) (Q : X → Prop) (hm : ∀ w, (callMethod (.iface T v) nm args.toArray).run P w = .ok (.enter g (v :: args).toArray) w)
    (h : ∀ x, Q x → LS P false ops f R k rest n (upd fr d (val x)) w0 M (σx x) (Kx x))
    (hc : ∀ w, Sat w0 M σ K w → Calls P g (v :: args).toArray w fun e w' => ∃ x, e = .returned (val x) ∧ Sat w0 M (σx x) (Kx x) w' ∧ Q x) (hr : ev n fr r = .iface T v := by rfl) (hx : xs.toList.map (ev n fr) = args := by rfl) :
    LS P false ops f R k (⟨some d, .call ⟨.invoke r nm, xs, ts⟩, ty, pos, aft, none⟩ :: rest) n fr w0 M σ K :=
  LS.enterW rfl rfl (fun w _ => exec_inv hm hr hx w) fun w hw => (hc w hw).mono fun _ _ ⟨x, he, hs, hq⟩ => ⟨val x, σx x, Kx x, he, hs, h x hq⟩
theorem RS.scope {c : Code} (h : RS P f R (.code c :: .inScope c :: k) n fr w0 M σ K) : RS P f R (.code (.scope c) :: k) n fr w0 M σ K := ⟨fun w hw => Run.step (fun _ => step_scope) (h.out w hw)⟩
theorem RS.inScope {c : Code} (h : RS P f R k n fr w0 M σ K) : RS P f R (.inScope c :: k) n fr w0 M σ K := ⟨fun w hw => Run.step (fun _ => step_inScope) (h.out w hw)⟩
end
end Go.JW
/- Plain: why a pod may not stand on a node, how good it is, which is best, where pods go (no program in sight). -/
namespace Go.Proofs.YthnoaapghcadgaaDoor
open Go.JW Go.RowKit
def allIn (of_ in_ : List ByteArray) : Bool := of_.all fun s => in_.any fun t => decide (t = s)
def fitP (p : PodD) (n : NodeD) (uC uM : Int) : Bool := decide ((addR uC uM p.cpu p.mem).2 = 0) && fitsB (addR uC uM p.cpu p.mem).1.1 (addR uC uM p.cpu p.mem).1.2 n.cpu n.mem
def whyP (p : PodD) (n : NodeD) (uC uM : Int) (near : List PlaceD) : Int :=
  if n.closed = true then 1 else if allIn p.picks n.marks = false then 2 else if allIn n.taints p.bears = false then 3 else if fitP p n uC uM = false then 4 else if p.alone = true ∧ 0 < near.length then 5 else if near.any (·.alone) = true then 6 else 0
def partP (most used need : Int) : Int := if most = 0 then 100 else (100 * (most - used - need)).tdiv most
def leftP (n : NodeD) (uC uM : Int) (p : PodD) : Int := partP n.cpu uC p.cpu + partP n.mem uM p.mem
def scoreP (mode : Int) (left pods : Int) : Int := if mode = 0 then 0 + left else if mode = 1 then 200 - left else if mode = 2 then 1000 - pods else 0
/-- The best of the first k. -/
def bestTo (ns : List ByteArray) (ss : List Int) : Nat → Int
  | 0 => -1
  | k + 1 => if bestTo ns ss k < 0 ∨ ss.getD (bestTo ns ss k).toNat 0 < ss.getD k 0 ∨ (ss.getD k 0 = ss.getD (bestTo ns ss k).toNat 0 ∧ sLt (ns.getD k ⟨#[]⟩) (ns.getD (bestTo ns ss k).toNat ⟨#[]⟩) = true) then k else bestTo ns ss k
theorem bestTo_in (ns : List ByteArray) (ss : List Int) : ∀ k, -1 ≤ bestTo ns ss k ∧ bestTo ns ss k < k ∨ (k = 0 ∧ bestTo ns ss k = -1) := by
  intro k
  induction k with
  | zero => right; exact ⟨rfl, rfl⟩
  | succ k ih =>
    left
    simp only [bestTo]
    split
    · omega
    · rcases ih with h | ⟨h, h2⟩
      · omega
      · omega
theorem bestTo_pos (ns : List ByteArray) (ss : List Int) : ∀ k, 0 < k → 0 ≤ bestTo ns ss k := by
  intro k
  induction k with
  | zero => intro h; omega
  | succ k ih =>
    intro _
    simp only [bestTo]
    split
    · omega
    · rename_i h
      by_cases hk : bestTo ns ss k < 0
      · exact absurd (.inl hk) h
      · omega
def nearP (own : List PlaceD) (nm : ByteArray) : List PlaceD := own.filter fun p => decide (p.node = nm)
def uC (S : LedD) (own : List PlaceD) (nm : ByteArray) : Int := usedC S.taken nm + needC nm own
def uM (S : LedD) (own : List PlaceD) (nm : ByteArray) : Int := usedM S.taken nm + needM nm own
def uN (S : LedD) (own : List PlaceD) (nm : ByteArray) : Int := usedN S.taken nm + needN nm own
def mayP (S : LedD) (own : List PlaceD) (p : PodD) (n : NodeD) : Bool := decide (whyP p n (uC S own n.name) (uM S own n.name) (nearP own n.name) = 0)
def goodP (S : LedD) (own : List PlaceD) (mode : Int) (p : PodD) (n : NodeD) : Int := scoreP mode (leftP n (uC S own n.name) (uM S own n.name) p) (uN S own n.name)
def candN (S : LedD) (own : List PlaceD) (p : PodD) (ns : List NodeD) : List NodeD := ns.filter (mayP S own p)
/-- Where a pod goes. -/
def spotP (S : LedD) (own : List PlaceD) (mode : Int) (p : PodD) : Option PlaceD :=
  let c := candN S own p (nodesOf S)
  let i := bestTo (c.map (·.name)) (c.map (goodP S own mode p)) c.length
  if i < 0 then none else some ⟨p.name, (c.map (·.name)).getD i.toNat ⟨#[]⟩, p.cpu, p.mem, p.alone⟩
/-- Where all go, one behind the other. -/
def allP (S : LedD) (mode : Int) : List PodD → List PlaceD → Option (List PlaceD)
  | [], own => some own
  | p :: ps, own => match spotP S own mode p with | none => none | some x => allP S mode ps (own ++ [x])
def packE (S : LedD) (g : Int) (pods : List PodD) (mode : Int) : Int :=
  if 0 < (tk S.taken g).length then 4 else if pods.length = 0 then 3 else match allP S mode pods [] with | none => 6 | some _ => 0
def packL (S : LedD) (g : Int) (pods : List PodD) (mode : Int) : List PlaceD :=
  if 0 < (tk S.taken g).length then [] else if pods.length = 0 then [] else (allP S mode pods []).getD []
def packS (S : LedD) (g : Int) (pods : List PodD) (mode : Int) : LedD := if packE S g pods mode = 0 then ⟨S.nodes, aset S.taken g (packL S g pods mode)⟩ else S
/-- What of a gang stands already is in order. -/
structure OwnOk (S : LedD) (own : List PlaceD) : Prop where
  right : ∀ p ∈ own, RightP p
  there : ∀ p ∈ own, (asg S.nodes p.node).isSome = true
  fits : ∀ nm n, asg S.nodes nm = some n → uC S own nm ≤ n.cpu ∧ uM S own nm ≤ n.mem
theorem OwnOk.nil {S : LedD} {kk : Nat} (hi : LedInv S kk) : OwnOk S [] := ⟨by simp, by simp, fun nm n h => by have := hi.fits nm n h; simpa [uC, uM, needF] using this⟩
theorem needF_app (f : PlaceD → Int) (nm : ByteArray) (a b : List PlaceD) : needF f nm (a ++ b) = needF f nm a + needF f nm b := by simp [needF]
theorem fitP_iff {p : PodD} {n : NodeD} {c m : Int} (hc : 0 ≤ c ∧ c ≤ 1099511627776) (hm : 0 ≤ m ∧ m ≤ 1099511627776) (hn : 0 ≤ n.cpu ∧ n.cpu ≤ 1099511627776 ∧ 0 ≤ n.mem ∧ n.mem ≤ 1099511627776) : fitP p n c m = true ↔ (0 ≤ p.cpu ∧ 0 ≤ p.mem) ∧ c + p.cpu ≤ n.cpu ∧ m + p.mem ≤ n.mem := by
  unfold fitP addR fitsB
  by_cases h1 : ¬ (0 ≤ c ∧ 0 ≤ m ∧ 0 ≤ p.cpu ∧ 0 ≤ p.mem)
  · rw [if_pos h1]; simp; omega
  · rw [if_neg h1]
    by_cases h2 : 9223372036854775807 - p.cpu < c ∨ 9223372036854775807 - p.mem < m
    · rw [if_pos h2]; simp; omega
    · rw [if_neg h2]; simp; omega
theorem whyP_zero {p : PodD} {n : NodeD} {c m : Int} {near : List PlaceD} (h : whyP p n c m near = 0) : n.closed = false ∧ allIn p.picks n.marks = true ∧ allIn n.taints p.bears = true ∧ fitP p n c m = true ∧ ¬ (p.alone = true ∧ 0 < near.length) ∧ near.any (·.alone) = false := by
  unfold whyP at h
  by_cases h1 : n.closed = true
  · rw [if_pos h1] at h; exact absurd h (by decide)
  rw [if_neg h1] at h
  by_cases h2 : allIn p.picks n.marks = false
  · rw [if_pos h2] at h; exact absurd h (by decide)
  rw [if_neg h2] at h
  by_cases h3 : allIn n.taints p.bears = false
  · rw [if_pos h3] at h; exact absurd h (by decide)
  rw [if_neg h3] at h
  by_cases h4 : fitP p n c m = false
  · rw [if_pos h4] at h; exact absurd h (by decide)
  rw [if_neg h4] at h
  by_cases h5 : p.alone = true ∧ 0 < near.length
  · rw [if_pos h5] at h; exact absurd h (by decide)
  rw [if_neg h5] at h
  by_cases h6 : near.any (·.alone) = true
  · rw [if_pos h6] at h; exact absurd h (by decide)
  rw [if_neg h6] at h
  exact ⟨by simpa using h1, by simpa using h2, by simpa using h3, by simpa using h4, h5, by simpa using h6⟩
theorem spot_some {S : LedD} {own : List PlaceD} {mode : Int} {p : PodD} {x : PlaceD} (h : spotP S own mode p = some x) : ∃ n ∈ nodesOf S, mayP S own p n = true ∧ x = ⟨p.name, n.name, p.cpu, p.mem, p.alone⟩ := by
  unfold spotP at h
  simp only at h
  split at h
  · cases h
  · rename_i hi
    injection h with h
    obtain ⟨c, hc⟩ : ∃ c, c = candN S own p (nodesOf S) := ⟨_, rfl⟩
    rw [← hc] at h hi
    obtain ⟨i, hi'⟩ : ∃ i, i = bestTo (c.map (·.name)) (c.map (goodP S own mode p)) c.length := ⟨_, rfl⟩
    rw [← hi'] at h hi
    have hb := bestTo_in (c.map (·.name)) (c.map (goodP S own mode p)) c.length
    rw [← hi'] at hb
    have hlt : i.toNat < c.length := by omega
    have hm : c[i.toNat] ∈ c := List.getElem_mem hlt
    have hg : (c.map (·.name)).getD i.toNat ⟨#[]⟩ = c[i.toNat].name := by simp [List.getD_eq_getElem?_getD, hlt]
    rw [hg] at h
    generalize c[i.toNat] = n at hm h
    rw [hc] at hm
    obtain ⟨h1, h2⟩ := List.mem_filter.1 hm
    exact ⟨n, h1, h2, h.symm⟩
theorem spot_none {S : LedD} {own : List PlaceD} {mode : Int} {p : PodD} : spotP S own mode p = none ↔ candN S own p (nodesOf S) = [] := by
  unfold spotP
  simp only
  constructor
  · intro h
    split at h
    · rename_i hi
      refine Classical.byContradiction fun hne => ?_
      have := bestTo_pos ((candN S own p (nodesOf S)).map (·.name)) ((candN S own p (nodesOf S)).map (goodP S own mode p)) (candN S own p (nodesOf S)).length (List.length_pos_iff.2 hne)
      omega
    · cases h
  · intro h; rw [h]; rfl
theorem node_asg {S : LedD} {kk : Nat} (hi : LedInv S kk) {n : NodeD} (hn : n ∈ nodesOf S) : asg S.nodes n.name = some n ∧ nodeErr n = 0 := by
  obtain ⟨p, hp, rfl⟩ := List.mem_map.1 hn
  have h1 := mem_sortK.1 hp
  have h2 := asg_mem hi.nodes.nodup h1
  rw [← hi.nodes.key p h1] at h2
  exact ⟨h2, hi.nodes.fine p h1⟩
theorem uC_in {S : LedD} {own : List PlaceD} {kk : Nat} (hi : LedInv S kk) (hk : kk ≤ 1000000) (ho : OwnOk S own) (nm : ByteArray) : (0 ≤ uC S own nm ∧ uC S own nm ≤ 1099511627776) ∧ (0 ≤ uM S own nm ∧ uM S own nm ≤ 1099511627776) := by
  have h1 := used_pos (hi.takenOk hk) nm
  have h2 := needF_in (f := (·.cpu)) (nm := nm) (ps := own) (fun p hp => (ho.right p hp).1) own.length
  have h3 := needF_in (f := (·.mem)) (nm := nm) (ps := own) (fun p hp => (ho.right p hp).2) own.length
  rw [List.take_length] at h2 h3
  have h4 := (hi.takenOk hk).most nm
  rcases opt_cases (asg S.nodes nm) with e | ⟨n, e⟩
  · have hz : ∀ f : PlaceD → Int, needF f nm own = 0 := fun f => needF_none (by
      rw [List.any_eq_false]
      intro p hp
      rw [decide_eq_true_eq]
      intro hpn
      have := ho.there p hp
      rw [hpn, e] at this; cases this)
    have z1 := hz (·.cpu)
    have z2 := hz (·.mem)
    simp only [uC, uM, needC, needM]
    omega
  · have h5 := ho.fits nm n e
    have h6 := fine_cap (hi.nodes.fine _ (asg_some_mem e))
    simp only [uC, uM, needC, needM] at h5 ⊢
    simp only at h6
    omega
theorem spot_ok {S : LedD} {own : List PlaceD} {mode : Int} {p : PodD} {x : PlaceD} {kk : Nat} (hi : LedInv S kk) (hk : kk ≤ 1000000) (ho : OwnOk S own) (h : spotP S own mode p = some x) : OwnOk S (own ++ [x]) := by
  obtain ⟨n, hn, hm, rfl⟩ := spot_some h
  obtain ⟨ha, he⟩ := node_asg hi hn
  have hc := fine_cap he
  obtain ⟨u1, u2⟩ := uC_in hi hk ho n.name
  have hw := whyP_zero (of_decide_eq_true hm)
  obtain ⟨hp, hf1, hf2⟩ := (fitP_iff u1 u2 hc).1 hw.2.2.2.1
  refine ⟨fun q hq => ?_, fun q hq => ?_, fun nm m hnm => ?_⟩
  · rcases List.mem_append.1 hq with hq | hq
    · exact ho.right q hq
    · rw [List.mem_singleton.1 hq]; exact hp
  · rcases List.mem_append.1 hq with hq | hq
    · exact ho.there q hq
    · rw [List.mem_singleton.1 hq, ha]; rfl
  · have h1 := ho.fits nm m hnm
    simp only [uC, uM, needC, needM, needF_app, needF_one] at h1 hf1 hf2 ⊢
    by_cases e : n.name = nm
    · subst e
      rw [ha] at hnm; injection hnm with hnm; subst hnm
      simp only [if_true]; omega
    · rw [if_neg e, if_neg e]; omega
theorem all_ok {S : LedD} {mode : Int} {kk : Nat} (hi : LedInv S kk) (hk : kk ≤ 1000000) : ∀ {ps : List PodD} {own out : List PlaceD}, OwnOk S own → allP S mode ps own = some out → OwnOk S out ∧ out.length = own.length + ps.length := by
  intro ps
  induction ps with
  | nil => intro own out ho h; simp only [allP, Option.some.injEq] at h; subst h; exact ⟨ho, by simp⟩
  | cons p ps ih =>
    intro own out ho h
    simp only [allP] at h
    rcases opt_cases (spotP S own mode p) with e | ⟨x, e⟩
    · rw [e] at h; cases h
    · rw [e] at h
      obtain ⟨h1, h2⟩ := ih (spot_ok hi hk ho e) h
      exact ⟨h1, by rw [h2]; simp; omega⟩
theorem take_all {S : LedD} {g : Int} {out : List PlaceD} (ho : OwnOk S out) (h0 : ¬ 0 < (tk S.taken g).length) (hne : ¬ out.length = 0) : takeE S g out = 0 := by
  have hw : wrongs S out = 0 := wrongs_zero.2 fun p hp => by
    have h1 := ho.there p hp
    have h2 := ho.right p hp
    unfold wrongE
    rw [if_neg (by simp [h1]), if_neg (by simpa [RightP] using h2)]
  rw [takeE, if_neg h0, if_neg hne, if_neg (by simp [hw]), if_pos]
  refine roomAll_of fun j hj => ?_
  unfold roomAt
  rw [List.getElem?_eq_getElem hj]
  simp only
  have hth := ho.there out[j] (List.getElem_mem hj)
  rcases opt_cases (asg S.nodes out[j].node) with e | ⟨n, e⟩
  · rw [e] at hth; cases hth
  · have h5 := ho.fits _ n e
    have h2 := needF_in (f := (·.cpu)) (nm := out[j].node) (ps := out) (fun p hp => (ho.right p hp).1) (j + 1)
    have h3 := needF_in (f := (·.mem)) (nm := out[j].node) (ps := out) (fun p hp => (ho.right p hp).2) (j + 1)
    simp only [capOf, e]
    simp only [uC, uM, needC, needM] at h5 ⊢
    exact decide_eq_true (by omega)
end Go.Proofs.YthnoaapghcadgaaDoor
/- Contracts: whether each of some texts is among others. -/
namespace Go.Proofs.YthnoaapghcadgaaDoor
open Go.JW Go.RowKit
def isIn (l : List ByteArray) (x : ByteArray) : Bool := l.any fun t => decide (t = x)
theorem containsS_in (l : List ByteArray) (x : ByteArray) : Go.Lib.containsS l x = isIn l x := by
  rw [Bool.eq_iff_iff, Go.Lib.containsS_iff]
  simp [isIn]
theorem allIn_eq (a b : List ByteArray) : allIn a b = a.all (isIn b) := rfl
theorem shas_c (l : List ByteArray) (v : Value) (x : ByteArray) (w : World) (h : RepL (hp w) v l) : Calls Tryd.prog 80 #[v, .string x] w fun e w' => e = .returned (.bool (isIn l x)) ∧ Below w.heap.size w w' := by
  obtain ⟨a, c, rfl⟩ := h.form
  by_cases hn : l = []
  · subst hn
    exact (Tryd.slices_Contains_string_empty a c x w).mono fun _ _ ⟨h1, h2⟩ => by subst h2; exact ⟨h1, Below.refl _ _⟩
  · obtain ⟨b, o, rfl, hr⟩ := h.addr hn
    refine (Tryd.slices_Contains_string b o l.length c l x w (Nat.le_refl _) (by have := h.1; omega) fun j hj => ?_).mono fun _ _ ⟨h1, h2⟩ => ?_
    · have := (hr.str j hj).1
      rw [← PH.cell_world, List.getD_eq_getElem?_getD, List.getElem?_eq_getElem hj]; simpa using this
    · subst h2; rw [List.take_length, containsS_in] at h1; exact ⟨h1, Below.refl _ _⟩
theorem notin_c (l : List ByteArray) (v : Value) (x : ByteArray) (b : Nat) (w : World) (hb : (hp w) b = some (.cells (List.toArray [v]) 31 (0, 0))) (h : RepL (hp w) v l) :
    Calls Tryd.prog 79 #[.string x, .pointer (some ⟨b, 0, none⟩)] w fun e w' => e = .returned (.bool (!isIn l x)) ∧ Below w.heap.size w w' := by
  obtain ⟨a, c, rfl⟩ := h.form
  have hcell : (hp w).cell b 0 = some (.slice a l.length c) := by simp [PH.cell, hb]
  refine RS.enter Tryd.func79 Tryd.ntmps79 rfl rfl ?_
  (repeat (first | refine RS.seq ?_ | refine RS.region ?_ | refine RS.regionQ ?_ (by kernel_rfl) (by kernel_rfl) | refine RS.skip ?_ | refine RS.inBlock ?_ | refine RS.block ?_ | refine RS.exit ?_)); refine asB ?_; refine LS.done ?_
  (repeat (first | refine RS.seq ?_ | refine RS.region ?_ | refine RS.regionQ ?_ (by kernel_rfl) (by kernel_rfl) | refine RS.skip ?_ | refine RS.inBlock ?_ | refine RS.block ?_ | refine RS.exit ?_)); refine ldS hcell ?_; refine mvS ?_
  refine callP ?_ (hc := fun w' hw => shas_c l _ x w' (h.mono hw.imm))
  refine not_ ?_; refine asB ?_; refine LS.done ?_
  (repeat (first | refine RS.seq ?_ | refine RS.region ?_ | refine RS.regionQ ?_ (by kernel_rfl) (by kernel_rfl) | refine RS.skip ?_ | refine RS.inBlock ?_ | refine RS.block ?_ | refine RS.exit ?_)); refine RS.ret1 (v := .bool _) Tryd.func79 fun w hw => ?_
  exact ⟨rfl, hw.below⟩
theorem sindex_c (of_ l : List ByteArray) (v vl : Value) (b : Nat) (w : World) (h : RepL (hp w) v of_) (hb : (hp w) b = some (.cells (List.toArray [vl]) 31 (0, 0))) (hl : RepL (hp w) vl l) :
    Calls Tryd.prog 93 #[v, .func (.func 79) #[] #[.pointer (some ⟨b, 0, none⟩)]] w fun e w' => ∃ v, e = .returned v ∧ Below w.heap.size w w' ∧ ∃ m : Int, v = .int .i64 m ∧ (0 ≤ m ↔ allIn of_ l = false) := by
  obtain ⟨a, cap, rfl⟩ := h.form
  have hlen : of_.length ≤ 140737488355328 := h.1
  refine RS.enter Tryd.func93 Tryd.ntmps93 rfl rfl ?_
  (repeat (first | refine RS.seq ?_ | refine RS.region ?_ | refine RS.regionQ ?_ (by kernel_rfl) (by kernel_rfl) | refine RS.skip ?_ | refine RS.inBlock ?_ | refine RS.block ?_ | refine RS.exit ?_)); refine asI ?_; refine LS.done ?_
  (repeat (first | refine RS.seq ?_ | refine RS.region ?_ | refine RS.regionQ ?_ (by kernel_rfl) (by kernel_rfl) | refine RS.skip ?_ | refine RS.inBlock ?_ | refine RS.block ?_ | refine RS.exit ?_)); refine mvL ?_; refine lenL ?_; refine mvI ?_; refine LS.done ?_
  (repeat (first | refine RS.seq ?_ | refine RS.region ?_ | refine RS.regionQ ?_ (by kernel_rfl) (by kernel_rfl) | refine RS.skip ?_ | refine RS.inBlock ?_ | refine RS.block ?_ | refine RS.exit ?_))
  refine RS.loopF (X := Nat) 5 19 (fun k => k ≤ of_.length ∧ allIn (of_.take k) l = true) (fun k => [(7, .int .i64 of_.length), (8, .int .i64 k)]) (fun _ => hp w) (fun _ => []) (fun k => of_.length - k) 0 ⟨by omega, by simp [allIn]⟩ ⟨rfl, rfl, trivial⟩ rfl inferInstance ?_
  rintro k g ⟨hk, hs⟩ ih
  (repeat (first | refine RS.seq ?_ | refine RS.region ?_ | refine RS.regionQ ?_ (by kernel_rfl) (by kernel_rfl) | refine RS.skip ?_ | refine RS.inBlock ?_ | refine RS.block ?_ | refine RS.exit ?_)); refine ltI ?_; refine LS.done ?_
  (repeat (first | refine RS.seq ?_ | refine RS.region ?_ | refine RS.regionQ ?_ (by kernel_rfl) (by kernel_rfl) | refine RS.skip ?_ | refine RS.inBlock ?_ | refine RS.block ?_ | refine RS.exit ?_))
  by_cases hlt : k < of_.length
  · refine RS.condT ?_ (h := by simp; exact hlt)
    obtain ⟨b', o, rfl, hr⟩ := h.addr (fun h => by simp [h] at hlt)
    obtain ⟨hc, hsz⟩ := hr.str k hlt
    obtain ⟨s, hse⟩ : ∃ s, s = of_[k] := ⟨_, rfl⟩
    rw [← hse] at hc
    (repeat (first | refine RS.seq ?_ | refine RS.region ?_ | refine RS.regionQ ?_ (by kernel_rfl) (by kernel_rfl) | refine RS.skip ?_ | refine RS.inBlock ?_ | refine RS.block ?_ | refine RS.exit ?_)); refine mvI ?_; refine asI ?_; refine LS.done ?_
    (repeat (first | refine RS.seq ?_ | refine RS.region ?_ | refine RS.regionQ ?_ (by kernel_rfl) (by kernel_rfl) | refine RS.skip ?_ | refine RS.inBlock ?_ | refine RS.block ?_ | refine RS.exit ?_)); refine mvF ?_; refine mvL ?_; refine mvI ?_; refine idx (i := k) ?_; refine ldS hc ?_
    refine callVP (v := .bool (!isIn l s)) (g := 79) (args := [.string s]) (caps := [.pointer (some ⟨b, 0, none⟩)]) ?_ (hc := fun w hw => notin_c l vl s b w (hw.imm _ _ hb) (hl.mono hw.imm))
    refine LS.done ?_
    (repeat (first | refine RS.seq ?_ | refine RS.region ?_ | refine RS.regionQ ?_ (by kernel_rfl) (by kernel_rfl) | refine RS.skip ?_ | refine RS.inBlock ?_ | refine RS.block ?_ | refine RS.exit ?_))
    refine RS.cond (fun c => ?_) (fun c => ?_)
    · (repeat (first | refine RS.seq ?_ | refine RS.region ?_ | refine RS.regionQ ?_ (by kernel_rfl) (by kernel_rfl) | refine RS.skip ?_ | refine RS.inBlock ?_ | refine RS.block ?_ | refine RS.exit ?_)); refine mvI ?_; refine asI ?_; refine LS.done ?_; (repeat (first | refine RS.seq ?_ | refine RS.region ?_ | refine RS.regionQ ?_ (by kernel_rfl) (by kernel_rfl) | refine RS.skip ?_ | refine RS.inBlock ?_ | refine RS.block ?_ | refine RS.exit ?_)); refine RS.ret1 (v := .int _ _) Tryd.func93 fun w hw => ?_
      refine ⟨_, rfl, hw.below, k, rfl, ⟨fun _ => ?_, fun _ => by omega⟩⟩
      rw [Bool.eq_false_iff]
      intro ha
      rw [allIn_eq, List.all_eq_true] at ha
      have := ha of_[k] (List.getElem_mem _)
      rw [← hse] at this
      rw [this] at c; cases c
    · (repeat (first | refine RS.seq ?_ | refine RS.region ?_ | refine RS.regionQ ?_ (by kernel_rfl) (by kernel_rfl) | refine RS.skip ?_ | refine RS.inBlock ?_ | refine RS.block ?_ | refine RS.exit ?_)); (first | refine addN ?_ | refine addI ?_); refine mvI ?_; refine LS.done ?_; (repeat (first | refine RS.seq ?_ | refine RS.region ?_ | refine RS.regionQ ?_ (by kernel_rfl) (by kernel_rfl) | refine RS.skip ?_ | refine RS.inBlock ?_ | refine RS.block ?_ | refine RS.exit ?_))
      refine ih (k + 1) ⟨hlt, ?_⟩ (by omega) ⟨rfl, rfl, trivial⟩ (by repeat (first | with_reducible exact Out.refl _ _ _ | exact Out.hv | refine Out.upd ?_ | refine Out.hvIn ?_)) inferInstance rfl
      rw [allIn_eq] at hs ⊢
      rw [List.take_add_one, List.getElem?_eq_getElem hlt, List.all_append, hs, ← hse]
      simpa using c
  · refine RS.condF ?_ (h := by simp; omega)
    obtain rfl : k = of_.length := by omega
    (repeat (first | refine RS.seq ?_ | refine RS.region ?_ | refine RS.regionQ ?_ (by kernel_rfl) (by kernel_rfl) | refine RS.skip ?_ | refine RS.inBlock ?_ | refine RS.block ?_ | refine RS.exit ?_)); refine asI ?_; refine LS.done ?_; (repeat (first | refine RS.seq ?_ | refine RS.region ?_ | refine RS.regionQ ?_ (by kernel_rfl) (by kernel_rfl) | refine RS.skip ?_ | refine RS.inBlock ?_ | refine RS.block ?_ | refine RS.exit ?_)); refine RS.ret1 (v := .int _ _) Tryd.func93 fun w hw => ?_
    rw [List.take_length] at hs
    exact ⟨_, rfl, hw.below, -1, rfl, by simp [hs]⟩
theorem shasf_c (of_ l : List ByteArray) (v vl : Value) (b : Nat) (w : World) (h : RepL (hp w) v of_) (hb : (hp w) b = some (.cells (List.toArray [vl]) 31 (0, 0))) (hl : RepL (hp w) vl l) :
    Calls Tryd.prog 78 #[v, .func (.func 79) #[] #[.pointer (some ⟨b, 0, none⟩)]] w fun e w' => e = .returned (.bool (!allIn of_ l)) ∧ Below w.heap.size w w' := by
  obtain ⟨a, cap, rfl⟩ := h.form
  refine RS.enter Tryd.func78 Tryd.ntmps78 rfl rfl ?_
  (repeat (first | refine RS.seq ?_ | refine RS.region ?_ | refine RS.regionQ ?_ (by kernel_rfl) (by kernel_rfl) | refine RS.skip ?_ | refine RS.inBlock ?_ | refine RS.block ?_ | refine RS.exit ?_)); refine asB ?_; refine LS.done ?_
  (repeat (first | refine RS.seq ?_ | refine RS.region ?_ | refine RS.regionQ ?_ (by kernel_rfl) (by kernel_rfl) | refine RS.skip ?_ | refine RS.inBlock ?_ | refine RS.block ?_ | refine RS.exit ?_)); refine mvL ?_; refine mvF ?_
  refine callT (fun v _ => ∃ m : Int, v = .int .i64 m ∧ (0 ≤ m ↔ allIn of_ l = false)) (fun v τ1 σ2 hq hN hle hτ => ?_) (fun w hw => sindex_c of_ l _ vl b w (h.mono hw.imm) (hw.imm _ _ hb) (hl.mono hw.imm))
  obtain ⟨m, rfl, hm⟩ := hq
  refine geI ?_; refine asB ?_; refine LS.done ?_
  (repeat (first | refine RS.seq ?_ | refine RS.region ?_ | refine RS.regionQ ?_ (by kernel_rfl) (by kernel_rfl) | refine RS.skip ?_ | refine RS.inBlock ?_ | refine RS.block ?_ | refine RS.exit ?_)); refine RS.ret1 (v := .bool _) Tryd.func78 fun w hw => ?_
  refine ⟨retB ?_, hw.below⟩
  cases e : allIn of_ l with
  | true => rw [e] at hm; exact decide_eq_false (fun h => by have := hm.1 h; cases this)
  | false => exact decide_eq_true (hm.2 e)
theorem all_c (of_ l : List ByteArray) (v vl : Value) (w : World) (h : RepL (hp w) v of_) (hl : RepL (hp w) vl l) :
    Calls Tryd.prog 71 #[v, vl] w fun e w' => e = .returned (.bool (allIn of_ l)) ∧ Below w.heap.size w w' := by
  obtain ⟨a, c, rfl⟩ := h.form
  obtain ⟨al, cl, rfl⟩ := hl.form
  refine RS.enter Tryd.func71 Tryd.ntmps71 rfl rfl ?_
  (repeat (first | refine RS.seq ?_ | refine RS.region ?_ | refine RS.regionQ ?_ (by kernel_rfl) (by kernel_rfl) | refine RS.skip ?_ | refine RS.inBlock ?_ | refine RS.block ?_ | refine RS.exit ?_)); refine box_ (v := .slice _ _ _) (cs := [_]) (fun b3 => ?_); refine asB ?_; refine LS.done ?_
  refine RS.freeze (b := b3) inferInstance (fun σ2 hle2 hb3 => ?_)
  (repeat (first | refine RS.seq ?_ | refine RS.region ?_ | refine RS.regionQ ?_ (by kernel_rfl) (by kernel_rfl) | refine RS.skip ?_ | refine RS.inBlock ?_ | refine RS.block ?_ | refine RS.exit ?_)); refine mvL ?_; refine mkF [.pointer (some ⟨b3, 0, none⟩)] ?_
  refine callP ?_ (hc := fun w' hw => shasf_c of_ l _ _ b3 w' (h.mono (PH.le_trans hle2 hw.imm)) (hw.imm _ _ hb3) (hl.mono (PH.le_trans hle2 hw.imm)))
  refine not_ ?_; refine asB ?_; refine LS.done ?_
  (repeat (first | refine RS.seq ?_ | refine RS.region ?_ | refine RS.regionQ ?_ (by kernel_rfl) (by kernel_rfl) | refine RS.skip ?_ | refine RS.inBlock ?_ | refine RS.block ?_ | refine RS.exit ?_)); refine RS.ret1 (v := .bool _) Tryd.func71 fun w hw => ?_
  exact ⟨retB (by simp), hw.below⟩
end Go.Proofs.YthnoaapghcadgaaDoor
/- Contracts: why a pod may not stand on a node. -/
namespace Go.Proofs.YthnoaapghcadgaaDoor
open Go.JW Go.RowKit
theorem fitsF_c (p : PodD) (n : NodeD) (ap ab am at_ : Option Addr) (lp lb lm lt cp cb cm ct : Nat) (c m : Int) (hc : I64 c) (hm : I64 m) (h1 : I64 p.cpu) (h2 : I64 p.mem) (w : World) :
    Calls Tryd.prog 72 #[.agg (List.toArray (podC p (.slice ap lp cp) (.slice ab lb cb))), .agg (List.toArray (nodeC n (.slice am lm cm) (.slice at_ lt ct))), .agg (List.toArray [.int .i64 c, .int .i64 m])] w fun e w' => e = .returned (.bool (fitP p n c m)) ∧ Below w.heap.size w w' := by
  refine RS.enter Tryd.func72 Tryd.ntmps72 rfl rfl ?_
  (repeat (first | refine RS.seq ?_ | refine RS.region ?_ | refine RS.regionQ ?_ (by kernel_rfl) (by kernel_rfl) | refine RS.skip ?_ | refine RS.inBlock ?_ | refine RS.block ?_ | refine RS.exit ?_)); refine box_ (v := .agg _) (cs := [_, _, _, _, _, _, _]) (fun b3 => ?_); refine box_ (v := .agg _) (cs := [_, _, _, _, _, _]) (fun b4 => ?_); refine box_ (v := .agg _) (cs := [_, _]) (fun b5 => ?_); refine asB ?_; refine LS.done ?_
  (repeat (first | refine RS.seq ?_ | refine RS.region ?_ | refine RS.regionQ ?_ (by kernel_rfl) (by kernel_rfl) | refine RS.skip ?_ | refine RS.inBlock ?_ | refine RS.block ?_ | refine RS.exit ?_)); refine ldA [_, _] ?_; refine fld ?_; refine ldA [_, _] ?_
  refine callP ?_ (hc := fun w' _ => add_c c m p.cpu p.mem hc hm h1 h2 w')
  refine mvT ?_; refine extr (v := _) ?_; refine extr (v := .int _ _) ?_; refine alloc_ (fun b7 => ?_); refine st (.agg _) _ ?_; refine asI ?_; refine LS.done ?_
  (repeat (first | refine RS.seq ?_ | refine RS.region ?_ | refine RS.regionQ ?_ (by kernel_rfl) (by kernel_rfl) | refine RS.skip ?_ | refine RS.inBlock ?_ | refine RS.block ?_ | refine RS.exit ?_)); refine mvI ?_; refine eqI ?_; refine mvB ?_
  refine LS.part 18 (fun g1 => ?_) (fun g1 => ?_)
  · simp only [decide_eq_true_eq] at g1
    refine LS.on ?_; refine ldA [_, _] ?_; refine LS.on ?_; refine fld ?_; refine LS.on ?_; refine ldA [_, _] ?_; refine LS.on ?_
    refine callP ?_ (hc := fun w' _ => fits_c _ _ _ _ w')
    refine pk (v := .bool _) ?_; refine asB ?_; refine LS.done ?_
    (repeat (first | refine RS.seq ?_ | refine RS.region ?_ | refine RS.regionQ ?_ (by kernel_rfl) (by kernel_rfl) | refine RS.skip ?_ | refine RS.inBlock ?_ | refine RS.block ?_ | refine RS.exit ?_)); refine RS.ret1 (v := .bool _) Tryd.func72 fun w hw => ?_
    exact ⟨retB (by unfold fitP; rw [decide_eq_true g1]; rfl), hw.below⟩
  · simp only [decide_eq_false_iff_not] at g1
    refine LS.off ?_; refine LS.off ?_; refine LS.off ?_; refine LS.off ?_; refine pk (v := .bool _) ?_; refine asB ?_; refine LS.done ?_
    (repeat (first | refine RS.seq ?_ | refine RS.region ?_ | refine RS.regionQ ?_ (by kernel_rfl) (by kernel_rfl) | refine RS.skip ?_ | refine RS.inBlock ?_ | refine RS.block ?_ | refine RS.exit ?_)); refine RS.ret1 (v := .bool _) Tryd.func72 fun w hw => ?_
    exact ⟨retB (by unfold fitP; rw [decide_eq_false g1]; rfl), hw.below⟩
theorem RowAt.alone {σ : PH} {b o : Nat} {l : List PlaceD} (h : RowAt σ b o l) (i : Nat) (hi : i < l.length) : σ.cell b (o + i * 5 + 4) = some (.bool l[i].alone) := (RowAt.place h i hi).1 4 (by decide)
theorem why_c (p : PodD) (n : NodeD) (ap ab am at_ : Option Addr) (cp cb cm ct : Nat) (c m : Int) (near : List PlaceD) (vn : Value) (hc : I64 c) (hm : I64 m) (w : World) (hp' : Rep.rep (hp w) (podC p (.slice ap p.picks.length cp) (.slice ab p.bears.length cb)) p) (hn : Rep.rep (hp w) (nodeC n (.slice am n.marks.length cm) (.slice at_ n.taints.length ct)) n) (hr : RepL (hp w) vn near) :
    Calls Tryd.prog 58 #[.agg (List.toArray (podC p (.slice ap p.picks.length cp) (.slice ab p.bears.length cb))), .agg (List.toArray (nodeC n (.slice am n.marks.length cm) (.slice at_ n.taints.length ct))), .agg (List.toArray [.int .i64 c, .int .i64 m]), vn] w fun e w' => e = .returned (.int .i64 (whyP p n c m near)) ∧ Below w.heap.size w w' := by
  obtain ⟨an, cn, rfl⟩ := hr.form
  have hlen : near.length ≤ 140737488355328 := hr.1
  obtain ⟨_, _, hcs, _, _, hp1, hp2, hpk, hpb⟩ := hp'
  simp only [podC, List.cons.injEq, true_and, and_true] at hcs
  obtain ⟨rfl, rfl⟩ := hcs
  obtain ⟨_, _, hcs, _, _, _, hnm, hnt⟩ := hn
  simp only [nodeC, List.cons.injEq, true_and, and_true] at hcs
  obtain ⟨rfl, rfl⟩ := hcs
  refine RS.enter Tryd.func58 Tryd.ntmps58 rfl rfl ?_
  (repeat (first | refine RS.seq ?_ | refine RS.region ?_ | refine RS.regionQ ?_ (by kernel_rfl) (by kernel_rfl) | refine RS.skip ?_ | refine RS.inBlock ?_ | refine RS.block ?_ | refine RS.exit ?_)); refine box_ (v := .agg _) (cs := [_, _, _, _, _, _, _]) (fun b4 => ?_); refine box_ (v := .agg _) (cs := [_, _, _, _, _, _]) (fun b5 => ?_); refine box_ (v := .agg _) (cs := [_, _]) (fun b6 => ?_); refine asI ?_; refine LS.done ?_
  (repeat (first | refine RS.seq ?_ | refine RS.region ?_ | refine RS.regionQ ?_ (by kernel_rfl) (by kernel_rfl) | refine RS.skip ?_ | refine RS.inBlock ?_ | refine RS.block ?_ | refine RS.exit ?_)); refine RS.scope ?_
  (repeat (first | refine RS.seq ?_ | refine RS.region ?_ | refine RS.regionQ ?_ (by kernel_rfl) (by kernel_rfl) | refine RS.skip ?_ | refine RS.inBlock ?_ | refine RS.block ?_ | refine RS.exit ?_)); refine asI ?_; refine LS.done ?_
  (repeat (first | refine RS.seq ?_ | refine RS.region ?_ | refine RS.regionQ ?_ (by kernel_rfl) (by kernel_rfl) | refine RS.skip ?_ | refine RS.inBlock ?_ | refine RS.block ?_ | refine RS.exit ?_)); refine fld ?_; refine ld1 (v := .bool _) ?_; refine LS.done ?_
  (repeat (first | refine RS.seq ?_ | refine RS.region ?_ | refine RS.regionQ ?_ (by kernel_rfl) (by kernel_rfl) | refine RS.skip ?_ | refine RS.inBlock ?_ | refine RS.block ?_ | refine RS.exit ?_))
  refine RS.cond (fun z1 => ?_) (fun z1 => ?_)
  · have e : whyP p n c m near = 1 := by rw [whyP, if_pos z1]
    refine RS.goto ?_
    (repeat (first | refine RS.seq ?_ | refine RS.region ?_ | refine RS.regionQ ?_ (by kernel_rfl) (by kernel_rfl) | refine RS.skip ?_ | refine RS.inBlock ?_ | refine RS.block ?_ | refine RS.exit ?_)); refine mvI ?_; refine asI ?_; refine LS.done ?_; (repeat (first | refine RS.seq ?_ | refine RS.region ?_ | refine RS.regionQ ?_ (by kernel_rfl) (by kernel_rfl) | refine RS.skip ?_ | refine RS.inBlock ?_ | refine RS.block ?_ | refine RS.exit ?_)); refine RS.ret1 (v := .int _ _) Tryd.func58 fun w hw => ?_
    exact ⟨by rw [e], hw.below⟩
  have z1 : ¬ n.closed = true := by rw [z1]; simp
  (repeat (first | refine RS.seq ?_ | refine RS.region ?_ | refine RS.regionQ ?_ (by kernel_rfl) (by kernel_rfl) | refine RS.skip ?_ | refine RS.inBlock ?_ | refine RS.block ?_ | refine RS.exit ?_)); refine asI ?_; refine LS.done ?_
  (repeat (first | refine RS.seq ?_ | refine RS.region ?_ | refine RS.regionQ ?_ (by kernel_rfl) (by kernel_rfl) | refine RS.skip ?_ | refine RS.inBlock ?_ | refine RS.block ?_ | refine RS.exit ?_)); refine fld ?_; refine ld1 (v := .slice _ _ _) ?_; refine fld ?_; refine ld1 (v := .slice _ _ _) ?_
  refine callP ?_ (hc := fun w' hw => all_c p.picks n.marks _ _ w' (hpk.mono hw.imm) (hnm.mono hw.imm))
  refine not_ ?_; refine LS.done ?_
  (repeat (first | refine RS.seq ?_ | refine RS.region ?_ | refine RS.regionQ ?_ (by kernel_rfl) (by kernel_rfl) | refine RS.skip ?_ | refine RS.inBlock ?_ | refine RS.block ?_ | refine RS.exit ?_))
  refine RS.cond (fun z2 => ?_) (fun z2 => ?_)
  · have z2 : allIn p.picks n.marks = false := by simpa using z2
    have e : whyP p n c m near = 2 := by rw [whyP, if_neg z1, if_pos z2]
    refine RS.goto ?_
    (repeat (first | refine RS.seq ?_ | refine RS.region ?_ | refine RS.regionQ ?_ (by kernel_rfl) (by kernel_rfl) | refine RS.skip ?_ | refine RS.inBlock ?_ | refine RS.block ?_ | refine RS.exit ?_)); refine mvI ?_; refine asI ?_; refine LS.done ?_; (repeat (first | refine RS.seq ?_ | refine RS.region ?_ | refine RS.regionQ ?_ (by kernel_rfl) (by kernel_rfl) | refine RS.skip ?_ | refine RS.inBlock ?_ | refine RS.block ?_ | refine RS.exit ?_)); refine RS.ret1 (v := .int _ _) Tryd.func58 fun w hw => ?_
    exact ⟨by rw [e], hw.below⟩
  have z2 : ¬ allIn p.picks n.marks = false := by simpa using z2
  (repeat (first | refine RS.seq ?_ | refine RS.region ?_ | refine RS.regionQ ?_ (by kernel_rfl) (by kernel_rfl) | refine RS.skip ?_ | refine RS.inBlock ?_ | refine RS.block ?_ | refine RS.exit ?_)); refine asI ?_; refine LS.done ?_
  (repeat (first | refine RS.seq ?_ | refine RS.region ?_ | refine RS.regionQ ?_ (by kernel_rfl) (by kernel_rfl) | refine RS.skip ?_ | refine RS.inBlock ?_ | refine RS.block ?_ | refine RS.exit ?_)); refine fld ?_; refine ld1 (v := .slice _ _ _) ?_; refine fld ?_; refine ld1 (v := .slice _ _ _) ?_
  refine callP ?_ (hc := fun w' hw => all_c n.taints p.bears _ _ w' (hnt.mono hw.imm) (hpb.mono hw.imm))
  refine not_ ?_; refine LS.done ?_
  (repeat (first | refine RS.seq ?_ | refine RS.region ?_ | refine RS.regionQ ?_ (by kernel_rfl) (by kernel_rfl) | refine RS.skip ?_ | refine RS.inBlock ?_ | refine RS.block ?_ | refine RS.exit ?_))
  refine RS.cond (fun z3 => ?_) (fun z3 => ?_)
  · have z3 : allIn n.taints p.bears = false := by simpa using z3
    have e : whyP p n c m near = 3 := by rw [whyP, if_neg z1, if_neg z2, if_pos z3]
    refine RS.goto ?_
    (repeat (first | refine RS.seq ?_ | refine RS.region ?_ | refine RS.regionQ ?_ (by kernel_rfl) (by kernel_rfl) | refine RS.skip ?_ | refine RS.inBlock ?_ | refine RS.block ?_ | refine RS.exit ?_)); refine mvI ?_; refine asI ?_; refine LS.done ?_; (repeat (first | refine RS.seq ?_ | refine RS.region ?_ | refine RS.regionQ ?_ (by kernel_rfl) (by kernel_rfl) | refine RS.skip ?_ | refine RS.inBlock ?_ | refine RS.block ?_ | refine RS.exit ?_)); refine RS.ret1 (v := .int _ _) Tryd.func58 fun w hw => ?_
    exact ⟨by rw [e], hw.below⟩
  have z3 : ¬ allIn n.taints p.bears = false := by simpa using z3
  (repeat (first | refine RS.seq ?_ | refine RS.region ?_ | refine RS.regionQ ?_ (by kernel_rfl) (by kernel_rfl) | refine RS.skip ?_ | refine RS.inBlock ?_ | refine RS.block ?_ | refine RS.exit ?_)); refine asI ?_; refine LS.done ?_
  (repeat (first | refine RS.seq ?_ | refine RS.region ?_ | refine RS.regionQ ?_ (by kernel_rfl) (by kernel_rfl) | refine RS.skip ?_ | refine RS.inBlock ?_ | refine RS.block ?_ | refine RS.exit ?_)); refine ldA [_, _, _, _, _, _, _] ?_; refine ldA [_, _, _, _, _, _] ?_; refine ldA [_, _] ?_
  refine callP ?_ (hc := fun w' _ => fitsF_c p n _ _ _ _ _ _ _ _ _ _ _ _ c m hc hm hp1 hp2 w')
  refine not_ ?_; refine LS.done ?_
  (repeat (first | refine RS.seq ?_ | refine RS.region ?_ | refine RS.regionQ ?_ (by kernel_rfl) (by kernel_rfl) | refine RS.skip ?_ | refine RS.inBlock ?_ | refine RS.block ?_ | refine RS.exit ?_))
  refine RS.cond (fun z4 => ?_) (fun z4 => ?_)
  · have z4 : fitP p n c m = false := by simpa using z4
    have e : whyP p n c m near = 4 := by rw [whyP, if_neg z1, if_neg z2, if_neg z3, if_pos z4]
    refine RS.goto ?_
    (repeat (first | refine RS.seq ?_ | refine RS.region ?_ | refine RS.regionQ ?_ (by kernel_rfl) (by kernel_rfl) | refine RS.skip ?_ | refine RS.inBlock ?_ | refine RS.block ?_ | refine RS.exit ?_)); refine mvI ?_; refine asI ?_; refine LS.done ?_; (repeat (first | refine RS.seq ?_ | refine RS.region ?_ | refine RS.regionQ ?_ (by kernel_rfl) (by kernel_rfl) | refine RS.skip ?_ | refine RS.inBlock ?_ | refine RS.block ?_ | refine RS.exit ?_)); refine RS.ret1 (v := .int _ _) Tryd.func58 fun w hw => ?_
    exact ⟨by rw [e], hw.below⟩
  have z4 : ¬ fitP p n c m = false := by simpa using z4
  (repeat (first | refine RS.seq ?_ | refine RS.region ?_ | refine RS.regionQ ?_ (by kernel_rfl) (by kernel_rfl) | refine RS.skip ?_ | refine RS.inBlock ?_ | refine RS.block ?_ | refine RS.exit ?_)); refine asI ?_; refine LS.done ?_
  (repeat (first | refine RS.seq ?_ | refine RS.region ?_ | refine RS.regionQ ?_ (by kernel_rfl) (by kernel_rfl) | refine RS.skip ?_ | refine RS.inBlock ?_ | refine RS.block ?_ | refine RS.exit ?_)); refine fld ?_; refine ld1 (v := .bool _) ?_; refine mvB ?_
  refine LS.cut 33 38 [(37, .bool (decide (p.alone = true ∧ 0 < near.length)))] (fun gg => ?_) (fun J => ?_)
  rotate_left
  · refine LS.part 33 (fun g1 => ?_) (fun g1 => ?_)
    · refine LS.on ?_; refine mvL ?_; refine LS.on ?_; refine lenL ?_; refine LS.on ?_; refine gtI ?_; refine pk (v := .bool _) ?_; refine LS.done ?_
      exact J ⟨boolV (decide_eq_decide.2 (by rw [g1]; simp)), trivial⟩ (by repeat (first | with_reducible exact Out.refl _ _ _ | exact Out.hv | refine Out.upd ?_ | refine Out.hvIn ?_))
    · refine LS.off ?_; refine LS.off ?_; refine LS.off ?_; refine pk (v := .bool _) ?_; refine LS.done ?_
      exact J ⟨boolV (by symm; exact decide_eq_false (by rw [g1]; simp)), trivial⟩ (by repeat (first | with_reducible exact Out.refl _ _ _ | exact Out.hv | refine Out.upd ?_ | refine Out.hvIn ?_))
  (repeat (first | refine RS.seq ?_ | refine RS.region ?_ | refine RS.regionQ ?_ (by kernel_rfl) (by kernel_rfl) | refine RS.skip ?_ | refine RS.inBlock ?_ | refine RS.block ?_ | refine RS.exit ?_))
  refine RS.cond (fun z5 => ?_) (fun z5 => ?_)
  · have z5 := of_decide_eq_true z5
    have e : whyP p n c m near = 5 := by rw [whyP, if_neg z1, if_neg z2, if_neg z3, if_neg z4, if_pos z5]
    refine RS.goto ?_
    (repeat (first | refine RS.seq ?_ | refine RS.region ?_ | refine RS.regionQ ?_ (by kernel_rfl) (by kernel_rfl) | refine RS.skip ?_ | refine RS.inBlock ?_ | refine RS.block ?_ | refine RS.exit ?_)); refine mvI ?_; refine asI ?_; refine LS.done ?_; (repeat (first | refine RS.seq ?_ | refine RS.region ?_ | refine RS.regionQ ?_ (by kernel_rfl) (by kernel_rfl) | refine RS.skip ?_ | refine RS.inBlock ?_ | refine RS.block ?_ | refine RS.exit ?_)); refine RS.ret1 (v := .int _ _) Tryd.func58 fun w hw => ?_
    exact ⟨by rw [e], hw.below⟩
  have z5 := of_decide_eq_false z5
  (repeat (first | refine RS.seq ?_ | refine RS.region ?_ | refine RS.regionQ ?_ (by kernel_rfl) (by kernel_rfl) | refine RS.skip ?_ | refine RS.inBlock ?_ | refine RS.block ?_ | refine RS.exit ?_)); refine asI ?_; refine LS.done ?_
  (repeat (first | refine RS.seq ?_ | refine RS.region ?_ | refine RS.regionQ ?_ (by kernel_rfl) (by kernel_rfl) | refine RS.skip ?_ | refine RS.inBlock ?_ | refine RS.block ?_ | refine RS.exit ?_)); refine mvL ?_; refine lenL ?_; refine mvI ?_; refine LS.done ?_
  (repeat (first | refine RS.seq ?_ | refine RS.region ?_ | refine RS.regionQ ?_ (by kernel_rfl) (by kernel_rfl) | refine RS.skip ?_ | refine RS.inBlock ?_ | refine RS.block ?_ | refine RS.exit ?_))
  refine RS.loopF (X := Nat × PH) 10 48 (fun x => x.1 ≤ near.length ∧ PH.le (hp w) x.2 ∧ (near.take x.1).any (·.alone) = false) (fun x => [(38, .slice an near.length cn), (39, .int .i64 near.length), (40, .int .i64 x.1)]) (fun x => x.2) (fun _ => []) (fun x => near.length - x.1) (0, hp w) ⟨Nat.zero_le _, PH.le_refl _, rfl⟩ ⟨rfl, rfl, rfl, trivial⟩ rfl inferInstance ?_
  rintro ⟨k, σ⟩ g2 ⟨(hk : k ≤ near.length), (hle : PH.le (hp w) σ), hany⟩ ih
  dsimp only at hany ⊢
  (repeat (first | refine RS.seq ?_ | refine RS.region ?_ | refine RS.regionQ ?_ (by kernel_rfl) (by kernel_rfl) | refine RS.skip ?_ | refine RS.inBlock ?_ | refine RS.block ?_ | refine RS.exit ?_)); refine ltI ?_; refine LS.done ?_
  (repeat (first | refine RS.seq ?_ | refine RS.region ?_ | refine RS.regionQ ?_ (by kernel_rfl) (by kernel_rfl) | refine RS.skip ?_ | refine RS.inBlock ?_ | refine RS.block ?_ | refine RS.exit ?_))
  by_cases hlt : k < near.length
  · refine RS.condT ?_ (h := by simp; omega)
    obtain ⟨b, o, rfl, hrow⟩ := hr.addr (List.ne_nil_of_length_pos (by omega))
    obtain ⟨x, hx⟩ : ∃ x, x = near[k] := ⟨_, rfl⟩
    have hcx := (RowAt.place hrow k hlt).1
    rw [← hx] at hcx
    (repeat (first | refine RS.seq ?_ | refine RS.region ?_ | refine RS.regionQ ?_ (by kernel_rfl) (by kernel_rfl) | refine RS.skip ?_ | refine RS.inBlock ?_ | refine RS.block ?_ | refine RS.exit ?_)); refine idx (i := k) ?_; refine ldSA (vs := placeC x) rfl (PH.cells_mono hle rfl hcx) ?_; refine alloc_ (fun b11 => ?_); refine st (.agg _) _ ?_; refine LS.done ?_
    (repeat (first | refine RS.seq ?_ | refine RS.region ?_ | refine RS.regionQ ?_ (by kernel_rfl) (by kernel_rfl) | refine RS.skip ?_ | refine RS.inBlock ?_ | refine RS.block ?_ | refine RS.exit ?_)); refine fld ?_; refine ld1 (v := .bool _) ?_; refine LS.done ?_
    (repeat (first | refine RS.seq ?_ | refine RS.region ?_ | refine RS.regionQ ?_ (by kernel_rfl) (by kernel_rfl) | refine RS.skip ?_ | refine RS.inBlock ?_ | refine RS.block ?_ | refine RS.exit ?_))
    refine RS.cond (fun z6 => ?_) (fun z6 => ?_)
    · have e : whyP p n c m near = 6 := by
        rw [whyP, if_neg z1, if_neg z2, if_neg z3, if_neg z4, if_neg z5, if_pos]
        rw [List.any_eq_true]; exact ⟨near[k], List.getElem_mem _, by rw [← hx]; exact z6⟩
      refine RS.goto ?_
      (repeat (first | refine RS.seq ?_ | refine RS.region ?_ | refine RS.regionQ ?_ (by kernel_rfl) (by kernel_rfl) | refine RS.skip ?_ | refine RS.inBlock ?_ | refine RS.block ?_ | refine RS.exit ?_)); refine mvI ?_; refine asI ?_; refine LS.done ?_; (repeat (first | refine RS.seq ?_ | refine RS.region ?_ | refine RS.regionQ ?_ (by kernel_rfl) (by kernel_rfl) | refine RS.skip ?_ | refine RS.inBlock ?_ | refine RS.block ?_ | refine RS.exit ?_)); refine RS.ret1 (v := .int _ _) Tryd.func58 fun w hw => ?_
      exact ⟨by rw [e], hw.below⟩
    · (repeat (first | refine RS.seq ?_ | refine RS.region ?_ | refine RS.regionQ ?_ (by kernel_rfl) (by kernel_rfl) | refine RS.skip ?_ | refine RS.inBlock ?_ | refine RS.block ?_ | refine RS.exit ?_)); (first | refine addN ?_ | refine addI ?_); refine mvI ?_; refine LS.done ?_; (repeat (first | refine RS.seq ?_ | refine RS.region ?_ | refine RS.regionQ ?_ (by kernel_rfl) (by kernel_rfl) | refine RS.skip ?_ | refine RS.inBlock ?_ | refine RS.block ?_ | refine RS.exit ?_))
      refine ih (k + 1, σ) ⟨hlt, hle, ?_⟩ (by (try dsimp only); omega) ⟨rfl, rfl, rfl, trivial⟩ (by repeat (first | with_reducible exact Out.refl _ _ _ | exact Out.hv | refine Out.upd ?_ | refine Out.hvIn ?_)) inferInstance rfl
      dsimp only
      rw [List.take_add_one, List.getElem?_eq_getElem hlt, List.any_append, hany, ← hx]
      simpa using z6
  · refine RS.condF ?_ (h := by simp; omega)
    obtain rfl : k = near.length := by omega
    rw [List.take_length] at hany
    have e : whyP p n c m near = 0 := by rw [whyP, if_neg z1, if_neg z2, if_neg z3, if_neg z4, if_neg z5, if_neg (by rw [hany]; simp)]
    (repeat (first | refine RS.seq ?_ | refine RS.region ?_ | refine RS.regionQ ?_ (by kernel_rfl) (by kernel_rfl) | refine RS.skip ?_ | refine RS.inBlock ?_ | refine RS.block ?_ | refine RS.exit ?_)); refine asI ?_; refine LS.done ?_
    (repeat (first | refine RS.seq ?_ | refine RS.region ?_ | refine RS.regionQ ?_ (by kernel_rfl) (by kernel_rfl) | refine RS.skip ?_ | refine RS.inBlock ?_ | refine RS.block ?_ | refine RS.exit ?_)); refine RS.label ?_
    (repeat (first | refine RS.seq ?_ | refine RS.region ?_ | refine RS.regionQ ?_ (by kernel_rfl) (by kernel_rfl) | refine RS.skip ?_ | refine RS.inBlock ?_ | refine RS.block ?_ | refine RS.exit ?_)); refine mvI ?_; refine asI ?_; refine LS.done ?_; (repeat (first | refine RS.seq ?_ | refine RS.region ?_ | refine RS.regionQ ?_ (by kernel_rfl) (by kernel_rfl) | refine RS.skip ?_ | refine RS.inBlock ?_ | refine RS.block ?_ | refine RS.exit ?_)); refine RS.ret1 (v := .int _ _) Tryd.func58 fun w hw => ?_
    exact ⟨by rw [e], hw.below⟩
end Go.Proofs.YthnoaapghcadgaaDoor
/- Contracts: how good a node is; which is best. -/
namespace Go.Proofs.YthnoaapghcadgaaDoor
open Go.JW Go.RowKit
theorem partP_in {most u n : Int} (h0 : 0 ≤ u) (h1 : 0 ≤ n) (h2 : u + n ≤ most) : 0 ≤ partP most u n ∧ partP most u n ≤ 100 := by
  unfold partP
  split
  · omega
  · have hm : 0 < most := by omega
    rw [Int.tdiv_eq_ediv_of_nonneg (by omega)]
    exact ⟨Int.ediv_nonneg (by omega) (by omega), Int.ediv_le_of_le_mul hm (by omega)⟩
theorem spart_c (most u n : Int) (h0 : 0 ≤ u) (h1 : 0 ≤ n) (h2 : u + n ≤ most) (h3 : most ≤ 1099511627776) (w : World) : Calls Tryd.prog 81 #[.int .i64 most, .int .i64 u, .int .i64 n] w fun e w' => e = .returned (.int .i64 (partP most u n)) ∧ Below w.heap.size w w' := by
  refine RS.enter Tryd.func81 Tryd.ntmps81 rfl rfl ?_
  (repeat (first | refine RS.seq ?_ | refine RS.region ?_ | refine RS.regionQ ?_ (by kernel_rfl) (by kernel_rfl) | refine RS.skip ?_ | refine RS.inBlock ?_ | refine RS.block ?_ | refine RS.exit ?_)); refine asI ?_; refine LS.done ?_
  (repeat (first | refine RS.seq ?_ | refine RS.region ?_ | refine RS.regionQ ?_ (by kernel_rfl) (by kernel_rfl) | refine RS.skip ?_ | refine RS.inBlock ?_ | refine RS.block ?_ | refine RS.exit ?_)); refine mvI ?_; refine eqI ?_; refine LS.done ?_
  (repeat (first | refine RS.seq ?_ | refine RS.region ?_ | refine RS.regionQ ?_ (by kernel_rfl) (by kernel_rfl) | refine RS.skip ?_ | refine RS.inBlock ?_ | refine RS.block ?_ | refine RS.exit ?_))
  refine RS.cond (fun z => ?_) (fun z => ?_)
  · simp only [decide_eq_true_eq] at z
    (repeat (first | refine RS.seq ?_ | refine RS.region ?_ | refine RS.regionQ ?_ (by kernel_rfl) (by kernel_rfl) | refine RS.skip ?_ | refine RS.inBlock ?_ | refine RS.block ?_ | refine RS.exit ?_)); refine asI ?_; refine LS.done ?_; (repeat (first | refine RS.seq ?_ | refine RS.region ?_ | refine RS.regionQ ?_ (by kernel_rfl) (by kernel_rfl) | refine RS.skip ?_ | refine RS.inBlock ?_ | refine RS.block ?_ | refine RS.exit ?_)); refine RS.ret1 (v := .int _ _) Tryd.func81 fun w hw => ?_
    exact ⟨by rw [partP, if_pos z], hw.below⟩
  · simp only [decide_eq_false_iff_not] at z
    (repeat (first | refine RS.seq ?_ | refine RS.region ?_ | refine RS.regionQ ?_ (by kernel_rfl) (by kernel_rfl) | refine RS.skip ?_ | refine RS.inBlock ?_ | refine RS.block ?_ | refine RS.exit ?_)); refine mvI ?_; refine mvI ?_; (first | refine subN ?_ | refine subI ?_); refine mvI ?_; (first | refine subN ?_ | refine subI ?_); refine mulI ?_; refine mvI ?_; refine quoI ?_; refine asI ?_; refine LS.done ?_; (repeat (first | refine RS.seq ?_ | refine RS.region ?_ | refine RS.regionQ ?_ (by kernel_rfl) (by kernel_rfl) | refine RS.skip ?_ | refine RS.inBlock ?_ | refine RS.block ?_ | refine RS.exit ?_)); refine RS.ret1 (v := .int _ _) Tryd.func81 fun w hw => ?_
    have e := partP_in h0 h1 h2
    rw [partP, if_neg z] at e
    exact ⟨by rw [partP, if_neg z, wrapEq (x := 100 * (most - u - n)) (by omega) (by omega), wrapEq (by omega) (by omega)], hw.below⟩
theorem sleft_c (c m u v p r : Int) (h0 : 0 ≤ u ∧ 0 ≤ v) (h1 : 0 ≤ p ∧ 0 ≤ r) (h2 : u + p ≤ c ∧ v + r ≤ m) (h3 : c ≤ 1099511627776 ∧ m ≤ 1099511627776) (w : World) : Calls Tryd.prog 73 #[.agg (List.toArray [.int .i64 c, .int .i64 m]), .agg (List.toArray [.int .i64 u, .int .i64 v]), .agg (List.toArray [.int .i64 p, .int .i64 r])] w fun e w' => e = .returned (.int .i64 (partP c u p + partP m v r)) ∧ Below w.heap.size w w' := by
  have e1 := partP_in h0.1 h1.1 h2.1
  have e2 := partP_in h0.2 h1.2 h2.2
  refine RS.enter Tryd.func73 Tryd.ntmps73 rfl rfl ?_
  (repeat (first | refine RS.seq ?_ | refine RS.region ?_ | refine RS.regionQ ?_ (by kernel_rfl) (by kernel_rfl) | refine RS.skip ?_ | refine RS.inBlock ?_ | refine RS.block ?_ | refine RS.exit ?_)); refine box_ (v := .agg _) (cs := [_, _]) (fun b3 => ?_); refine box_ (v := .agg _) (cs := [_, _]) (fun b4 => ?_); refine box_ (v := .agg _) (cs := [_, _]) (fun b5 => ?_); refine asI ?_; refine LS.done ?_
  (repeat (first | refine RS.seq ?_ | refine RS.region ?_ | refine RS.regionQ ?_ (by kernel_rfl) (by kernel_rfl) | refine RS.skip ?_ | refine RS.inBlock ?_ | refine RS.block ?_ | refine RS.exit ?_)); refine fld ?_; refine ld1 (v := .int _ _) ?_; refine fld ?_; refine ld1 (v := .int _ _) ?_; refine fld ?_; refine ld1 (v := .int _ _) ?_
  refine callP ?_ (hc := fun w _ => spart_c c u p h0.1 h1.1 h2.1 h3.1 w)
  refine fld ?_; refine ld1 (v := .int _ _) ?_; refine fld ?_; refine ld1 (v := .int _ _) ?_; refine fld ?_; refine ld1 (v := .int _ _) ?_
  refine callP ?_ (hc := fun w _ => spart_c m v r h0.2 h1.2 h2.2 h3.2 w)
  (first | refine addN ?_ | refine addI ?_); refine asI ?_; refine LS.done ?_
  (repeat (first | refine RS.seq ?_ | refine RS.region ?_ | refine RS.regionQ ?_ (by kernel_rfl) (by kernel_rfl) | refine RS.skip ?_ | refine RS.inBlock ?_ | refine RS.block ?_ | refine RS.exit ?_)); refine RS.ret1 (v := .int _ _) Tryd.func73 fun w hw => ?_
  exact ⟨rfl, hw.below⟩
/-- What scores are counted down from. -/
def TopsAt (σ : PH) : Prop := σ.cell 0 (0 + 0 * 1) = some (.int .i64 0) ∧ σ.cell 0 (0 + 1 * 1) = some (.int .i64 200) ∧ σ.cell 0 (0 + 2 * 1) = some (.int .i64 1000)
theorem TopsAt.mono {σ σ' : PH} (h : TopsAt σ) (hs : PH.le σ σ') : TopsAt σ' := ⟨PH.cell_mono hs h.1, PH.cell_mono hs h.2.1, PH.cell_mono hs h.2.2⟩
theorem score_c (mode c m u v p r pods : Int) (h0 : 0 ≤ u ∧ 0 ≤ v) (h1 : 0 ≤ p ∧ 0 ≤ r) (h2 : u + p ≤ c ∧ v + r ≤ m) (h3 : c ≤ 1099511627776 ∧ m ≤ 1099511627776) (h4 : 0 ≤ pods ∧ pods ≤ 1099511627776) (w : World) (hT : TopsAt (hp w)) :
    Calls Tryd.prog 59 #[.int .i64 mode, .agg (List.toArray [.int .i64 c, .int .i64 m]), .agg (List.toArray [.int .i64 u, .int .i64 v]), .agg (List.toArray [.int .i64 p, .int .i64 r]), .int .i64 pods] w fun e w' => e = .returned (.int .i64 (scoreP mode (partP c u p + partP m v r) pods)) ∧ Below w.heap.size w w' := by
  have e1 := partP_in h0.1 h1.1 h2.1
  have e2 := partP_in h0.2 h1.2 h2.2
  obtain ⟨t0, t1, t2⟩ := hT
  refine RS.enter Tryd.func59 Tryd.ntmps59 rfl rfl ?_
  (repeat (first | refine RS.seq ?_ | refine RS.region ?_ | refine RS.regionQ ?_ (by kernel_rfl) (by kernel_rfl) | refine RS.skip ?_ | refine RS.inBlock ?_ | refine RS.block ?_ | refine RS.exit ?_)); refine box_ (v := .agg _) (cs := [_, _]) (fun b6 => ?_); refine box_ (v := .agg _) (cs := [_, _]) (fun b7 => ?_); refine box_ (v := .agg _) (cs := [_, _]) (fun b8 => ?_); refine asI ?_; refine LS.done ?_
  (repeat (first | refine RS.seq ?_ | refine RS.region ?_ | refine RS.regionQ ?_ (by kernel_rfl) (by kernel_rfl) | refine RS.skip ?_ | refine RS.inBlock ?_ | refine RS.block ?_ | refine RS.exit ?_)); refine ldA [_, _] ?_; refine ldA [_, _] ?_; refine ldA [_, _] ?_
  refine callP ?_ (hc := fun w _ => sleft_c c m u v p r h0 h1 h2 h3 w)
  refine asI ?_; refine LS.done ?_
  (repeat (first | refine RS.seq ?_ | refine RS.region ?_ | refine RS.regionQ ?_ (by kernel_rfl) (by kernel_rfl) | refine RS.skip ?_ | refine RS.inBlock ?_ | refine RS.block ?_ | refine RS.exit ?_)); refine mvI ?_; refine LS.done ?_
  (repeat (first | refine RS.seq ?_ | refine RS.region ?_ | refine RS.regionQ ?_ (by kernel_rfl) (by kernel_rfl) | refine RS.skip ?_ | refine RS.inBlock ?_ | refine RS.block ?_ | refine RS.exit ?_)); refine eqI ?_; refine asB ?_; refine LS.done ?_
  (repeat (first | refine RS.seq ?_ | refine RS.region ?_ | refine RS.regionQ ?_ (by kernel_rfl) (by kernel_rfl) | refine RS.skip ?_ | refine RS.inBlock ?_ | refine RS.block ?_ | refine RS.exit ?_))
  refine RS.cond (fun z => ?_) (fun z => ?_)
  · have z : mode = 0 := of_decide_eq_true z
    subst z
    (repeat (first | refine RS.seq ?_ | refine RS.region ?_ | refine RS.regionQ ?_ (by kernel_rfl) (by kernel_rfl) | refine RS.skip ?_ | refine RS.inBlock ?_ | refine RS.block ?_ | refine RS.exit ?_)); refine mvI ?_; refine idxA (i := 0) ?_; refine ldS t0 ?_; refine mvI ?_; (first | refine addN ?_ | refine addI ?_); refine asI ?_; refine LS.done ?_
    (repeat (first | refine RS.seq ?_ | refine RS.region ?_ | refine RS.regionQ ?_ (by kernel_rfl) (by kernel_rfl) | refine RS.skip ?_ | refine RS.inBlock ?_ | refine RS.block ?_ | refine RS.exit ?_)); refine RS.ret1 (v := .int _ _) Tryd.func59 fun w hw => ?_
    exact ⟨by rw [scoreP, if_pos rfl], hw.below⟩
  have z : ¬ mode = 0 := of_decide_eq_false z
  (repeat (first | refine RS.seq ?_ | refine RS.region ?_ | refine RS.regionQ ?_ (by kernel_rfl) (by kernel_rfl) | refine RS.skip ?_ | refine RS.inBlock ?_ | refine RS.block ?_ | refine RS.exit ?_)); refine eqI ?_; refine asB ?_; refine LS.done ?_
  (repeat (first | refine RS.seq ?_ | refine RS.region ?_ | refine RS.regionQ ?_ (by kernel_rfl) (by kernel_rfl) | refine RS.skip ?_ | refine RS.inBlock ?_ | refine RS.block ?_ | refine RS.exit ?_))
  refine RS.cond (fun z1 => ?_) (fun z1 => ?_)
  · have z1 : mode = 1 := of_decide_eq_true z1
    subst z1
    (repeat (first | refine RS.seq ?_ | refine RS.region ?_ | refine RS.regionQ ?_ (by kernel_rfl) (by kernel_rfl) | refine RS.skip ?_ | refine RS.inBlock ?_ | refine RS.block ?_ | refine RS.exit ?_)); refine mvI ?_; refine idxA (i := 1) ?_; refine ldS t1 ?_; refine mvI ?_; (first | refine subN ?_ | refine subI ?_); refine asI ?_; refine LS.done ?_
    (repeat (first | refine RS.seq ?_ | refine RS.region ?_ | refine RS.regionQ ?_ (by kernel_rfl) (by kernel_rfl) | refine RS.skip ?_ | refine RS.inBlock ?_ | refine RS.block ?_ | refine RS.exit ?_)); refine RS.ret1 (v := .int _ _) Tryd.func59 fun w hw => ?_
    exact ⟨by rw [scoreP, if_neg z, if_pos rfl], hw.below⟩
  have z1 : ¬ mode = 1 := of_decide_eq_false z1
  (repeat (first | refine RS.seq ?_ | refine RS.region ?_ | refine RS.regionQ ?_ (by kernel_rfl) (by kernel_rfl) | refine RS.skip ?_ | refine RS.inBlock ?_ | refine RS.block ?_ | refine RS.exit ?_)); refine eqI ?_; refine asB ?_; refine LS.done ?_
  (repeat (first | refine RS.seq ?_ | refine RS.region ?_ | refine RS.regionQ ?_ (by kernel_rfl) (by kernel_rfl) | refine RS.skip ?_ | refine RS.inBlock ?_ | refine RS.block ?_ | refine RS.exit ?_))
  refine RS.cond (fun z2 => ?_) (fun z2 => ?_)
  · have z2 : mode = 2 := of_decide_eq_true z2
    subst z2
    (repeat (first | refine RS.seq ?_ | refine RS.region ?_ | refine RS.regionQ ?_ (by kernel_rfl) (by kernel_rfl) | refine RS.skip ?_ | refine RS.inBlock ?_ | refine RS.block ?_ | refine RS.exit ?_)); refine mvI ?_; refine idxA (i := 2) ?_; refine ldS t2 ?_; refine mvI ?_; (first | refine subN ?_ | refine subI ?_); refine asI ?_; refine LS.done ?_
    (repeat (first | refine RS.seq ?_ | refine RS.region ?_ | refine RS.regionQ ?_ (by kernel_rfl) (by kernel_rfl) | refine RS.skip ?_ | refine RS.inBlock ?_ | refine RS.block ?_ | refine RS.exit ?_)); refine RS.ret1 (v := .int _ _) Tryd.func59 fun w hw => ?_
    exact ⟨by rw [scoreP, if_neg z, if_neg z1, if_pos rfl], hw.below⟩
  have z2 : ¬ mode = 2 := of_decide_eq_false z2
  (repeat (first | refine RS.seq ?_ | refine RS.region ?_ | refine RS.regionQ ?_ (by kernel_rfl) (by kernel_rfl) | refine RS.skip ?_ | refine RS.inBlock ?_ | refine RS.block ?_ | refine RS.exit ?_)); refine asI ?_; refine LS.done ?_
  (repeat (first | refine RS.seq ?_ | refine RS.region ?_ | refine RS.regionQ ?_ (by kernel_rfl) (by kernel_rfl) | refine RS.skip ?_ | refine RS.inBlock ?_ | refine RS.block ?_ | refine RS.exit ?_)); refine RS.ret1 (v := .int _ _) Tryd.func59 fun w hw => ?_
  exact ⟨by rw [scoreP, if_neg z, if_neg z1, if_neg z2], hw.below⟩
end Go.Proofs.YthnoaapghcadgaaDoor
/- Contracts: which is best. -/
namespace Go.Proofs.YthnoaapghcadgaaDoor
open Go.JW Go.RowKit
theorem RepL.strAt {σ : PH} {a : Option Addr} {m cap : Nat} {l : List ByteArray} (h : RepL σ (.slice a m cap) l) {b o : Nat} (ha : a = some ⟨b, o, none⟩) (i : Nat) (hi : i < l.length) : σ.cell b (o + i * 1) = some (.string (l.getD i ⟨#[]⟩)) := by
  obtain ⟨b', o', e, hrow⟩ := h.addr (fun h => by simp [h] at hi)
  rw [ha] at e
  obtain ⟨rfl, rfl⟩ : b = b' ∧ o = o' := by injection e with e; injection e with e1 e2; exact ⟨e1, e2⟩
  rw [getD_of hi]; exact (hrow.str i hi).1
theorem RepL.intAt {σ : PH} {a : Option Addr} {m cap : Nat} {l : List Int} (h : RepL σ (.slice a m cap) l) {b o : Nat} (ha : a = some ⟨b, o, none⟩) (i : Nat) (hi : i < l.length) : σ.cell b (o + i * 1) = some (.int .i64 (l.getD i 0)) := by
  obtain ⟨b', o', e, hrow⟩ := h.addr (fun h => by simp [h] at hi)
  rw [ha] at e
  obtain ⟨rfl, rfl⟩ : b = b' ∧ o = o' := by injection e with e; injection e with e1 e2; exact ⟨e1, e2⟩
  have : l.getD i 0 = l[i] := by simp [List.getD_eq_getElem?_getD, hi]
  rw [this]; exact (hrow.int i hi).1
theorem best_c (ns : List ByteArray) (ss : List Int) (vn vs : Value) (w : World) (hn : RepL (hp w) vn ns) (hs : RepL (hp w) vs ss) (hl : ns.length = ss.length) :
    Calls Tryd.prog 60 #[vn, vs] w fun e w' => e = .returned (.int .i64 (bestTo ns ss ss.length)) ∧ Below w.heap.size w w' := by
  obtain ⟨an, cn, rfl⟩ := hn.form
  obtain ⟨as_, cs, rfl⟩ := hs.form
  have hlen : ss.length ≤ 140737488355328 := hs.1
  refine RS.enter Tryd.func60 Tryd.ntmps60 rfl rfl ?_
  (repeat (first | refine RS.seq ?_ | refine RS.region ?_ | refine RS.regionQ ?_ (by kernel_rfl) (by kernel_rfl) | refine RS.skip ?_ | refine RS.inBlock ?_ | refine RS.block ?_ | refine RS.exit ?_)); refine asI ?_; refine LS.done ?_
  (repeat (first | refine RS.seq ?_ | refine RS.region ?_ | refine RS.regionQ ?_ (by kernel_rfl) (by kernel_rfl) | refine RS.skip ?_ | refine RS.inBlock ?_ | refine RS.block ?_ | refine RS.exit ?_)); refine asI ?_; refine LS.done ?_
  (repeat (first | refine RS.seq ?_ | refine RS.region ?_ | refine RS.regionQ ?_ (by kernel_rfl) (by kernel_rfl) | refine RS.skip ?_ | refine RS.inBlock ?_ | refine RS.block ?_ | refine RS.exit ?_)); refine mvL ?_; refine lenL ?_; refine mvI ?_; refine LS.done ?_
  (repeat (first | refine RS.seq ?_ | refine RS.region ?_ | refine RS.regionQ ?_ (by kernel_rfl) (by kernel_rfl) | refine RS.skip ?_ | refine RS.inBlock ?_ | refine RS.block ?_ | refine RS.exit ?_))
  refine RS.loopF (X := Nat) 5 51 (fun x => x ≤ ss.length) (fun x => [(5, .int .i64 (bestTo ns ss x)), (8, .slice as_ ss.length cs), (9, .int .i64 ss.length), (10, .int .i64 x)]) (fun _ => hp w) (fun _ => []) (fun x => ss.length - x) 0 (Nat.zero_le _) ⟨rfl, rfl, rfl, rfl, trivial⟩ rfl inferInstance ?_
  rintro k g hk ih
  (repeat (first | refine RS.seq ?_ | refine RS.region ?_ | refine RS.regionQ ?_ (by kernel_rfl) (by kernel_rfl) | refine RS.skip ?_ | refine RS.inBlock ?_ | refine RS.block ?_ | refine RS.exit ?_)); refine ltI ?_; refine LS.done ?_
  (repeat (first | refine RS.seq ?_ | refine RS.region ?_ | refine RS.regionQ ?_ (by kernel_rfl) (by kernel_rfl) | refine RS.skip ?_ | refine RS.inBlock ?_ | refine RS.block ?_ | refine RS.exit ?_))
  by_cases hlt : k < ss.length
  · refine RS.condT ?_ (h := by simp; omega)
    obtain ⟨bs, os, rfl, _⟩ := hs.addr (List.ne_nil_of_length_pos (by omega))
    obtain ⟨bn, on, rfl, _⟩ := hn.addr (List.ne_nil_of_length_pos (by omega))
    have hb := bestTo_in ns ss k
    (repeat (first | refine RS.seq ?_ | refine RS.region ?_ | refine RS.regionQ ?_ (by kernel_rfl) (by kernel_rfl) | refine RS.skip ?_ | refine RS.inBlock ?_ | refine RS.block ?_ | refine RS.exit ?_)); refine mvI ?_; refine idx (i := k) ?_; refine ldS (RepL.intAt hs rfl k hlt) ?_; refine asI ?_; refine asI ?_; refine LS.done ?_
    (repeat (first | refine RS.seq ?_ | refine RS.region ?_ | refine RS.regionQ ?_ (by kernel_rfl) (by kernel_rfl) | refine RS.skip ?_ | refine RS.inBlock ?_ | refine RS.block ?_ | refine RS.exit ?_)); refine mvI ?_; refine mvL ?_; refine lenL ?_; refine geI ?_; refine LS.done ?_
    (repeat (first | refine RS.seq ?_ | refine RS.region ?_ | refine RS.regionQ ?_ (by kernel_rfl) (by kernel_rfl) | refine RS.skip ?_ | refine RS.inBlock ?_ | refine RS.block ?_ | refine RS.exit ?_))
    refine RS.condF ?_ (h := by simp; omega)
    (repeat (first | refine RS.seq ?_ | refine RS.region ?_ | refine RS.regionQ ?_ (by kernel_rfl) (by kernel_rfl) | refine RS.skip ?_ | refine RS.inBlock ?_ | refine RS.block ?_ | refine RS.exit ?_)); refine mvI ?_; refine ltI ?_; refine mvB ?_
    obtain ⟨B, hB⟩ : ∃ B, B = bestTo ns ss k := ⟨_, rfl⟩
    rw [← hB] at hb ⊢
    refine LS.cut 21 48 [(47, .bool (decide (B < 0 ∨ ss.getD B.toNat 0 < ss.getD k 0 ∨ (ss.getD k 0 = ss.getD B.toNat 0 ∧ sLt (ns.getD k ⟨#[]⟩) (ns.getD B.toNat ⟨#[]⟩) = true))))] (fun gg => ?_) (fun J => ?_)
    rotate_left
    · refine LS.part 21 (fun g1 => ?_) (fun g1 => ?_)
      · have g1 : B < 0 := of_decide_eq_true g1
        refine LS.off ?_; refine LS.off ?_; refine LS.off ?_; refine LS.off ?_; refine LS.off ?_; refine LS.off ?_; refine pk (v := .bool _) ?_; refine mvB ?_; refine LS.off ?_; refine LS.off ?_; refine LS.off ?_; refine LS.off ?_; refine LS.off ?_; refine LS.off ?_; refine LS.off ?_; refine LS.offU ?_; refine LS.offU ?_; refine LS.offU ?_; refine LS.offU ?_; refine LS.offU ?_; refine LS.offU ?_; refine LS.offU ?_; refine LS.offU ?_; refine LS.offU ?_; refine LS.off ?_; refine pk (v := .bool _) ?_; refine LS.done ?_
        exact J ⟨boolV (by rw [decide_eq_true (.inl g1)]), trivial⟩ (by repeat (first | with_reducible exact Out.refl _ _ _ | exact Out.hv | refine Out.upd ?_ | refine Out.hvIn ?_))
      · have g1 : ¬ B < 0 := of_decide_eq_false g1
        refine LS.on ?_; refine mvI ?_; refine LS.on ?_; refine mvL ?_; refine LS.on ?_; refine mvI ?_; refine LS.on ?_; refine idx (i := B.toNat) ?_ (hj := by omega); refine LS.on ?_; refine ldS (RepL.intAt hs rfl B.toNat (by omega)) ?_; refine LS.on ?_; refine gtI ?_; refine pk (v := .bool _) ?_; refine mvB ?_
        refine LS.part 29 (fun g2 => ?_) (fun g2 => ?_)
        · have g2 : ss.getD B.toNat 0 < ss.getD k 0 := of_decide_eq_true g2
          refine LS.off ?_; refine LS.off ?_; refine LS.off ?_; refine LS.off ?_; refine LS.off ?_; refine LS.off ?_; refine LS.off ?_; refine LS.offU ?_; refine LS.offU ?_; refine LS.offU ?_; refine LS.offU ?_; refine LS.offU ?_; refine LS.offU ?_; refine LS.offU ?_; refine LS.offU ?_; refine LS.offU ?_; refine LS.off ?_; refine pk (v := .bool _) ?_; refine LS.done ?_
          exact J ⟨boolV (by rw [decide_eq_true (.inr (.inl g2))]), trivial⟩ (by repeat (first | with_reducible exact Out.refl _ _ _ | exact Out.hv | refine Out.upd ?_ | refine Out.hvIn ?_))
        · have g2 : ¬ ss.getD B.toNat 0 < ss.getD k 0 := of_decide_eq_false g2
          refine LS.on ?_; refine mvI ?_; refine LS.on ?_; refine mvL ?_; refine LS.on ?_; refine mvI ?_; refine LS.on ?_; refine idx (i := B.toNat) ?_ (hj := by omega); refine LS.on ?_; refine ldS (RepL.intAt hs rfl B.toNat (by omega)) ?_; refine LS.on ?_; refine eqI ?_; refine LS.on ?_; refine mvB ?_
          refine LS.part 36 (fun g3 => ?_) (fun g3 => ?_)
          · have g3 : ss.getD k 0 = ss.getD B.toNat 0 := of_decide_eq_true g3
            refine LS.on ?_; refine mvL ?_; refine LS.on ?_; refine mvI ?_; refine LS.on ?_; refine idx (i := k) ?_; refine LS.on ?_; refine ldS (RepL.strAt hn rfl k (by omega)) ?_; refine LS.on ?_; refine mvL ?_; refine LS.on ?_; refine mvI ?_; refine LS.on ?_; refine idx (i := B.toNat) ?_ (hj := by omega); refine LS.on ?_; refine ldS (RepL.strAt hn rfl B.toNat (by omega)) ?_; refine LS.on ?_; refine ltS ?_; refine LS.on ?_; refine pk (v := .bool _) ?_; refine pk (v := .bool _) ?_; refine LS.done ?_
            refine J ⟨boolV ?_, trivial⟩ (by repeat (first | with_reducible exact Out.refl _ _ _ | exact Out.hv | refine Out.upd ?_ | refine Out.hvIn ?_))
            rw [Bool.eq_iff_iff, decide_eq_true_eq]
            exact ⟨fun h => .inr (.inr ⟨g3, h⟩), fun h => by
              rcases h with h | h | h
              · exact absurd h g1
              · exact absurd h g2
              · exact h.2⟩
          · have g3 : ¬ ss.getD k 0 = ss.getD B.toNat 0 := of_decide_eq_false g3
            refine LS.off ?_; refine LS.off ?_; refine LS.off ?_; refine LS.off ?_; refine LS.off ?_; refine LS.off ?_; refine LS.off ?_; refine LS.off ?_; refine LS.off ?_; refine LS.on ?_; refine pk (v := .bool _) ?_; refine pk (v := .bool _) ?_; refine LS.done ?_
            refine J ⟨boolV ?_, trivial⟩ (by repeat (first | with_reducible exact Out.refl _ _ _ | exact Out.hv | refine Out.upd ?_ | refine Out.hvIn ?_))
            symm
            refine decide_eq_false fun h => ?_
            rcases h with h | h | h
            · exact g1 h
            · exact g2 h
            · exact g3 h.1
    (repeat (first | refine RS.seq ?_ | refine RS.region ?_ | refine RS.regionQ ?_ (by kernel_rfl) (by kernel_rfl) | refine RS.skip ?_ | refine RS.inBlock ?_ | refine RS.block ?_ | refine RS.exit ?_))
    refine RS.cond (fun z => ?_) (fun z => ?_)
    · have z := of_decide_eq_true z
      (repeat (first | refine RS.seq ?_ | refine RS.region ?_ | refine RS.regionQ ?_ (by kernel_rfl) (by kernel_rfl) | refine RS.skip ?_ | refine RS.inBlock ?_ | refine RS.block ?_ | refine RS.exit ?_)); refine mvI ?_; refine asI ?_; refine LS.done ?_
      (repeat (first | refine RS.seq ?_ | refine RS.region ?_ | refine RS.regionQ ?_ (by kernel_rfl) (by kernel_rfl) | refine RS.skip ?_ | refine RS.inBlock ?_ | refine RS.block ?_ | refine RS.exit ?_)); (first | refine addN ?_ | refine addI ?_); refine mvI ?_; refine LS.done ?_; (repeat (first | refine RS.seq ?_ | refine RS.region ?_ | refine RS.regionQ ?_ (by kernel_rfl) (by kernel_rfl) | refine RS.skip ?_ | refine RS.inBlock ?_ | refine RS.block ?_ | refine RS.exit ?_))
      refine ih (k + 1) hlt (by omega) ⟨?_, rfl, rfl, rfl, trivial⟩ (by repeat (first | with_reducible exact Out.refl _ _ _ | exact Out.hv | refine Out.upd ?_ | refine Out.hvIn ?_)) inferInstance rfl
      rw [bestTo, ← hB, if_pos z]; rfl
    · have z := of_decide_eq_false z
      (repeat (first | refine RS.seq ?_ | refine RS.region ?_ | refine RS.regionQ ?_ (by kernel_rfl) (by kernel_rfl) | refine RS.skip ?_ | refine RS.inBlock ?_ | refine RS.block ?_ | refine RS.exit ?_)); (first | refine addN ?_ | refine addI ?_); refine mvI ?_; refine LS.done ?_; (repeat (first | refine RS.seq ?_ | refine RS.region ?_ | refine RS.regionQ ?_ (by kernel_rfl) (by kernel_rfl) | refine RS.skip ?_ | refine RS.inBlock ?_ | refine RS.block ?_ | refine RS.exit ?_))
      refine ih (k + 1) hlt (by omega) ⟨?_, rfl, rfl, rfl, trivial⟩ (by repeat (first | with_reducible exact Out.refl _ _ _ | exact Out.hv | refine Out.upd ?_ | refine Out.hvIn ?_)) inferInstance rfl
      rw [bestTo, ← hB, if_neg z]; rfl
  · refine RS.condF ?_ (h := by simp; omega)
    obtain rfl : k = ss.length := by omega
    (repeat (first | refine RS.seq ?_ | refine RS.region ?_ | refine RS.regionQ ?_ (by kernel_rfl) (by kernel_rfl) | refine RS.skip ?_ | refine RS.inBlock ?_ | refine RS.block ?_ | refine RS.exit ?_)); refine mvI ?_; refine asI ?_; refine LS.done ?_; (repeat (first | refine RS.seq ?_ | refine RS.region ?_ | refine RS.regionQ ?_ (by kernel_rfl) (by kernel_rfl) | refine RS.skip ?_ | refine RS.inBlock ?_ | refine RS.block ?_ | refine RS.exit ?_)); refine RS.ret1 (v := .int _ _) Tryd.func60 fun w hw => ?_
    exact ⟨rfl, hw.below⟩
end Go.Proofs.YthnoaapghcadgaaDoor
/- Contracts: a ledger, and places beside it. -/
namespace Go.Proofs.YthnoaapghcadgaaDoor
open Go.JW Go.RowKit
theorem near_take {own : List PlaceD} {nm : ByteArray} {k : Nat} (hk : k < own.length) : nearP (own.take (k + 1)) nm = nearP (own.take k) nm ++ (if own[k].node = nm then [own[k]] else []) := by
  unfold nearP
  rw [List.take_add_one, List.getElem?_eq_getElem hk, List.filter_append]
  congr 1
  by_cases h : own[k].node = nm <;> simp [h]
theorem near_c (bs bl : Nat) (vO : Value) (own : List PlaceD) (n : NodeD) (am at_ : Option Addr) (lm lt cm ct : Nat) (w : World) (hb : w.heap[bs]? = some (.cells (List.toArray [.pointer (some ⟨bl, 0, none⟩), vO]) 68 (0, 0))) (hr : RepL (hp w) vO own) (hl : own.length ≤ 1000) :
    Calls Tryd.prog 119 #[.pointer (some ⟨bs, 0, none⟩), .agg (List.toArray (nodeC n (.slice am lm cm) (.slice at_ lt ct)))] w fun e w' => ∃ v, e = .returned v ∧ Below w.heap.size w w' ∧ RepL (since w w') v (nearP own n.name) := by
  obtain ⟨a, c, hv⟩ := hr.form
  have hcell : (hp w).cell bs (0 + 1) = some (.slice a own.length c) := by simp [PH.cell, hp, hb, hv]
  rw [hv] at hr
  refine RS.enter Tryd.func119 Tryd.ntmps119 rfl rfl ?_
  (repeat (first | refine RS.seq ?_ | refine RS.region ?_ | refine RS.regionQ ?_ (by kernel_rfl) (by kernel_rfl) | refine RS.skip ?_ | refine RS.inBlock ?_ | refine RS.block ?_ | refine RS.exit ?_)); refine box_ (v := .agg _) (cs := [_, _, _, _, _, _]) (fun b3 => ?_); refine asL ?_; refine LS.done ?_
  (repeat (first | refine RS.seq ?_ | refine RS.region ?_ | refine RS.regionQ ?_ (by kernel_rfl) (by kernel_rfl) | refine RS.skip ?_ | refine RS.inBlock ?_ | refine RS.block ?_ | refine RS.exit ?_)); refine asL ?_; refine LS.done ?_
  refine RS.nilD w.heap.size PlaceD 41 ?_
  (repeat (first | refine RS.seq ?_ | refine RS.region ?_ | refine RS.regionQ ?_ (by kernel_rfl) (by kernel_rfl) | refine RS.skip ?_ | refine RS.inBlock ?_ | refine RS.block ?_ | refine RS.exit ?_)); refine mvP ?_; refine nilck ?_; refine fld ?_; refine ldS hcell ?_; refine lenL ?_; refine mvI ?_; refine LS.done ?_
  (repeat (first | refine RS.seq ?_ | refine RS.region ?_ | refine RS.regionQ ?_ (by kernel_rfl) (by kernel_rfl) | refine RS.skip ?_ | refine RS.inBlock ?_ | refine RS.block ?_ | refine RS.exit ?_))
  refine RS.loopF (X := Nat × Value × PH) 5 28 (fun x => x.1 ≤ own.length ∧ PH.le (hp w) x.2.2) (fun x => [(5, x.2.1), (11, .slice a own.length c), (12, .int .i64 own.length), (13, .int .i64 x.1)]) (fun x => x.2.2) (fun x => [rowD w.heap.size 41 x.2.1 (nearP (own.take x.1) n.name), blk b3 (.cells (List.toArray (nodeC n (.slice am lm cm) (.slice at_ lt ct))) 33 (0, 0))]) (fun x => own.length - x.1) (0, .slice none 0 0, hp w) ⟨Nat.zero_le _, PH.le_refl _⟩ ⟨rfl, rfl, rfl, rfl, trivial⟩ rfl ⟨fun h => h⟩ ?_
  rintro ⟨k, v, σ⟩ g ⟨(hk : k ≤ own.length), (hle : PH.le (hp w) σ)⟩ ih
  dsimp only
  (repeat (first | refine RS.seq ?_ | refine RS.region ?_ | refine RS.regionQ ?_ (by kernel_rfl) (by kernel_rfl) | refine RS.skip ?_ | refine RS.inBlock ?_ | refine RS.block ?_ | refine RS.exit ?_)); refine ltI ?_; refine LS.done ?_
  (repeat (first | refine RS.seq ?_ | refine RS.region ?_ | refine RS.regionQ ?_ (by kernel_rfl) (by kernel_rfl) | refine RS.skip ?_ | refine RS.inBlock ?_ | refine RS.block ?_ | refine RS.exit ?_))
  by_cases hlt : k < own.length
  · refine RS.condT ?_ (h := by simp; omega)
    obtain ⟨b, o, rfl, hrow⟩ := hr.addr (List.ne_nil_of_length_pos (by omega))
    obtain ⟨hcx, h64⟩ := RowAt.place hrow k hlt
    have hrx : Rep.rep (fromN w.heap.size σ) (placeC own[k]) own[k] := by
      obtain ⟨vs, hc1, hc2⟩ := hrow k hlt
      obtain ⟨_, h2⟩ := hc2
      exact ⟨rfl, h2⟩
    have hnt := near_take (nm := n.name) hlt
    have hnl : (nearP (own.take k) n.name).length ≤ k := by
      have := List.length_filter_le (fun p : PlaceD => decide (p.node = n.name)) (own.take k)
      rw [List.length_take] at this
      unfold nearP; omega
    obtain ⟨x, hx⟩ : ∃ x, x = own[k] := ⟨_, rfl⟩
    rw [← hx] at hcx hnt hrx
    (repeat (first | refine RS.seq ?_ | refine RS.region ?_ | refine RS.regionQ ?_ (by kernel_rfl) (by kernel_rfl) | refine RS.skip ?_ | refine RS.inBlock ?_ | refine RS.block ?_ | refine RS.exit ?_)); refine idx (i := k) ?_; refine ldSA (vs := placeC x) rfl (PH.cells_mono hle rfl hcx) ?_; refine alloc_ (fun b7 => ?_); refine st (.agg _) _ ?_; refine LS.done ?_
    (repeat (first | refine RS.seq ?_ | refine RS.region ?_ | refine RS.regionQ ?_ (by kernel_rfl) (by kernel_rfl) | refine RS.skip ?_ | refine RS.inBlock ?_ | refine RS.block ?_ | refine RS.exit ?_)); refine fld ?_; refine ld1 (v := .string _) ?_; refine fld ?_; refine ld1 (v := .string _) ?_; refine eqS ?_; refine LS.done ?_
    (repeat (first | refine RS.seq ?_ | refine RS.region ?_ | refine RS.regionQ ?_ (by kernel_rfl) (by kernel_rfl) | refine RS.skip ?_ | refine RS.inBlock ?_ | refine RS.block ?_ | refine RS.exit ?_))
    refine RS.cond (fun z => ?_) (fun z => ?_)
    · have z := of_decide_eq_true z
      rw [if_pos z] at hnt
      (repeat (first | refine RS.seq ?_ | refine RS.region ?_ | refine RS.regionQ ?_ (by kernel_rfl) (by kernel_rfl) | refine RS.skip ?_ | refine RS.inBlock ?_ | refine RS.block ?_ | refine RS.exit ?_)); refine mv (v := v) ?_; refine ldA [_, _, _, _, _] ?_; refine bldS [.agg (List.toArray (placeC x))] (placeC x) (fun b24 => ?_); refine appD (v := v) (l' := [x]) (vy := .slice (some ⟨b24, 0, none⟩) 1 1) (fun w' hw => ⟨_, srcB hw TSlice.eq, CellsL.one_ hrx⟩) (fun v25 => ?_) (hb := by simp; omega) (hm := by simp; omega); refine as_ (v := v25) ?_; refine LS.done ?_
      (repeat (first | refine RS.seq ?_ | refine RS.region ?_ | refine RS.regionQ ?_ (by kernel_rfl) (by kernel_rfl) | refine RS.skip ?_ | refine RS.inBlock ?_ | refine RS.block ?_ | refine RS.exit ?_)); (first | refine addN ?_ | refine addI ?_); refine mvI ?_; refine LS.done ?_; (repeat (first | refine RS.seq ?_ | refine RS.region ?_ | refine RS.regionQ ?_ (by kernel_rfl) (by kernel_rfl) | refine RS.skip ?_ | refine RS.inBlock ?_ | refine RS.block ?_ | refine RS.exit ?_))
      exact ih (k + 1, v25, σ) ⟨hlt, hle⟩ (by (try dsimp only); omega) ⟨rfl, rfl, rfl, rfl, trivial⟩ (by repeat (first | with_reducible exact Out.refl _ _ _ | exact Out.hv | refine Out.upd ?_ | refine Out.hvIn ?_)) ⟨fun h => by dsimp only; rw [hnt]; exact h.tail.tail⟩ rfl
    · have z := of_decide_eq_false z
      rw [if_neg z, List.append_nil] at hnt
      (repeat (first | refine RS.seq ?_ | refine RS.region ?_ | refine RS.regionQ ?_ (by kernel_rfl) (by kernel_rfl) | refine RS.skip ?_ | refine RS.inBlock ?_ | refine RS.block ?_ | refine RS.exit ?_)); (first | refine addN ?_ | refine addI ?_); refine mvI ?_; refine LS.done ?_; (repeat (first | refine RS.seq ?_ | refine RS.region ?_ | refine RS.regionQ ?_ (by kernel_rfl) (by kernel_rfl) | refine RS.skip ?_ | refine RS.inBlock ?_ | refine RS.block ?_ | refine RS.exit ?_))
      exact ih (k + 1, v, σ) ⟨hlt, hle⟩ (by (try dsimp only); omega) ⟨rfl, rfl, rfl, rfl, trivial⟩ (by repeat (first | with_reducible exact Out.refl _ _ _ | exact Out.hv | refine Out.upd ?_ | refine Out.hvIn ?_)) ⟨fun h => by dsimp only; rw [hnt]; exact h.tail⟩ rfl
  · refine RS.condF ?_ (h := by simp; omega)
    obtain rfl : k = own.length := by omega
    rw [List.take_length]
    have hnl : (nearP own n.name).length ≤ own.length := List.length_filter_le _ _
    (repeat (first | refine RS.seq ?_ | refine RS.region ?_ | refine RS.regionQ ?_ (by kernel_rfl) (by kernel_rfl) | refine RS.skip ?_ | refine RS.inBlock ?_ | refine RS.block ?_ | refine RS.exit ?_)); refine mv (v := v) ?_; refine as_ (v := v) ?_; refine LS.done ?_
    (repeat (first | refine RS.seq ?_ | refine RS.region ?_ | refine RS.regionQ ?_ (by kernel_rfl) (by kernel_rfl) | refine RS.skip ?_ | refine RS.inBlock ?_ | refine RS.block ?_ | refine RS.exit ?_))
    refine RS.formD (l := nearP own n.name) v (fun av cv ev _ => ?_); subst ev
    refine RS.ret1 (v := .slice _ _ _) Tryd.func119 fun w hw => ?_
    exact ⟨_, rfl, hw.below, hw.rowNewD (l := nearP own n.name) (Nat.le_refl _) (by omega)⟩
theorem need_near (f : PlaceD → Int) (own : List PlaceD) (nm : ByteArray) : needF f nm (nearP own nm) = needF f nm own := by
  induction own with
  | nil => rfl
  | cons p own ih =>
    unfold nearP needF at ih ⊢
    by_cases h : p.node = nm
    · simp [h, ih]
    · simp [h, ih]
theorem near_mem {own : List PlaceD} {nm : ByteArray} {p : PlaceD} (h : p ∈ nearP own nm) : p ∈ own ∧ p.node = nm := by
  obtain ⟨h1, h2⟩ := List.mem_filter.1 h
  exact ⟨h1, of_decide_eq_true h2⟩
theorem usedW_c {w0 w : World} {M : Nat → Prop} {σ : PH} {K K' : List HP} {bl : Nat} {S : LedD} {put : HP → List HP} (nm : ByteArray) {kk : Nat} (hi : LedInv S kk) (hk : kk ≤ 1000000) (hw : Sat w0 M σ K w) (hf : FindL bl K S put K') :
    Calls Tryd.prog 15 #[.pointer (some ⟨bl, 0, none⟩), .string nm] w fun e w' => e = .returned (.tuple #[.agg (List.toArray [.int .i64 (usedC S.taken nm), .int .i64 (usedM S.taken nm)]), .int .i64 (usedN S.taken nm)]) ∧ Below w.heap.size w w' := by
  obtain ⟨b1, b2, es1, c1, es2, c2, h1, h2, hs⟩ := openLed (hw.weak fun _ => hf.get)
  exact Calls.ofState [(bl, .cells (List.toArray [.map (some b1), .map (some b2)]) 55 (0, 0)), (b1, .map es1 c1), (b2, .map es2 c2)] hs (fun _ h => h) fun _ _ hle hs' =>
    (usedT_c (K := []) nm (h2.mono hle) (hi.takenOk hk) w hs').mono fun _ _ ⟨σ', _, he, hs''⟩ => ⟨he, σ', hs''⟩
theorem needN_len (nm : ByteArray) (l : List PlaceD) : 0 ≤ needF (fun _ => 1) nm l ∧ needF (fun _ => 1) nm l ≤ l.length := by
  induction l with
  | nil => simp [needF]
  | cons p l ih =>
    have e : needF (fun _ => 1) nm (p :: l) = (if p.node = nm then 1 else 0) + needF (fun _ => 1) nm l := by simp [needF]
    rw [e, List.length_cons]
    split <;> omega
section
variable {w0 w : World} {M : Nat → Prop} {σ : PH} {K : List HP} {bl bs : Nat} {vO : Value} {S : LedD} {own : List PlaceD}
/-- A shelf: a ledger, and places beside it. -/
abbrev SK (bl bs : Nat) (vO : Value) (S : LedD) (own : List PlaceD) : List HP := [ledHP bl S, blk bs (.cells (List.toArray [.pointer (some ⟨bl, 0, none⟩), vO]) 68 (0, 0)), rowD 0 41 vO own]
theorem used_s (n : NodeD) (am at_ : Option Addr) (lm lt cm ct : Nat) {kk : Nat} (hi : LedInv S kk) (hk : kk ≤ 1000000) (ho : OwnOk S own) (hl : own.length ≤ 1000) (hw : Sat w0 M σ (SK bl bs vO S own ++ K) w) :
    Calls Tryd.prog 120 #[.pointer (some ⟨bs, 0, none⟩), .agg (List.toArray (nodeC n (.slice am lm cm) (.slice at_ lt ct)))] w fun e w' => e = .returned (.tuple #[.agg (List.toArray [.int .i64 (uC S own n.name), .int .i64 (uM S own n.name)]), .int .i64 (uN S own n.name)]) ∧ ∃ σ', PH.le σ σ' ∧ Sat w0 M σ' (SK bl bs vO S own ++ K) w' := by
  obtain ⟨nm, hnm⟩ : ∃ nm, nm = n.name := ⟨_, rfl⟩
  have hin := uC_in hi hk ho nm
  have hup := used_pos (hi.takenOk hk) nm
  have hum := (hi.takenOk hk).most nm
  have hun : 0 ≤ usedN S.taken nm := by
    have := usedF_in (f := fun _ => 1) (H := S.taken) (nm := nm) (fun _ _ _ _ => by simp) S.taken.length
    rw [List.take_length] at this; exact this.1
  refine RS.enterK Tryd.func120 Tryd.ntmps120 rfl rfl hw ?_
  refine RS.to (K' := ledHP bl S :: blk bs (.cells (List.toArray [.pointer (some ⟨bl, 0, none⟩), vO]) 68 (0, 0)) :: rowD 0 41 vO own :: K) ?_ ⟨fun h => h⟩
  (repeat (first | refine RS.seq ?_ | refine RS.region ?_ | refine RS.regionQ ?_ (by kernel_rfl) (by kernel_rfl) | refine RS.skip ?_ | refine RS.inBlock ?_ | refine RS.block ?_ | refine RS.exit ?_)); refine box_ (v := .agg _) (cs := [_, _, _, _, _, _]) (fun b3 => ?_); refine alloc_ (fun b4 => ?_); refine asI ?_; refine LS.done ?_
  (repeat (first | refine RS.seq ?_ | refine RS.region ?_ | refine RS.skip ?_ | refine RS.inBlock ?_ | refine RS.block ?_ | refine RS.exit ?_)); refine RS.drawK [.free, .free, .free, .ex, .free, .ex, .ex, .free, .free, .free, .own, .st, .free] ?_ (by kernel_rfl) (by kernel_rfl); refine D.mvP ?_; refine D.nilck ?_; refine D.fld ?_; refine D.ld1 (v := .pointer (some ⟨bl, 0, none⟩)) ?_; refine D.fld ?_; refine D.ld1 (v := .string _) ?_
  refine D.callP ?_ (hc := fun _ _ w' hle _ hw => usedW_c n.name hi hk hw inferInstance)
  refine D.mvT ?_; refine D.extr (v := _) ?_; refine D.extr (v := .int _ _) ?_; refine D.alloc_ ?_
  refine D.stO (fun _ => [.int .i64 (usedC S.taken n.name), .int .i64 (usedM S.taken n.name)]) ?_ (fun us σ' hle hf => ⟨rfl, rfl, rfl⟩)
  refine D.asI ?_; refine D.done (fun us σ1 hle1 hfs => ?_)
  refine RS.ow ?_
  refine RS.openOwn (fun b6 h6 => ?_); refine RS.as 6 (.pointer (some ⟨b6, 0, none⟩)) h6 ?_
  refine RS.to (K' := blk b6 (.cells (List.toArray [.int .i64 (usedC S.taken n.name), .int .i64 (usedM S.taken n.name)]) 30 (0, 0)) :: blk b4 (.cells (List.toArray [.int .i64 0, .int .i64 0]) 30 (0, 0)) :: blk b3 (.cells (List.toArray (nodeC n (.slice am lm cm) (.slice at_ lt ct))) 33 (0, 0)) :: ledHP bl S :: blk bs (.cells (List.toArray [.pointer (some ⟨bl, 0, none⟩), vO]) 68 (0, 0)) :: rowD 0 41 vO own :: K) ?_ ⟨fun h => h⟩
  rw [← hnm]
  (repeat (first | refine RS.seq ?_ | refine RS.region ?_ | refine RS.regionQ ?_ (by kernel_rfl) (by kernel_rfl) | refine RS.skip ?_ | refine RS.inBlock ?_ | refine RS.block ?_ | refine RS.exit ?_)); refine mvP ?_; refine ldA [_, _, _, _, _, _] ?_
  refine callT (fun v τ => RepL τ v (nearP own nm)) (fun v24 τ2 σ2 hq2 hN2 hle2 hτ2 => ?_) (fun w' hw => by rw [hnm]; exact near_c bs bl vO own n am at_ lm lt cm ct w' (hw.get (b := bs)) (hw.rowRepD (v := vO) (by omega) inferInstance) hl)
  obtain ⟨a24, c24, rfl⟩ := hq2.form
  have hr24 := hq2.mono hτ2
  have hnl : (nearP own nm).length ≤ own.length := List.length_filter_le _ _
  obtain ⟨nl, hnle⟩ : ∃ nl, nl = nearP own nm := ⟨_, rfl⟩
  have eC : needF (·.cpu) nm nl = needF (·.cpu) nm own := by rw [hnle]; exact need_near _ _ _
  have eM : needF (·.mem) nm nl = needF (·.mem) nm own := by rw [hnle]; exact need_near _ _ _
  have eN : needF (fun _ => 1) nm nl = needF (fun _ => 1) nm own := by rw [hnle]; exact need_near _ _ _
  have hmem : ∀ p ∈ nl, p ∈ own ∧ p.node = nm := by rw [hnle]; exact fun p hp => near_mem hp
  rw [← hnle] at hr24 hnl
  refine lenL ?_; refine mvI ?_; refine LS.done ?_
  have hpc := fun k => needF_in (f := (·.cpu)) (nm := nm) (ps := nl) (fun p hp => (ho.right p (hmem p hp).1).1) k
  have hpm := fun k => needF_in (f := (·.mem)) (nm := nm) (ps := nl) (fun p hp => (ho.right p (hmem p hp).1).2) k
  have hpn := needN_len nm nl
  have hpn1 := fun k => needF_in (f := fun _ => 1) (nm := nm) (ps := nl) (fun p hp => by simp) k
  simp only [uC, uM, needC, needM] at hin
  rw [← eC, ← eM] at hin
  (repeat (first | refine RS.seq ?_ | refine RS.region ?_ | refine RS.regionQ ?_ (by kernel_rfl) (by kernel_rfl) | refine RS.skip ?_ | refine RS.inBlock ?_ | refine RS.block ?_ | refine RS.exit ?_))
  refine RS.loopF (X := Nat × PH) 6 45 (fun x => x.1 ≤ nl.length ∧ PH.le σ2 x.2) (fun x => [(6, .pointer (some ⟨b6, 0, none⟩)), (7, .int .i64 (usedN S.taken nm + needF (fun _ => 1) nm (nl.take x.1))), (24, .slice a24 nl.length c24), (25, .int .i64 nl.length), (26, .int .i64 x.1)]) (fun x => x.2) (fun x => blk b6 (.cells (List.toArray [.int .i64 (usedC S.taken nm + needF (·.cpu) nm (nl.take x.1)), .int .i64 (usedM S.taken nm + needF (·.mem) nm (nl.take x.1))]) 30 (0, 0)) :: blk b4 (.cells (List.toArray [.int .i64 0, .int .i64 0]) 30 (0, 0)) :: ledHP bl S :: blk bs (.cells (List.toArray [.pointer (some ⟨bl, 0, none⟩), vO]) 68 (0, 0)) :: rowD 0 41 vO own :: K) (fun x => nl.length - x.1) (0, σ2) ⟨Nat.zero_le _, PH.le_refl _⟩ ⟨rfl, ?_, by rw [hnle]; rfl, by rw [hnle]; rfl, rfl, trivial⟩ rfl ⟨fun h => ?_⟩ ?_
  · show Value.int .i64 (usedN S.taken nm) = .int .i64 (usedN S.taken nm + needF (fun _ => 1) nm (nl.take 0))
    simp [needF]
  · dsimp only
    simp only [List.take_zero, needF, List.map_nil, List.sum_nil, Int.add_zero]
    exact SepIn.cons_sub (fun _ h => SepIn.cons_sub (fun _ h => h.tail) h) h
  rintro ⟨k, σ3⟩ g3 ⟨(hk3 : k ≤ nl.length), (hle3 : PH.le σ2 σ3)⟩ ih
  dsimp only
  (repeat (first | refine RS.seq ?_ | refine RS.region ?_ | refine RS.regionQ ?_ (by kernel_rfl) (by kernel_rfl) | refine RS.skip ?_ | refine RS.inBlock ?_ | refine RS.block ?_ | refine RS.exit ?_)); refine ltI ?_; refine LS.done ?_
  (repeat (first | refine RS.seq ?_ | refine RS.region ?_ | refine RS.regionQ ?_ (by kernel_rfl) (by kernel_rfl) | refine RS.skip ?_ | refine RS.inBlock ?_ | refine RS.block ?_ | refine RS.exit ?_))
  by_cases hlt : k < nl.length
  · refine RS.condT ?_ (h := by simp; omega)
    obtain ⟨b, o, rfl, hrow⟩ := hr24.addr (List.ne_nil_of_length_pos (by omega))
    obtain ⟨hcx, h64⟩ := RowAt.place hrow k hlt
    have nC : needF (·.cpu) nm (nl.take (k + 1)) = needF (·.cpu) nm (nl.take k) + (if nl[k].node = nm then nl[k].cpu else 0) := needF_succ (·.cpu) nm nl k hlt
    have nM : needF (·.mem) nm (nl.take (k + 1)) = needF (·.mem) nm (nl.take k) + (if nl[k].node = nm then nl[k].mem else 0) := needF_succ (·.mem) nm nl k hlt
    have nN : needF (fun _ => 1) nm (nl.take (k + 1)) = needF (fun _ => 1) nm (nl.take k) + (if nl[k].node = nm then 1 else 0) := needF_succ (fun _ => 1) nm nl k hlt
    have hxm := hmem nl[k] (List.getElem_mem _)
    have hxr := ho.right nl[k] hxm.1
    obtain ⟨x, hx⟩ : ∃ x, x = nl[k] := ⟨_, rfl⟩
    rw [← hx] at hcx h64 nC nM nN hxm hxr
    obtain ⟨hxr1, hxr2⟩ := hxr
    rw [if_pos hxm.2] at nC nM nN
    have q1 := hpc k
    have q2 := hpc (k + 1)
    have q3 := hpm k
    have q4 := hpm (k + 1)
    have q5 := hpn1 k
    have q6 := hpn1 (k + 1)
    rw [nC] at q2
    rw [nM] at q4
    rw [nN] at q6
    (repeat (first | refine RS.seq ?_ | refine RS.region ?_ | refine RS.regionQ ?_ (by kernel_rfl) (by kernel_rfl) | refine RS.skip ?_ | refine RS.inBlock ?_ | refine RS.block ?_ | refine RS.exit ?_)); refine idx (i := k) ?_; refine ldSA (vs := placeC x) rfl (PH.cells_mono hle3 rfl hcx) ?_; refine alloc_ (fun b9 => ?_); refine st (.agg _) _ ?_; refine LS.done ?_
    (repeat (first | refine RS.seq ?_ | refine RS.region ?_ | refine RS.regionQ ?_ (by kernel_rfl) (by kernel_rfl) | refine RS.skip ?_ | refine RS.inBlock ?_ | refine RS.block ?_ | refine RS.exit ?_)); refine ldA [_, _] ?_; refine fld ?_; refine ldA [_, _] ?_
    refine callP ?_ (hc := fun w' _ => add_c _ _ x.cpu x.mem (by show I64 _; omega) (by show I64 _; omega) h64.1 h64.2 w')
    rw [show addR (usedC S.taken nm + needF (·.cpu) nm (nl.take k)) (usedM S.taken nm + needF (·.mem) nm (nl.take k)) x.cpu x.mem = ((usedC S.taken nm + needF (·.cpu) nm (nl.take k) + x.cpu, usedM S.taken nm + needF (·.mem) nm (nl.take k) + x.mem), 0) by unfold addR; rw [if_neg (by omega), if_neg (by omega)]]
    refine mvT ?_; refine extr (v := _) ?_; refine extr (v := .int _ _) ?_; refine alloc_ (fun b10 => ?_); refine st (.agg _) _ ?_; refine asI ?_; refine LS.done ?_
    (repeat (first | refine RS.seq ?_ | refine RS.region ?_ | refine RS.regionQ ?_ (by kernel_rfl) (by kernel_rfl) | refine RS.skip ?_ | refine RS.inBlock ?_ | refine RS.block ?_ | refine RS.exit ?_)); refine mvI ?_; refine eqI ?_; refine LS.done ?_
    (repeat (first | refine RS.seq ?_ | refine RS.region ?_ | refine RS.regionQ ?_ (by kernel_rfl) (by kernel_rfl) | refine RS.skip ?_ | refine RS.inBlock ?_ | refine RS.block ?_ | refine RS.exit ?_))
    refine RS.condT ?_
    (repeat (first | refine RS.seq ?_ | refine RS.region ?_ | refine RS.regionQ ?_ (by kernel_rfl) (by kernel_rfl) | refine RS.skip ?_ | refine RS.inBlock ?_ | refine RS.block ?_ | refine RS.exit ?_)); refine ldA [_, _] ?_; refine st (.agg _) _ ?_; refine LS.done ?_
    (repeat (first | refine RS.seq ?_ | refine RS.region ?_ | refine RS.regionQ ?_ (by kernel_rfl) (by kernel_rfl) | refine RS.skip ?_ | refine RS.inBlock ?_ | refine RS.block ?_ | refine RS.exit ?_)); refine mvI ?_; (first | refine addN ?_ | refine addI ?_); refine asI ?_; refine LS.done ?_
    (repeat (first | refine RS.seq ?_ | refine RS.region ?_ | refine RS.regionQ ?_ (by kernel_rfl) (by kernel_rfl) | refine RS.skip ?_ | refine RS.inBlock ?_ | refine RS.block ?_ | refine RS.exit ?_)); (first | refine addN ?_ | refine addI ?_); refine mvI ?_; refine LS.done ?_; (repeat (first | refine RS.seq ?_ | refine RS.region ?_ | refine RS.regionQ ?_ (by kernel_rfl) (by kernel_rfl) | refine RS.skip ?_ | refine RS.inBlock ?_ | refine RS.block ?_ | refine RS.exit ?_))
    refine ih (k + 1, σ3) ⟨hlt, hle3⟩ (by (try dsimp only); omega) ⟨rfl, by dsimp only; rw [nN, ← Int.add_assoc]; rfl, rfl, rfl, rfl, trivial⟩ (by repeat (first | with_reducible exact Out.refl _ _ _ | exact Out.hv | refine Out.upd ?_ | refine Out.hvIn ?_)) ⟨fun h => ?_⟩ rfl
    dsimp only
    rw [nC, nM, ← Int.add_assoc, ← Int.add_assoc]
    exact h.tail.tail
  · refine RS.condF ?_ (h := by simp; omega)
    obtain rfl : k = nl.length := by omega
    rw [List.take_length, eC, eM, eN]
    (repeat (first | refine RS.seq ?_ | refine RS.region ?_ | refine RS.regionQ ?_ (by kernel_rfl) (by kernel_rfl) | refine RS.skip ?_ | refine RS.inBlock ?_ | refine RS.block ?_ | refine RS.exit ?_)); refine ldA [_, _] ?_; refine mvI ?_; refine st (.agg _) _ ?_; refine asI ?_; refine LS.done ?_
    (repeat (first | refine RS.seq ?_ | refine RS.region ?_ | refine RS.regionQ ?_ (by kernel_rfl) (by kernel_rfl) | refine RS.skip ?_ | refine RS.inBlock ?_ | refine RS.block ?_ | refine RS.exit ?_))
    refine RS.retCT (ty := 30) (v := .int .i64 (uN S own nm)) Tryd.func120 [.int .i64 (uC S own nm), .int .i64 (uM S own nm)] fun w hw => ?_
    exact ⟨rfl, σ3, PH.le_trans (by assumption) (PH.le_trans hle2 hle3), hw.weak fun F h => SepIn.tail (SepIn.tail h)⟩
end
end Go.Proofs.YthnoaapghcadgaaDoor
/- Rules of regions that draw: rows that are appended onto, or go by another slot, wherever they stand; methods called through an interface. -/
namespace Go.JW
section
variable {P : Program} {f : FuncId} {R : Ending → World → Prop} {k : List Item} {n : Nat} {fr : Nat → Value} {w0 : World} {M : Nat → Prop} {σ : PH}
variable {rest : List Oper} {d : Nat} {ty : TypeId} {pos : String} {aft : Array Edge} {x y z : Operand} {t t' : TypeId}
variable {H : HS} {O : List (Nat × Obj)} {Kf : Us → List HP} {Kb : List HP} {E : List Nat} {tags : List Tag}
variable {α : Type} {ri : Rep α} {N e : Nat} {l : List α}
theorem D.appG {s by_ : Nat} {zs : List Value} {v vy : Us → Value} {put : Us → HP → List HP} {K' : Us → List HP} (Kf' : Us → List HP) (l' : List α) [ht : TSlice P t e] [hs : TSz P e s] [hby : TBytes P e by_] [hz : TZero P e zs]
    (h : LD P f R k n w0 M σ Kb rest tags ⟨fr, (d, fun _ _ => True) :: H, O, Kf', d :: ((Stg.mk fr H O Kf E false).seen ⟨some d, .call ⟨.builtin .append, #[x, y], #[t, t']⟩, ty, pos, aft, none⟩ ++ E), false⟩)
    (hsrc : ∀ us σ', PH.le σ σ' → Facts H (readsTmp ⟨some d, .call ⟨.builtin .append, #[x, y], #[t, t']⟩, ty, pos, aft, none⟩) us σ' → ∃ τ, RepL τ (vy us) l' ∧ PH.le τ (fromN N σ'))
    (hx : ∀ us, ev n (fill fr H us) x = v us := by intro _; rfl) (hy : ∀ us, ev n (fill fr H us) y = vy us := by intro _; rfl)
    (hf : ∀ us, FindD (v us) (Kf us) α ri N e l (put us) (K' us) := by intro _; infer_instance) (hK : ∀ us u, put us (rowD N e u (l ++ l')) = Kf' (upd us d u) := by intro _ _; rfl) (hL : ∀ us, Less (Kf' us) Kb := by intro _; infer_instance)
    (hE : ∀ us, Kf' (resE (d :: ((Stg.mk fr H O Kf E false).seen ⟨some d, .call ⟨.builtin .append, #[x, y], #[t, t']⟩, ty, pos, aft, none⟩ ++ E)) us) = Kf' us := by intro _; rfl) (hk : ∃ e', P.underlying t' = some (.slice e') := by exact ⟨_, TSlice.eq⟩)
    (hss : s = Rep.sz α := by rfl) (hzs : Nat.beq zs.length s = true := by rfl) (hb : (l.length + l'.length) * by_ ≤ 140737488355328 := by first | omega | (simp only [List.length_cons, List.length_nil]; omega)) (hm : l.length + l'.length ≤ 140737488355328 := by first | omega | (simp only [List.length_cons, List.length_nil]; omega)) :
    LD P f R k n w0 M σ Kb (⟨some d, .call ⟨.builtin .append, #[x, y], #[t, t']⟩, ty, pos, aft, none⟩ :: rest) (.eff :: tags) ⟨fr, H, O, Kf, E, false⟩ := by
  refine D.eff (fun _ _ => True) Kf' _ (fun _ _ _ _ _ => trivial) hL h (fun us σ' w X hle hfs hw => ?_) hE
  obtain ⟨τ, h1, h2⟩ := hsrc us σ' hle hfs
  obtain ⟨e', hk⟩ := hk
  obtain ⟨news, g1, g2⟩ := srcD (t' := t') hw hk h1 (PH.le_trans h2 (fromN_le _ _))
  obtain ⟨v', w', h3, h4⟩ := appRunD (t := t) (t' := t') (ty := ty) (v := v us) (FindD.tail (i := hf us)) hw ⟨news, by subst hss; exact g1, g2.mono h2⟩ hss hzs hb hm
  refine .inl ⟨v', w', by simp [execOp, resolve, invoke, builtin, hx us, hy us, h3], σ', PH.le_refl _, ?_, trivial⟩
  rw [← hK]; exact h4
/-- What is owned goes by another slot. -/
theorem D.mvG (sl : Nat) (Kf' : Us → List HP) (h : LD P f R k n w0 M σ Kb rest tags ⟨fr, (d, fun _ _ => True) :: H, O, Kf', d :: ((Stg.mk fr H O Kf E false).seen ⟨some d, .assign x, ty, pos, aft, none⟩ ++ E), false⟩)
    (hx : ∀ us, ev n (fill fr H us) x = us sl := by intro _; rfl) (hK : ∀ us, Kf us = Kf' (upd us d (us sl)) := by intro _; rfl) (hL : ∀ us, Less (Kf' us) Kb := by intro _; infer_instance)
    (hE : ∀ us, Kf' (resE (d :: ((Stg.mk fr H O Kf E false).seen ⟨some d, .assign x, ty, pos, aft, none⟩ ++ E)) us) = Kf' us := by intro _; rfl) :
    LD P f R k n w0 M σ Kb (⟨some d, .assign x, ty, pos, aft, none⟩ :: rest) (.eff :: tags) ⟨fr, H, O, Kf, E, false⟩ :=
  D.eff (fun _ _ => True) Kf' _ (fun _ _ _ _ _ => trivial) hL h (fun us σ' w X _ _ hw => .inl ⟨us sl, w, by simp [execOp, hx us], σ', PH.le_refl _, by rw [← hK]; exact hw, trivial⟩) hE
/-- A method called through an interface, that answers something new. -/
theorem D.invN {g : FuncId} {T : TypeId} {nm : String} {v : Value} {xs : Array Operand} {ts : Array TypeId} {r : Operand} {args : List Value} (Q : Value → PH → Prop) (hm : ∀ w, (callMethod (.iface T v) nm args.toArray).run P w = .ok (.enter g (v :: args).toArray) w)
    (h : LD P f R k n w0 M σ Kb rest tags ⟨fr, (d, fun v σ => ∃ τ, Q v τ ∧ PH.le τ σ ∧ New w0 τ) :: H, O, Kf, E, false⟩)
    (hc : ∀ σ' w, PH.le σ σ' → Sat w0 M σ' Kb w → Calls P g (v :: args).toArray w fun e w' => ∃ v, e = .returned v ∧ RowKit.Below w.heap.size w w' ∧ Q v (since w w')) (hr : ∀ us, ev n (fill fr H us) r = .iface T v := by intro _; rfl) (hx : ∀ us, xs.toList.map (ev n (fill fr H us)) = args := by intro _; rfl) :
    LD P f R k n w0 M σ Kb (⟨some d, .call ⟨.invoke r nm, xs, ts⟩, ty, pos, aft, none⟩ :: rest) (.ex :: tags) ⟨fr, H, O, Kf, E, false⟩ :=
  D.gr _ (fun _ _ _ ⟨τ, h1, h2, h3⟩ hs => ⟨τ, h1, PH.le_trans h2 hs, h3⟩) h fun us σ' w hle _ hw =>
    .inr ⟨g, _, exec_inv hm (hr us) (hx us) w, (hc σ' w hle hw).mono fun _ w' ⟨v, he, hb, hq⟩ => ⟨v, he, hb, since w w', hq, since_le _ _ _, New.since hw.size⟩⟩
end
end Go.JW
/- Contract: where a pod goes. -/
namespace Go.Proofs.YthnoaapghcadgaaDoor
open Go.JW Go.RowKit
theorem whyP_pos (p : PodD) (n : NodeD) (c m : Int) (near : List PlaceD) : 0 ≤ whyP p n c m near := by
  unfold whyP
  repeat' split
  all_goals decide
theorem cand_take {S : LedD} {own : List PlaceD} {p : PodD} {N : List NodeD} {k : Nat} (hk : k < N.length) : candN S own p (N.take (k + 1)) = candN S own p (N.take k) ++ (if mayP S own p N[k] = true then [N[k]] else []) := by
  unfold candN
  rw [List.take_add_one, List.getElem?_eq_getElem hk, List.filter_append]
  congr 1
  by_cases h : mayP S own p N[k] = true <;> simp [h]
theorem rep_pl (σ : PH) (x : PlaceD) (h1 : x.pod.size ≤ 140737488355328) (h2 : x.node.size ≤ 140737488355328) (h3 : I64 x.cpu) (h4 : I64 x.mem) : Rep.rep σ (placeC x) x := ⟨rfl, h1, h2, h3, h4⟩
def zeroP : PlaceD := ⟨⟨#[]⟩, ⟨#[]⟩, 0, 0, false⟩
theorem inv_used (v : Value) (cs : List Value) (w : World) : (callMethod (.iface 66 v) "joinery/pack.used" (List.toArray [.agg (List.toArray cs)])).run Tryd.prog w = .ok (.enter 120 (List.toArray [v, .agg (List.toArray cs)])) w := by kernel_rfl
theorem inv_near (v : Value) (cs : List Value) (w : World) : (callMethod (.iface 66 v) "joinery/pack.near" (List.toArray [.agg (List.toArray cs)])).run Tryd.prog w = .ok (.enter 119 (List.toArray [v, .agg (List.toArray cs)])) w := by kernel_rfl
section
variable {w0 w : World} {M : Nat → Prop} {σ : PH} {K : List HP} {bl bs : Nat} {vO : Value} {S : LedD} {own : List PlaceD}
theorem place_s (p : PodD) (ap ab : Option Addr) (cp cb : Nat) (vN : Value) (mode : Int) {kk : Nat} (hi : LedInv S kk) (hk : kk ≤ 1000000) (ho : OwnOk S own) (hl : own.length ≤ 900) (hT : TopsAt σ) (hp' : Rep.rep σ (podC p (.slice ap p.picks.length cp) (.slice ab p.bears.length cb)) p) (hr : RepL σ vN (nodesOf S)) (hw : Sat w0 M σ (SK bl bs vO S own ++ K) w) :
    Calls Tryd.prog 36 #[.agg (List.toArray (podC p (.slice ap p.picks.length cp) (.slice ab p.bears.length cb))), vN, .iface 66 (.pointer (some ⟨bs, 0, none⟩)), .int .i64 mode] w fun e w' => e = .returned (.tuple #[.agg (List.toArray (placeC ((spotP S own mode p).getD zeroP))), .bool (spotP S own mode p).isSome]) ∧ ∃ σ', PH.le σ σ' ∧ Sat w0 M σ' (SK bl bs vO S own ++ K) w' := by
  have hpn : p.name.size ≤ 140737488355328 := by obtain ⟨_, _, _, h, _⟩ := hp'; exact h
  have hpc : I64 p.cpu := by obtain ⟨_, _, _, _, _, h, _⟩ := hp'; exact h
  have hpm : I64 p.mem := by obtain ⟨_, _, _, _, _, _, h, _⟩ := hp'; exact h
  obtain ⟨an, cn, rfl⟩ := hr.form
  have hN8 := hi.nodes_len
  obtain ⟨N, hN⟩ : ∃ N, N = nodesOf S := ⟨_, rfl⟩
  have hmemN : ∀ n ∈ N, asg S.nodes n.name = some n ∧ nodeErr n = 0 := by rw [hN]; exact fun n hn => node_asg hi hn
  refine RS.enterK Tryd.func36 Tryd.ntmps36 rfl rfl hw ?_
  refine RS.to (K' := ledHP bl S :: blk bs (.cells (List.toArray [.pointer (some ⟨bl, 0, none⟩), vO]) 68 (0, 0)) :: rowD 0 41 vO own :: K) ?_ ⟨fun h => h⟩
  (repeat (first | refine RS.seq ?_ | refine RS.region ?_ | refine RS.regionQ ?_ (by kernel_rfl) (by kernel_rfl) | refine RS.skip ?_ | refine RS.inBlock ?_ | refine RS.block ?_ | refine RS.exit ?_)); refine box_ (v := .agg _) (cs := [_, _, _, _, _, _, _]) (fun b4 => ?_); refine alloc_ (fun b8 => ?_); refine asB ?_; refine LS.done ?_
  (repeat (first | refine RS.seq ?_ | refine RS.region ?_ | refine RS.regionQ ?_ (by kernel_rfl) (by kernel_rfl) | refine RS.skip ?_ | refine RS.inBlock ?_ | refine RS.block ?_ | refine RS.exit ?_)); refine asL ?_; refine LS.done ?_
  refine RS.nilD 0 ByteArray 9 ?_
  (repeat (first | refine RS.seq ?_ | refine RS.region ?_ | refine RS.regionQ ?_ (by kernel_rfl) (by kernel_rfl) | refine RS.skip ?_ | refine RS.inBlock ?_ | refine RS.block ?_ | refine RS.exit ?_)); refine asL ?_; refine LS.done ?_
  refine RS.nilD 0 Int 3 ?_
  (repeat (first | refine RS.seq ?_ | refine RS.region ?_ | refine RS.regionQ ?_ (by kernel_rfl) (by kernel_rfl) | refine RS.skip ?_ | refine RS.inBlock ?_ | refine RS.block ?_ | refine RS.exit ?_)); refine mvL ?_; refine lenL ?_; refine mvI ?_; refine LS.done ?_
  rw [← hN] at hr hN8 ⊢
  (repeat (first | refine RS.seq ?_ | refine RS.region ?_ | refine RS.regionQ ?_ (by kernel_rfl) (by kernel_rfl) | refine RS.skip ?_ | refine RS.inBlock ?_ | refine RS.block ?_ | refine RS.exit ?_))
  refine RS.loopF (X := Nat × Value × Value × PH) 10 71 (fun x => x.1 ≤ N.length ∧ PH.le σ x.2.2.2) (fun x => [(10, x.2.1), (11, x.2.2.1), (17, .slice an N.length cn), (18, .int .i64 N.length), (19, .int .i64 x.1)]) (fun x => x.2.2.2)
    (fun x => rowD 0 3 x.2.2.1 ((candN S own p (N.take x.1)).map (goodP S own mode p)) :: rowD 0 9 x.2.1 ((candN S own p (N.take x.1)).map (fun x : NodeD => x.name)) :: blk b8 (.cells (List.toArray (placeC zeroP)) 41 (0, 0)) :: blk b4 (.cells (List.toArray (podC p (.slice ap p.picks.length cp) (.slice ab p.bears.length cb))) 36 (0, 0)) :: ledHP bl S :: blk bs (.cells (List.toArray [.pointer (some ⟨bl, 0, none⟩), vO]) 68 (0, 0)) :: rowD 0 41 vO own :: K) (fun x => N.length - x.1) (0, .slice none 0 0, .slice none 0 0, σ) ⟨Nat.zero_le _, PH.le_refl _⟩ ⟨rfl, rfl, rfl, rfl, rfl, trivial⟩ rfl ⟨fun h => h⟩ ?_
  rintro ⟨k, v1, v2, σ1⟩ g ⟨(hk1 : k ≤ N.length), (hle1 : PH.le σ σ1)⟩ ih
  dsimp only
  (repeat (first | refine RS.seq ?_ | refine RS.region ?_ | refine RS.regionQ ?_ (by kernel_rfl) (by kernel_rfl) | refine RS.skip ?_ | refine RS.inBlock ?_ | refine RS.block ?_ | refine RS.exit ?_)); refine ltI ?_; refine LS.done ?_
  (repeat (first | refine RS.seq ?_ | refine RS.region ?_ | refine RS.regionQ ?_ (by kernel_rfl) (by kernel_rfl) | refine RS.skip ?_ | refine RS.inBlock ?_ | refine RS.block ?_ | refine RS.exit ?_))
  by_cases hlt : k < N.length
  · refine RS.condT ?_ (h := by simp; omega)
    obtain ⟨b, o, rfl, hrow⟩ := hr.addr (List.ne_nil_of_length_pos (by omega))
    obtain ⟨vs, hc, hrp⟩ := hrow k hlt
    obtain ⟨n, hn⟩ : ∃ n, n = N[k] := ⟨_, rfl⟩
    have hct := cand_take (S := S) (own := own) (p := p) hlt
    obtain ⟨hasg, herr⟩ := hmemN N[k] (List.getElem_mem _)
    rw [← hn] at hrp hct hasg herr
    have hrp0 := Rep.mono hrp hle1
    obtain ⟨vm, vt, rfl, _, _, _, hv1, hv2⟩ := hrp
    obtain ⟨a1, c1, rfl⟩ := hv1.form
    obtain ⟨a2, c2, rfl⟩ := hv2.form
    have hc : ∀ j, j < 6 → σ.cell b (o + k * 6 + j) = _ := hc
    have hcap := fine_cap herr
    have hin := uC_in hi hk ho n.name
    have hcl : (candN S own p (N.take k)).length ≤ k := by
      have := List.length_filter_le (mayP S own p) (N.take k)
      rw [List.length_take] at this
      unfold candN; omega
    (repeat (first | refine RS.seq ?_ | refine RS.region ?_ | refine RS.regionQ ?_ (by kernel_rfl) (by kernel_rfl) | refine RS.skip ?_ | refine RS.inBlock ?_ | refine RS.block ?_ | refine RS.exit ?_)); refine idx (i := k) ?_; refine ldSA (vs := nodeC n (.slice a1 n.marks.length c1) (.slice a2 n.taints.length c2)) rfl (PH.cells_mono hle1 rfl hc) ?_; refine alloc_ (fun b13 => ?_); refine st (.agg _) _ ?_; refine LS.done ?_
    (repeat (first | refine RS.seq ?_ | refine RS.region ?_ | refine RS.regionQ ?_ (by kernel_rfl) (by kernel_rfl) | refine RS.skip ?_ | refine RS.inBlock ?_ | refine RS.block ?_ | refine RS.exit ?_)); refine mv ?_; refine ldA [_, _, _, _, _, _] ?_
    refine invX (X := PH) (fun _ => .tuple #[.agg (List.toArray [.int .i64 (uC S own n.name), .int .i64 (uM S own n.name)]), .int .i64 (uN S own n.name)]) (fun x => x) (fun _ => _) (fun x => PH.le σ1 x) (inv_used _ _) (fun σ2 hle2 => ?_) (fun w' hw => (used_s n a1 a2 n.marks.length n.taints.length c1 c2 hi hk ho (by omega) (hw.front [_, _, _, _, _] (SK bl bs vO S own))).mono fun _ _ ⟨he, σ', hle, hs⟩ => ⟨σ', he, hs.front (SK bl bs vO S own) [_, _, _, _, _], hle⟩)
    refine LS.to (K' := blk b13 (.cells (List.toArray (nodeC n (.slice a1 n.marks.length c1) (.slice a2 n.taints.length c2))) 33 (0, 0)) :: rowD 0 3 v2 ((candN S own p (N.take k)).map (goodP S own mode p)) :: rowD 0 9 v1 ((candN S own p (N.take k)).map (fun x : NodeD => x.name)) :: blk b8 (.cells (List.toArray (placeC zeroP)) 41 (0, 0)) :: blk b4 (.cells (List.toArray (podC p (.slice ap p.picks.length cp) (.slice ab p.bears.length cb))) 36 (0, 0)) :: ledHP bl S :: blk bs (.cells (List.toArray [.pointer (some ⟨bl, 0, none⟩), vO]) 68 (0, 0)) :: rowD 0 41 vO own :: K) ?_ ⟨fun h => h⟩
    refine mvT ?_; refine extr (v := _) ?_; refine extr (v := .int _ _) ?_; refine alloc_ (fun b14 => ?_); refine st (.agg _) _ ?_; refine asI ?_; refine LS.done ?_
    have hle12 := PH.le_trans hle1 hle2
    (repeat (first | refine RS.seq ?_ | refine RS.region ?_ | refine RS.skip ?_ | refine RS.inBlock ?_ | refine RS.block ?_ | refine RS.exit ?_)); refine RS.drawK [.ex, .ex, .ex, .free, .ex, .ex, .ex, .free] ?_ (by kernel_rfl) (by kernel_rfl); refine D.ldA (podC p (.slice ap p.picks.length cp) (.slice ab p.bears.length cb)) ?_; refine D.ldA (nodeC n (.slice a1 n.marks.length c1) (.slice a2 n.taints.length c2)) ?_; refine D.ldA [.int .i64 (uC S own n.name), .int .i64 (uM S own n.name)] ?_; refine D.mv ?_; refine D.ldA (nodeC n (.slice a1 n.marks.length c1) (.slice a2 n.taints.length c2)) ?_
    refine D.invN (fun v τ => RepL τ v (nearP own n.name)) (inv_near _ _) ?_ (fun σ' w' hle hw => near_c bs bl vO own n a1 a2 n.marks.length n.taints.length c1 c2 w' (hw.get (b := bs)) (hw.rowRepD (v := vO) (by omega) inferInstance) (by omega))
    refine D.callP ?_ (hc := fun us σ' w' hle hf hw => why_c p n ap ab a1 a2 cp cb c1 c2 (uC S own n.name) (uM S own n.name) (nearP own n.name) (us 34) (by show I64 _; omega) (by show I64 _; omega) w' (Rep.mono hp' (PH.le_trans hle12 (PH.le_trans hle hw.imm))) (Rep.mono hrp0 (PH.le_trans hle2 (PH.le_trans hle hw.imm))) (by
      obtain ⟨τ, h1, h2, _⟩ : ∃ τ, RepL τ (us 34) (nearP own n.name) ∧ PH.le τ σ' ∧ New w0 τ := hf.1
      exact h1.mono (PH.le_trans h2 hw.imm)))
    refine D.gtI ?_; refine D.done (fun us σ1 hle1 hfs => ?_)
    refine RS.ow ?_
    have hle3 := PH.le_trans hle12 hle1
    have hwp := whyP_pos p n (uC S own n.name) (uM S own n.name) (nearP own n.name)
    (repeat (first | refine RS.seq ?_ | refine RS.region ?_ | refine RS.skip ?_ | refine RS.inBlock ?_ | refine RS.block ?_ | refine RS.exit ?_))
    refine RS.cond (fun z => ?_) (fun z => ?_)
    · have z := of_decide_eq_true z
      have hmay : mayP S own p n = false := decide_eq_false (by omega)
      rw [hmay, if_neg (by simp), List.append_nil] at hct
      (repeat (first | refine RS.seq ?_ | refine RS.region ?_ | refine RS.regionQ ?_ (by kernel_rfl) (by kernel_rfl) | refine RS.skip ?_ | refine RS.inBlock ?_ | refine RS.block ?_ | refine RS.exit ?_)); (first | refine addN ?_ | refine addI ?_); refine mvI ?_; refine LS.done ?_; (repeat (first | refine RS.seq ?_ | refine RS.region ?_ | refine RS.regionQ ?_ (by kernel_rfl) (by kernel_rfl) | refine RS.skip ?_ | refine RS.inBlock ?_ | refine RS.block ?_ | refine RS.exit ?_))
      exact ih (k + 1, v1, v2, σ1) ⟨hlt, hle3⟩ (by (try dsimp only); omega) ⟨rfl, rfl, rfl, rfl, rfl, trivial⟩ (by repeat (first | with_reducible exact Out.refl _ _ _ | exact Out.hv | refine Out.upd ?_ | refine Out.hvIn ?_)) ⟨fun h => by dsimp only; rw [hct]; exact h.tail.tail⟩ rfl
    · have z := of_decide_eq_false z
      have hmay : mayP S own p n = true := decide_eq_true (by omega)
      rw [hmay, if_pos rfl] at hct
      have hw6 := (whyP_zero (of_decide_eq_true hmay)).2.2.2.1
      obtain ⟨hpp, hf1, hf2⟩ := (fitP_iff hin.1 hin.2 hcap).1 hw6
      have hcnt := hi.count n.name
      have hnn := needN_len n.name own
      have hun : 0 ≤ usedN S.taken n.name := by
        have := usedF_in (f := fun _ => 1) (H := S.taken) (nm := n.name) (fun _ _ _ _ => by simp) S.taken.length
        rw [List.take_length] at this; exact this.1
      have hs64 : I64 (goodP S own mode p n) := by
        have e1 := partP_in hin.1.1 hpp.1 hf1
        have e2 := partP_in hin.2.1 hpp.2 hf2
        unfold goodP scoreP leftP
        simp only [uN, needN] at *
        show I64 _
        repeat' split
        all_goals omega
      refine RS.skip ?_
      refine RS.to (K' := blk b14 (.cells (List.toArray [.int .i64 (uC S own n.name), .int .i64 (uM S own n.name)]) 30 (0, 0)) :: blk b13 (.cells (List.toArray (nodeC n (.slice a1 n.marks.length c1) (.slice a2 n.taints.length c2))) 33 (0, 0)) :: rowD 0 3 v2 ((candN S own p (N.take k)).map (goodP S own mode p)) :: rowD 0 9 v1 ((candN S own p (N.take k)).map (fun x : NodeD => x.name)) :: blk b8 (.cells (List.toArray (placeC zeroP)) 41 (0, 0)) :: blk b4 (.cells (List.toArray (podC p (.slice ap p.picks.length cp) (.slice ab p.bears.length cb))) 36 (0, 0)) :: ledHP bl S :: blk bs (.cells (List.toArray [.pointer (some ⟨bl, 0, none⟩), vO]) 68 (0, 0)) :: rowD 0 41 vO own :: K) ?_ ⟨fun h => h⟩
      (repeat (first | refine RS.seq ?_ | refine RS.region ?_ | refine RS.skip ?_ | refine RS.inBlock ?_ | refine RS.block ?_ | refine RS.exit ?_)); refine RS.draw [.free, .free, .ex, .ex, .eff, .free, .free, .free, .ex, .ex, .free, .ex, .free, .ex, .ex, .eff, .eff, .eff] [blk b14 (.cells (List.toArray [.int .i64 (uC S own n.name), .int .i64 (uM S own n.name)]) 30 (0, 0)), blk b13 (.cells (List.toArray (nodeC n (.slice a1 n.marks.length c1) (.slice a2 n.taints.length c2))) 33 (0, 0)), blk b4 (.cells (List.toArray (podC p (.slice ap p.picks.length cp) (.slice ab p.bears.length cb))) 36 (0, 0))] ?_ (by kernel_rfl) (by kernel_rfl) (by infer_instance); refine D.mv (v := v1) ?_; refine D.fld ?_; refine D.ld1 (v := .string _) ?_; refine D.litT (α := ByteArray) (vs := fun _ => [.string n.name]) 0 [n.name] ?_ (fun us σ' hle hf => ⟨⟨rfl, by have := fine_name herr; have := name_size this; omega⟩, trivial⟩)
      refine D.appG (v := fun _ => v1) (vy := fun us => us 40) (fun us => blk b14 (.cells (List.toArray [.int .i64 (uC S own n.name), .int .i64 (uM S own n.name)]) 30 (0, 0)) :: blk b13 (.cells (List.toArray (nodeC n (.slice a1 n.marks.length c1) (.slice a2 n.taints.length c2))) 33 (0, 0)) :: rowD 0 3 v2 ((candN S own p (N.take k)).map (goodP S own mode p)) :: rowD 0 9 (us 41) ((candN S own p (N.take k)).map (fun x : NodeD => x.name) ++ [n.name]) :: blk b8 (.cells (List.toArray (placeC zeroP)) 41 (0, 0)) :: blk b4 (.cells (List.toArray (podC p (.slice ap p.picks.length cp) (.slice ab p.bears.length cb))) 36 (0, 0)) :: ledHP bl S :: blk bs (.cells (List.toArray [.pointer (some ⟨bl, 0, none⟩), vO]) 68 (0, 0)) :: rowD 0 41 vO own :: K) [n.name] ?_ (fun us σ' hle hf => ⟨_, hf.1, PH.le_refl _⟩) (hb := by simp only [List.length_map, List.length_cons, List.length_nil]; omega) (hm := by simp only [List.length_map, List.length_cons, List.length_nil]; omega)
      refine D.mv (v := v2) ?_; refine D.mvI ?_; refine D.fld ?_; refine D.ldA [.int .i64 n.cpu, .int .i64 n.mem] ?_; refine D.ldA [.int .i64 (uC S own n.name), .int .i64 (uM S own n.name)] ?_; refine D.fld ?_; refine D.ldA [.int .i64 p.cpu, .int .i64 p.mem] ?_; refine D.mvI ?_
      refine D.callP (v := .int .i64 (goodP S own mode p n)) ?_ (hc := fun us σ' w' hle hf hw => score_c mode n.cpu n.mem (uC S own n.name) (uM S own n.name) p.cpu p.mem (uN S own n.name) ⟨hin.1.1, hin.2.1⟩ hpp ⟨hf1, hf2⟩ ⟨hcap.2.1, hcap.2.2.2⟩ (by simp only [uN, needN]; omega) w' (hT.mono (PH.le_trans hle3 (PH.le_trans hle hw.imm))))
      refine D.litT (α := Int) (vs := fun _ => [.int .i64 (goodP S own mode p n)]) 0 [goodP S own mode p n] ?_ (fun us σ' hle hf => ⟨⟨rfl, hs64⟩, trivial⟩)
      refine D.appG (v := fun _ => v2) (vy := fun us => us 51) (fun us => blk b14 (.cells (List.toArray [.int .i64 (uC S own n.name), .int .i64 (uM S own n.name)]) 30 (0, 0)) :: blk b13 (.cells (List.toArray (nodeC n (.slice a1 n.marks.length c1) (.slice a2 n.taints.length c2))) 33 (0, 0)) :: rowD 0 3 (us 52) ((candN S own p (N.take k)).map (goodP S own mode p) ++ [goodP S own mode p n]) :: rowD 0 9 (us 41) ((candN S own p (N.take k)).map (fun x : NodeD => x.name) ++ [n.name]) :: blk b8 (.cells (List.toArray (placeC zeroP)) 41 (0, 0)) :: blk b4 (.cells (List.toArray (podC p (.slice ap p.picks.length cp) (.slice ab p.bears.length cb))) 36 (0, 0)) :: ledHP bl S :: blk bs (.cells (List.toArray [.pointer (some ⟨bl, 0, none⟩), vO]) 68 (0, 0)) :: rowD 0 41 vO own :: K) [goodP S own mode p n] ?_ (fun us σ' hle hf => ⟨_, hf.1, PH.le_refl _⟩) (hb := by simp only [List.length_map, List.length_cons, List.length_nil]; omega) (hm := by simp only [List.length_map, List.length_cons, List.length_nil]; omega)
      refine D.mvG 41 (fun us => blk b14 (.cells (List.toArray [.int .i64 (uC S own n.name), .int .i64 (uM S own n.name)]) 30 (0, 0)) :: blk b13 (.cells (List.toArray (nodeC n (.slice a1 n.marks.length c1) (.slice a2 n.taints.length c2))) 33 (0, 0)) :: rowD 0 3 (us 52) ((candN S own p (N.take k)).map (goodP S own mode p) ++ [goodP S own mode p n]) :: rowD 0 9 (us 10) ((candN S own p (N.take k)).map (fun x : NodeD => x.name) ++ [n.name]) :: blk b8 (.cells (List.toArray (placeC zeroP)) 41 (0, 0)) :: blk b4 (.cells (List.toArray (podC p (.slice ap p.picks.length cp) (.slice ab p.bears.length cb))) 36 (0, 0)) :: ledHP bl S :: blk bs (.cells (List.toArray [.pointer (some ⟨bl, 0, none⟩), vO]) 68 (0, 0)) :: rowD 0 41 vO own :: K) ?_
      refine D.mvG 52 (fun us => blk b14 (.cells (List.toArray [.int .i64 (uC S own n.name), .int .i64 (uM S own n.name)]) 30 (0, 0)) :: blk b13 (.cells (List.toArray (nodeC n (.slice a1 n.marks.length c1) (.slice a2 n.taints.length c2))) 33 (0, 0)) :: rowD 0 3 (us 11) ((candN S own p (N.take k)).map (goodP S own mode p) ++ [goodP S own mode p n]) :: rowD 0 9 (us 10) ((candN S own p (N.take k)).map (fun x : NodeD => x.name) ++ [n.name]) :: blk b8 (.cells (List.toArray (placeC zeroP)) 41 (0, 0)) :: blk b4 (.cells (List.toArray (podC p (.slice ap p.picks.length cp) (.slice ab p.bears.length cb))) 36 (0, 0)) :: ledHP bl S :: blk bs (.cells (List.toArray [.pointer (some ⟨bl, 0, none⟩), vO]) 68 (0, 0)) :: rowD 0 41 vO own :: K) ?_
      refine D.done (fun us σ4 hle4 hfs => ?_)
      refine RS.ow ?_
      (repeat (first | refine RS.seq ?_ | refine RS.region ?_ | refine RS.regionQ ?_ (by kernel_rfl) (by kernel_rfl) | refine RS.skip ?_ | refine RS.inBlock ?_ | refine RS.block ?_ | refine RS.exit ?_)); (first | refine addN ?_ | refine addI ?_); refine mvI ?_; refine LS.done ?_; (repeat (first | refine RS.seq ?_ | refine RS.region ?_ | refine RS.regionQ ?_ (by kernel_rfl) (by kernel_rfl) | refine RS.skip ?_ | refine RS.inBlock ?_ | refine RS.block ?_ | refine RS.exit ?_))
      refine ih (k + 1, us 10, us 11, σ4) ⟨hlt, PH.le_trans hle3 hle4⟩ (by (try dsimp only); omega) ⟨rfl, rfl, rfl, rfl, rfl, trivial⟩ (by repeat (first | with_reducible exact Out.refl _ _ _ | exact Out.hv | refine Out.upd ?_ | refine Out.hvIn ?_)) ⟨fun h => ?_⟩ rfl
      dsimp only
      rw [hct, List.map_append, List.map_append]
      exact h.tail.tail
  · refine RS.condF ?_ (h := by simp; omega)
    obtain rfl : k = N.length := by omega
    rw [List.take_length]
    have hcl : (candN S own p N).length ≤ N.length := List.length_filter_le _ _
    obtain ⟨c, hc⟩ : ∃ c, c = candN S own p N := ⟨_, rfl⟩
    rw [← hc] at hcl ⊢
    refine RS.exit ?_
    refine RS.freeze0 (l := c.map (goodP S own mode p)) v2 (fun σ2 hle2 hrs => ?_) (hl := by rw [List.length_map]; omega) (hf := FindD.head)
    refine RS.freeze0 (l := c.map (fun x : NodeD => x.name)) v1 (fun σ3 hle3 hrn => ?_) (hl := by rw [List.length_map]; omega) (hf := FindD.head)
    obtain ⟨as_, cs, rfl⟩ := hrs.form
    obtain ⟨an1, cn1, rfl⟩ := hrn.form
    obtain ⟨z, hz⟩ : ∃ z, z = bestTo (c.map (fun x : NodeD => x.name)) (c.map (goodP S own mode p)) c.length := ⟨_, rfl⟩
    have hzb := bestTo_in (c.map (fun x : NodeD => x.name)) (c.map (goodP S own mode p)) c.length
    have hsp : spotP S own mode p = if z < 0 then none else some ⟨p.name, (c.map (fun x : NodeD => x.name)).getD z.toNat ⟨#[]⟩, p.cpu, p.mem, p.alone⟩ := by rw [hz, hc, hN]; rfl
    rw [← hz] at hzb
    have hb : ∀ w' : World, PH.le σ3 (hp w') → Calls Tryd.prog 60 #[.slice an1 (c.map (fun x : NodeD => x.name)).length cn1, .slice as_ (c.map (goodP S own mode p)).length cs] w' fun e w'' => e = .returned (.int .i64 z) ∧ Below w'.heap.size w' w'' := fun w' hi' => by
      have h1 := best_c (c.map (fun x : NodeD => x.name)) (c.map (goodP S own mode p)) _ _ w' (hrn.mono hi') (hrs.mono (PH.le_trans hle3 hi')) (by simp)
      have e : (c.map (goodP S own mode p)).length = c.length := List.length_map _
      have e2 : bestTo (c.map (fun x : NodeD => x.name)) (c.map (goodP S own mode p)) (c.map (goodP S own mode p)).length = z := by rw [e, hz]
      rw [e2] at h1
      exact h1
    (repeat (first | refine RS.seq ?_ | refine RS.region ?_ | refine RS.regionQ ?_ (by kernel_rfl) (by kernel_rfl) | refine RS.skip ?_ | refine RS.inBlock ?_ | refine RS.block ?_ | refine RS.exit ?_)); refine mvL ?_; refine mvL ?_
    refine callP (v := .int .i64 z) ?_ (hc := fun w' hw => hb w' hw.imm)
    refine asI ?_; refine LS.done ?_
    (repeat (first | refine RS.seq ?_ | refine RS.region ?_ | refine RS.regionQ ?_ (by kernel_rfl) (by kernel_rfl) | refine RS.skip ?_ | refine RS.inBlock ?_ | refine RS.block ?_ | refine RS.exit ?_)); refine mvI ?_; refine ltI ?_; refine LS.done ?_
    (repeat (first | refine RS.seq ?_ | refine RS.region ?_ | refine RS.skip ?_ | refine RS.inBlock ?_ | refine RS.block ?_ | refine RS.exit ?_))
    have hle03 := PH.le_trans hle1 (PH.le_trans hle2 hle3)
    refine RS.cond (fun y => ?_) (fun y => ?_)
    · have y := of_decide_eq_true y
      rw [if_pos y] at hsp
      (repeat (first | refine RS.seq ?_ | refine RS.region ?_ | refine RS.regionQ ?_ (by kernel_rfl) (by kernel_rfl) | refine RS.skip ?_ | refine RS.inBlock ?_ | refine RS.block ?_ | refine RS.exit ?_)); refine bld (vals := []) [_, _, _, _, _] ?_; refine st (.agg _) _ ?_; refine asB ?_; refine LS.done ?_
      (repeat (first | refine RS.seq ?_ | refine RS.region ?_ | refine RS.regionQ ?_ (by kernel_rfl) (by kernel_rfl) | refine RS.skip ?_ | refine RS.inBlock ?_ | refine RS.block ?_ | refine RS.exit ?_))
      refine RS.retCT (ty := 41) (v := .bool false) Tryd.func36 (placeC zeroP) fun w hw => ?_
      exact ⟨by rw [hsp]; rfl, σ3, hle03, hw.weak fun F h => SepIn.tail (SepIn.tail h)⟩
    · have y := of_decide_eq_false y
      rw [if_neg y] at hsp
      have hlz : z.toNat < c.length := by omega
      obtain ⟨bn, on, rfl, _⟩ := hrn.addr (List.ne_nil_of_length_pos (by rw [List.length_map]; omega))
      obtain ⟨nb, hnb⟩ : ∃ nb, nb = (c.map (fun x : NodeD => x.name)).getD z.toNat ⟨#[]⟩ := ⟨_, rfl⟩
      have hcellz := RepL.strAt hrn rfl z.toNat (by rw [List.length_map]; exact hlz)
      rw [← hnb] at hsp hcellz
      have hnbs : nb.size ≤ 140737488355328 := by
        have : nb ∈ c.map (fun x : NodeD => x.name) := by rw [hnb, getD_of (by rw [List.length_map]; exact hlz)]; exact List.getElem_mem _
        obtain ⟨n, hn, rfl⟩ := List.mem_map.1 this
        rw [hc] at hn
        have h1 := (hmemN n (List.mem_filter.1 hn).1).2
        have := name_size (fine_name h1); omega
      refine RS.skip ?_
      (repeat (first | refine RS.seq ?_ | refine RS.region ?_ | refine RS.skip ?_ | refine RS.inBlock ?_ | refine RS.block ?_ | refine RS.exit ?_)); refine RS.drawK [.free, .ex, .free, .free, .free, .ex, .free, .ex, .free, .ex, .ex, .st, .free] ?_ (by kernel_rfl) (by kernel_rfl); refine D.fld ?_; refine D.ld1 (v := .string _) ?_; refine D.mvL ?_; refine D.mvI ?_; refine D.idx (i := z.toNat) ?_ (hj := by omega) (hi := by rw [List.length_map]; exact hlz); refine D.ldS hcellz ?_; refine D.fld ?_; refine D.ldA [.int .i64 p.cpu, .int .i64 p.mem] ?_; refine D.fld ?_; refine D.ld1 (v := .bool _) ?_; refine D.bldX (β := PlaceD) ⟨p.name, nb, p.cpu, p.mem, p.alone⟩ (fun us => [(0, .string p.name), (1, .string nb), (2, .agg (List.toArray [.int .i64 p.cpu, .int .i64 p.mem])), (3, .bool p.alone)]) ?_ (fun us σ' hle hf => ⟨_, rfl, rep_pl σ' ⟨p.name, nb, p.cpu, p.mem, p.alone⟩ hpn hnbs hpc hpm⟩)
      refine D.stA 70 (b := b8) (off := 0) (cs := placeC zeroP) (sz := 5) ?_ (fun us σ9 _ hf => ?_) (by show 0 + 5 ≤ 5; omega)
      rotate_left
      · have hq : RepA σ9 (us 70) (⟨p.name, nb, p.cpu, p.mem, p.alone⟩ : PlaceD) := hf.1
        exact ⟨Rep.len hq.cv, Rep.one hq.cv⟩
      refine D.asB ?_; refine D.done (fun us σ1 hle1 hfs => ?_)
      have hq : RepA σ1 (us 70) (⟨p.name, nb, p.cpu, p.mem, p.alone⟩ : PlaceD) := hfs.1
      obtain ⟨hq1, _⟩ := hq.cv
      rw [hq1]
      refine RS.ow ?_
      (repeat (first | refine RS.seq ?_ | refine RS.region ?_ | refine RS.regionQ ?_ (by kernel_rfl) (by kernel_rfl) | refine RS.skip ?_ | refine RS.inBlock ?_ | refine RS.block ?_ | refine RS.exit ?_))
      refine RS.retCT (ty := 41) (v := .bool true) Tryd.func36 (placeC ⟨p.name, nb, p.cpu, p.mem, p.alone⟩) fun w hw => ?_
      exact ⟨by rw [hsp]; rfl, σ1, PH.le_trans hle03 (by assumption), hw.weak fun F h => SepIn.tail (SepIn.tail h)⟩
end
end Go.Proofs.YthnoaapghcadgaaDoor
/- Contract: where all pods of a gang go. -/
namespace Go.JW
section
variable {P : Program} {f : FuncId} {R : Ending → World → Prop} {k : List Item} {n : Nat} {fr : Nat → Value} {w0 : World} {M : Nat → Prop} {σ : PH}
variable {rest : List Oper} {d : Nat} {ty : TypeId} {pos : String} {aft : Array Edge} {x y z : Operand} {t t' : TypeId}
variable {H : HS} {O : List (Nat × Obj)} {Kf : Us → List HP} {Kb : List HP} {E : List Nat} {tags : List Tag}
variable {α : Type} {ri : Rep α} {e : Nat}
/-- A new row, appended onto a slice with nothing in it: it is not written any more. -/
theorem D.appC {s by_ : Nat} {zs : List Value} {vy : Us → Value} (a : Option Addr) (l' : List α) [ht : TSlice P t e] [hs : TSz P e s] [hby : TBytes P e by_] [hz : TZero P e zs]
    (h : LD P f R k n w0 M σ Kb rest tags ⟨fr, (d, fun v σ => RepL σ v l') :: H, O, Kf, E, false⟩)
    (hsrc : ∀ us σ', PH.le σ σ' → Facts H (readsTmp ⟨some d, .call ⟨.builtin .append, #[x, y], #[t, t']⟩, ty, pos, aft, none⟩) us σ' → RepL σ' (vy us) l')
    (hx : ∀ us, ev n (fill fr H us) x = .slice a 0 0 := by intro _; rfl) (hy : ∀ us, ev n (fill fr H us) y = vy us := by intro _; rfl) (hk : ∃ e', P.underlying t' = some (.slice e') := by exact ⟨_, TSlice.eq⟩)
    (hss : s = Rep.sz α := by rfl) (hzs : Nat.beq zs.length s = true := by rfl) (hb : l'.length * by_ ≤ 140737488355328 := by first | omega | (simp only [List.length_cons, List.length_nil]; omega)) (hm : l'.length ≤ 140737488355328 := by first | omega | (simp only [List.length_cons, List.length_nil]; omega)) :
    LD P f R k n w0 M σ Kb (⟨some d, .call ⟨.builtin .append, #[x, y], #[t, t']⟩, ty, pos, aft, none⟩ :: rest) (.ex :: tags) ⟨fr, H, O, Kf, E, false⟩ :=
  D.gr (fun v σ => RepL σ v l') (fun _ _ _ h hs => h.mono hs) h fun us σ' w hle hfs hw => by
    have h1 := hsrc us σ' hle hfs
    obtain ⟨e', hk⟩ := hk
    have hs0 := hw.restW
    obtain ⟨news, g1, g2⟩ := srcD (t' := t') hs0 hk h1 (PH.le_refl _)
    have hw0 : Sat w (fun b => σ' b = none) σ' (rowD 0 e (.slice a 0 0) ([] : List α) :: [restHP w σ' []]) w := hs0.weak fun F hF => ⟨fun _ => False, ⟨[], rfl, by simp, rfl, a, 0, rfl, by simp, by simp, .inl ⟨rfl, rfl⟩⟩, fun _ h => h.elim, hF.mono fun b hb => ⟨hb, fun h => h⟩⟩
    obtain ⟨v', w', h3, h4⟩ := appRunD (t := t) (t' := t') (ty := ty) (v := .slice a 0 0) (FindD.head) hw0 ⟨news, by subst hss; exact g1, by rw [fromN_zero]; exact g2⟩ hss hzs (by simpa using hb) (by simpa using hm)
    obtain ⟨σ'', h5, h6, h7⟩ := h4.freeze0 (by simpa using hm) FindD.head
    obtain ⟨h8, h9⟩ := Sat.restEnd hw.imm h5 h7
    exact .inl ⟨v', w', by simp [execOp, resolve, invoke, builtin, hx us, hy us, h3], h8, by simpa using h6.mono h9⟩
end
end Go.JW
namespace Go.Proofs.YthnoaapghcadgaaDoor
open Go.JW Go.RowKit
section
variable {w0 w : World} {M : Nat → Prop} {σ : PH} {K : List HP} {bl bs : Nat} {S : LedD}
def allE (o : Option (List PlaceD)) : Int := match o with | none => 6 | some _ => 0
theorem all_s (pods : List PodD) (vP vN : Value) (mode : Int) {kk : Nat} (hi : LedInv S kk) (hk : kk ≤ 1000000) (hl : pods.length ≤ 800) (hT : TopsAt σ) (hp' : RepL σ vP pods) (hr : RepL σ vN (nodesOf S)) (hw : Sat w0 M σ (SK bl bs (.slice none 0 0) S [] ++ K) w) :
    Calls Tryd.prog 21 #[vP, vN, .iface 66 (.pointer (some ⟨bs, 0, none⟩)), .int .i64 mode] w fun e w' => ∃ (v : Value) (σ' : PH), e = .returned (.tuple #[v, .int .i64 (allE (allP S mode pods []))]) ∧ PH.le σ σ' ∧ RepL σ' v ((allP S mode pods []).getD []) ∧ Sat w0 M σ' (ledHP bl S :: K) w' := by
  obtain ⟨apo, cpo, rfl⟩ := hp'.form
  obtain ⟨an, cn, rfl⟩ := hr.form
  refine RS.enterK Tryd.func21 Tryd.ntmps21 rfl rfl hw ?_
  refine RS.to (K' := ledHP bl S :: blk bs (.cells (List.toArray [.pointer (some ⟨bl, 0, none⟩), .slice none 0 0]) 68 (0, 0)) :: rowD 0 41 (.slice none 0 0) ([] : List PlaceD) :: K) ?_ ⟨fun h => h⟩
  (repeat (first | refine RS.seq ?_ | refine RS.region ?_ | refine RS.regionQ ?_ (by kernel_rfl) (by kernel_rfl) | refine RS.skip ?_ | refine RS.inBlock ?_ | refine RS.block ?_ | refine RS.exit ?_)); refine asL ?_; refine asI ?_; refine LS.done ?_
  (repeat (first | refine RS.seq ?_ | refine RS.region ?_ | refine RS.regionQ ?_ (by kernel_rfl) (by kernel_rfl) | refine RS.skip ?_ | refine RS.inBlock ?_ | refine RS.block ?_ | refine RS.exit ?_)); refine mv ?_; refine tyA (.pointer (some ⟨bs, 0, none⟩)) ?_; refine mvT ?_; refine extr (v := .pointer _) ?_; refine extr (v := .bool _) ?_; refine asP ?_; refine asB ?_; refine LS.done ?_
  (repeat (first | refine RS.seq ?_ | refine RS.region ?_ | refine RS.regionQ ?_ (by kernel_rfl) (by kernel_rfl) | refine RS.skip ?_ | refine RS.inBlock ?_ | refine RS.block ?_ | refine RS.exit ?_)); refine mvB ?_; refine not_ ?_; refine LS.done ?_
  (repeat (first | refine RS.seq ?_ | refine RS.region ?_ | refine RS.regionQ ?_ (by kernel_rfl) (by kernel_rfl) | refine RS.skip ?_ | refine RS.inBlock ?_ | refine RS.block ?_ | refine RS.exit ?_)); refine RS.condF ?_
  (repeat (first | refine RS.seq ?_ | refine RS.region ?_ | refine RS.regionQ ?_ (by kernel_rfl) (by kernel_rfl) | refine RS.skip ?_ | refine RS.inBlock ?_ | refine RS.block ?_ | refine RS.exit ?_)); refine mvL ?_; refine lenL ?_; refine mvI ?_; refine LS.done ?_
  (repeat (first | refine RS.seq ?_ | refine RS.region ?_ | refine RS.regionQ ?_ (by kernel_rfl) (by kernel_rfl) | refine RS.skip ?_ | refine RS.inBlock ?_ | refine RS.block ?_ | refine RS.exit ?_))
  refine RS.loopF (X := Nat × Value × List PlaceD × PH) 12 55 (fun x => x.1 ≤ pods.length ∧ OwnOk S x.2.2.1 ∧ x.2.2.1.length = x.1 ∧ allP S mode pods [] = allP S mode (pods.drop x.1) x.2.2.1 ∧ PH.le σ x.2.2.2) (fun x => [(23, .slice apo pods.length cpo), (24, .int .i64 pods.length), (25, .int .i64 x.1)]) (fun x => x.2.2.2)
    (fun x => ledHP bl S :: blk bs (.cells (List.toArray [.pointer (some ⟨bl, 0, none⟩), x.2.1]) 68 (0, 0)) :: rowD 0 41 x.2.1 x.2.2.1 :: K) (fun x => pods.length - x.1) (0, .slice none 0 0, [], σ) ⟨Nat.zero_le _, OwnOk.nil hi, rfl, rfl, PH.le_refl _⟩ ⟨rfl, rfl, rfl, trivial⟩ rfl ⟨fun h => h⟩ ?_
  rintro ⟨k, vO, own, σ1⟩ g ⟨(hk1 : k ≤ pods.length), (ho : OwnOk S own), (hol : own.length = k), hall, (hle1 : PH.le σ σ1)⟩ ih
  dsimp only at hall ⊢
  (repeat (first | refine RS.seq ?_ | refine RS.region ?_ | refine RS.regionQ ?_ (by kernel_rfl) (by kernel_rfl) | refine RS.skip ?_ | refine RS.inBlock ?_ | refine RS.block ?_ | refine RS.exit ?_)); refine ltI ?_; refine LS.done ?_
  (repeat (first | refine RS.seq ?_ | refine RS.region ?_ | refine RS.regionQ ?_ (by kernel_rfl) (by kernel_rfl) | refine RS.skip ?_ | refine RS.inBlock ?_ | refine RS.block ?_ | refine RS.exit ?_))
  by_cases hlt : k < pods.length
  · refine RS.condT ?_ (h := by simp; omega)
    obtain ⟨b, o, rfl, hrow⟩ := hp'.addr (List.ne_nil_of_length_pos (by omega))
    obtain ⟨vs, hc, hrp⟩ := hrow k hlt
    have hdr : pods.drop k = pods[k] :: pods.drop (k + 1) := List.drop_eq_getElem_cons hlt
    obtain ⟨p, hp⟩ : ∃ p, p = pods[k] := ⟨_, rfl⟩
    rw [← hp] at hrp hdr
    have hrp0 := Rep.mono hrp hle1
    obtain ⟨vp, vb, rfl, _, _, _, _, hv1, hv2⟩ := hrp
    obtain ⟨a1, c1, rfl⟩ := hv1.form
    obtain ⟨a2, c2, rfl⟩ := hv2.form
    have hc : ∀ j, j < 7 → σ.cell b (o + k * 7 + j) = _ := hc
    rw [hdr] at hall
    simp only [allP] at hall
    (repeat (first | refine RS.seq ?_ | refine RS.region ?_ | refine RS.regionQ ?_ (by kernel_rfl) (by kernel_rfl) | refine RS.skip ?_ | refine RS.inBlock ?_ | refine RS.block ?_ | refine RS.exit ?_)); refine idx (i := k) ?_; refine ldSA (vs := podC p (.slice a1 p.picks.length c1) (.slice a2 p.bears.length c2)) rfl (PH.cells_mono hle1 rfl hc) ?_; refine alloc_ (fun b13 => ?_); refine st (.agg _) _ ?_; refine LS.done ?_
    (repeat (first | refine RS.seq ?_ | refine RS.region ?_ | refine RS.regionQ ?_ (by kernel_rfl) (by kernel_rfl) | refine RS.skip ?_ | refine RS.inBlock ?_ | refine RS.block ?_ | refine RS.exit ?_)); refine ldA [_, _, _, _, _, _, _] ?_; refine mvL ?_; refine mv ?_; refine mvI ?_
    refine callX (X := PH) (fun _ => .tuple #[.agg (List.toArray (placeC ((spotP S own mode p).getD zeroP))), .bool (spotP S own mode p).isSome]) (fun x => x) (fun _ => _) (fun x => PH.le σ1 x) (fun σ2 hle2 => ?_) (fun w' hw => (place_s p a1 a2 c1 c2 _ mode hi hk ho (by omega) (hT.mono hle1) hrp0 (hr.mono hle1) (hw.front [_] (SK bl bs vO S own))).mono fun _ _ ⟨he, σ', hle, hs⟩ => ⟨σ', he, hs.front (SK bl bs vO S own) [_], hle⟩)
    refine LS.to (K' := blk b13 (.cells (List.toArray (podC p (.slice a1 p.picks.length c1) (.slice a2 p.bears.length c2))) 36 (0, 0)) :: ledHP bl S :: blk bs (.cells (List.toArray [.pointer (some ⟨bl, 0, none⟩), vO]) 68 (0, 0)) :: rowD 0 41 vO own :: K) ?_ ⟨fun h => h⟩
    refine mvT ?_; refine extr (v := _) ?_; refine extr (v := .bool _) ?_; refine alloc_ (fun b14 => ?_); refine st (.agg _) _ ?_; refine asB ?_; refine LS.done ?_
    (repeat (first | refine RS.seq ?_ | refine RS.region ?_ | refine RS.regionQ ?_ (by kernel_rfl) (by kernel_rfl) | refine RS.skip ?_ | refine RS.inBlock ?_ | refine RS.block ?_ | refine RS.exit ?_)); refine mvB ?_; refine not_ ?_; refine LS.done ?_
    (repeat (first | refine RS.seq ?_ | refine RS.region ?_ | refine RS.skip ?_ | refine RS.inBlock ?_ | refine RS.block ?_ | refine RS.exit ?_))
    rcases opt_cases (spotP S own mode p) with e | ⟨x, e⟩
    · rw [e] at hall ⊢
      refine RS.condT ?_
      (repeat (first | refine RS.seq ?_ | refine RS.region ?_ | refine RS.regionQ ?_ (by kernel_rfl) (by kernel_rfl) | refine RS.skip ?_ | refine RS.inBlock ?_ | refine RS.block ?_ | refine RS.exit ?_)); refine asL ?_; refine asI ?_; refine LS.done ?_
      (repeat (first | refine RS.seq ?_ | refine RS.region ?_ | refine RS.regionQ ?_ (by kernel_rfl) (by kernel_rfl) | refine RS.skip ?_ | refine RS.inBlock ?_ | refine RS.block ?_ | refine RS.exit ?_)); refine RS.ret2 (v := .slice _ _ _) (v' := .int _ _) Tryd.func21 fun w hw => ?_
      refine ⟨.slice none 0 0, σ2, by rw [hall]; rfl, PH.le_trans hle1 hle2, by rw [hall]; exact RepL.nil _ _ _, hw.weak fun F h => ?_⟩
      exact SepIn.cons_sub (fun _ h => h.tail.tail) (SepIn.tail (SepIn.tail h))
    · have ho2 := spot_ok hi hk ho e
      rw [e] at hall ⊢
      obtain ⟨n, hn, _, hxe⟩ := spot_some e
      obtain ⟨_, herr⟩ := node_asg hi hn
      have hns := name_size (fine_name herr)
      have hxr : Rep.rep (fromN 0 σ2) (placeC x) x := by
        obtain ⟨_, _, _, h1, _, h2, h3, _⟩ := hrp0
        rw [hxe]; exact rep_pl _ _ h1 (by show n.name.size ≤ _; omega) h2 h3
      refine RS.condF ?_
      refine RS.skip ?_
      refine RS.to (K' := blk b14 (.cells (List.toArray (placeC x)) 41 (0, 0)) :: ledHP bl S :: blk bs (.cells (List.toArray [.pointer (some ⟨bl, 0, none⟩), vO]) 68 (0, 0)) :: rowD 0 41 vO own :: K) ?_ ⟨fun h => SepIn.cons_sub (fun _ h => h.tail) h⟩
      (repeat (first | refine RS.seq ?_ | refine RS.region ?_ | refine RS.skip ?_ | refine RS.inBlock ?_ | refine RS.block ?_ | refine RS.exit ?_)); refine RS.draw [.free, .free, .free, .free, .ex, .ex, .ex, .eff, .free, .free, .st] [blk b14 (.cells (List.toArray (placeC x)) 41 (0, 0)), blk bs (.cells (List.toArray [.pointer (some ⟨bl, 0, none⟩), vO]) 68 (0, 0))] ?_ (by kernel_rfl) (by kernel_rfl) (by infer_instance); refine D.mvP ?_; refine D.mvP ?_; refine D.nilck ?_; refine D.fld ?_; refine D.ld1 (v := vO) ?_; refine D.ldA (placeC x) ?_; refine D.litT (α := PlaceD) (vs := fun _ => [.agg (List.toArray (placeC x))]) 0 [x] ?_ (fun us σ' hle hf => ⟨(by rw [fromN_zero] at hxr ⊢; exact Rep.mono hxr hle), trivial⟩); refine D.appD (vy := fun us => us 45) vO [x] ?_ (fun us σ' hle hf => ⟨_, hf.1, PH.le_refl _⟩); refine D.nilck ?_; refine D.fld ?_
      refine D.stU 46 (fun us => [.pointer (some ⟨bl, 0, none⟩), us 46]) ?_
      refine D.done (fun us σ4 hle4 hfs => ?_)
      refine RS.ow ?_
      (repeat (first | refine RS.seq ?_ | refine RS.region ?_ | refine RS.regionQ ?_ (by kernel_rfl) (by kernel_rfl) | refine RS.skip ?_ | refine RS.inBlock ?_ | refine RS.block ?_ | refine RS.exit ?_)); (first | refine addN ?_ | refine addI ?_); refine mvI ?_; refine LS.done ?_; (repeat (first | refine RS.seq ?_ | refine RS.region ?_ | refine RS.regionQ ?_ (by kernel_rfl) (by kernel_rfl) | refine RS.skip ?_ | refine RS.inBlock ?_ | refine RS.block ?_ | refine RS.exit ?_))
      exact ih (k + 1, us 46, own ++ [x], σ4) ⟨hlt, ho2, by simp [hol], hall, PH.le_trans hle1 (PH.le_trans hle2 hle4)⟩ (by (try dsimp only); omega) ⟨rfl, rfl, rfl, trivial⟩ (by repeat (first | with_reducible exact Out.refl _ _ _ | exact Out.hv | refine Out.upd ?_ | refine Out.hvIn ?_)) ⟨fun h => h.tail⟩ rfl
  · refine RS.condF ?_ (h := by simp; omega)
    obtain rfl : k = pods.length := by omega
    rw [List.drop_length] at hall
    simp only [allP] at hall
    refine RS.exit ?_
    refine RS.freeze0 (l := own) vO (fun σ2 hle2 hro => ?_) (hf := FindD.tail (i := FindD.tail (i := FindD.head)))
    obtain ⟨ao, co, rfl⟩ := hro.form
    have hok := ho
    (repeat (first | refine RS.seq ?_ | refine RS.region ?_ | refine RS.regionQ ?_ (by kernel_rfl) (by kernel_rfl) | refine RS.skip ?_ | refine RS.inBlock ?_ | refine RS.block ?_ | refine RS.exit ?_)); refine mvP ?_; refine nilck ?_; refine fld ?_; refine ld1 (v := .slice ao own.length co) ?_; refine LS.zeroD 0 PlaceD 41 none ?_; refine appD (v := .slice none 0 0) (l' := own) (vy := .slice ao own.length co) (fun w' hw => (srcD hw TSlice.eq hro (PH.le_refl _)).imp fun news h => ⟨h.1, CellsL.places h.2⟩) (fun v54 => ?_) (hb := by simp; omega) (hm := by simp; omega); refine as_ (v := v54) ?_; refine asI ?_; refine LS.done ?_
    (repeat (first | refine RS.seq ?_ | refine RS.region ?_ | refine RS.regionQ ?_ (by kernel_rfl) (by kernel_rfl) | refine RS.skip ?_ | refine RS.inBlock ?_ | refine RS.block ?_ | refine RS.exit ?_))
    refine RS.freeze0 (l := [] ++ own) v54 (fun σ3 hle3 hr3 => ?_) (hl := by rw [List.nil_append]; omega) (hf := FindD.head)
    rw [List.nil_append] at hr3
    obtain ⟨a3, c3, rfl⟩ := hr3.form
    refine RS.ret2 (v := .slice _ _ _) (v' := .int _ _) Tryd.func21 fun w hw => ?_
    refine ⟨_, σ3, by rw [hall]; rfl, PH.le_trans hle1 (PH.le_trans hle2 hle3), by rw [hall]; exact hr3, hw.weak fun F h => ?_⟩
    exact SepIn.cons_sub (fun _ h => h.tail) h
end
end Go.Proofs.YthnoaapghcadgaaDoor
/- Contract: a gang is placed. -/
namespace Go.JW
section
variable {P : Program} {ops : Array Oper} {f : FuncId} {R : Ending → World → Prop} {k : List Item} {n : Nat} {fr : Nat → Value} {w0 : World} {M : Nat → Prop} {σ : PH} {K : List HP}
variable {rest : List Oper} {d : Nat} {ty : TypeId} {pos : String} {aft : Array Edge} {x y : Operand} {t : TypeId}
/-- 'make' of a row with nothing in it, and room. -/
theorem mkD0 {α : Type} [Rep α] {e by_ s m : Nat} {zs : List Value} [ht : TSlice P t e] [hs : TSz P e s] [hby : TBytes P e by_] [hz : TZero P e zs]
    (h : ∀ v, LS P false ops f R k rest n (upd fr d v) w0 M σ (rowD 0 e v ([] : List α) :: K)) (hx : ev n fr x = .int .i64 0 := by rfl) (hy : ev n fr y = .int .i64 (m : Int) := by rfl)
    (hb : by_ * m ≤ 281474976710656 := by omega) (hm : m ≤ 9223372036854775807 := by omega) (hss : s = Rep.sz α := by rfl) :
    LS P false ops f R k (⟨some d, .makeSlice t x y, ty, pos, aft, none⟩ :: rest) n fr w0 M σ K :=
  LS.valW rfl rfl fun w hw => by
    have hbe := hby.eq
    have hse := hs.eq
    have hze := hz.eq
    unfold zeroOf at hze
    unfold szOf at hse
    cases hi : P.info? e with
    | none => simp [hi] at hse
    | some i =>
      cases hzz : i.zero with
      | none => simp [hi, hzz] at hze
      | some z' =>
        simp [hi] at hse hbe
        have hbm : (i.bytes : Int) * (m : Int) ≤ 281474976710656 := by
          have : ((i.bytes * m : Nat) : Int) ≤ 281474976710656 := by rw [hbe]; omega
          rwa [Int.natCast_mul] at this
        have := run_make (P := P) w t e i z' ht.eq hi hzz .i64 .i64 0 m (by omega) (by omega) hbm (by omega)
        simp only [Int.toNat_natCast, hse] at this
        have hA := hw.alloc (.cells (madeCells z'.cells (m * s)) e (0, 0))
        refine ⟨.slice (some ⟨w.heap.size, 0, none⟩) 0 m, w.alloc (.cells (madeCells z'.cells (m * s)) e (0, 0)), σ, rowD 0 e (.slice (some ⟨w.heap.size, 0, none⟩) 0 m) ([] : List α) :: K, by simp only [execOp, hx, hy]; simp [this], hA.weak fun F hF => ?_, h _⟩
        obtain ⟨F1, ⟨g1, g2⟩, g3, g4⟩ := hF
        have g2' : (hp (w.alloc (.cells (madeCells z'.cells (m * s)) e (0, 0)))) w.heap.size = some (.cells (madeCells z'.cells (m * s)) e (0, 0)) := g2
        exact ⟨F1, ⟨[], rfl, by simp, rfl, _, m, rfl, Nat.zero_le _, hm, .inr ⟨w.heap.size, (madeCells z'.cells (m * s)).toList, rfl, g1, by simpa using g2', by subst hss; simp [madeCells], by simp⟩⟩, g3, g4⟩
end
end Go.JW
namespace Go.Proofs.YthnoaapghcadgaaDoor
open Go.JW Go.RowKit
theorem insNil {α : Type} [Rep α] {g : VH} {e : Nat} {K : List HP} {F : Nat → Prop} (h : SepIn g K F) : SepIn g (rowD 0 e (.slice none 0 0) ([] : List α) :: K) F :=
  ⟨fun _ => False, ⟨[], rfl, by simp, rfl, none, 0, rfl, by simp, by simp, .inl ⟨rfl, rfl⟩⟩, fun _ h => h.elim, h.mono fun _ hb => ⟨hb, fun h => h⟩⟩
section
variable {w0 w : World} {M : Nat → Prop} {σ : PH} {K : List HP} {bl : Nat} {S : LedD}
theorem pack_s (g : Int) (pods : List PodD) (vP : Value) (mode : Int) {kk : Nat} (hi : LedInv S kk) (hk : kk ≤ 1000000) (hl : pods.length ≤ 800) (hT : TopsAt σ) (hp' : RepL σ vP pods) (hw : Sat w0 M σ (ledHP bl S :: K) w) :
    Calls Tryd.prog 12 #[.pointer (some ⟨bl, 0, none⟩), .int .i64 g, vP, .int .i64 mode] w fun e w' => ∃ (v : Value) (σ' : PH), e = .returned (.tuple #[v, .int .i64 (packE S g pods mode)]) ∧ PH.le σ σ' ∧ RepL σ' v (packL S g pods mode) ∧ Sat w0 M σ' (ledHP bl (packS S g pods mode) :: K) w' := by
  obtain ⟨apo, cpo, rfl⟩ := hp'.form
  refine RS.enterK Tryd.func12 Tryd.ntmps12 rfl rfl hw ?_
  (repeat (first | refine RS.seq ?_ | refine RS.region ?_ | refine RS.regionQ ?_ (by kernel_rfl) (by kernel_rfl) | refine RS.skip ?_ | refine RS.inBlock ?_ | refine RS.block ?_ | refine RS.exit ?_)); refine asL ?_; refine asI ?_; refine LS.done ?_
  (repeat (first | refine RS.seq ?_ | refine RS.region ?_ | refine RS.regionQ ?_ (by kernel_rfl) (by kernel_rfl) | refine RS.skip ?_ | refine RS.inBlock ?_ | refine RS.block ?_ | refine RS.exit ?_)); refine mvP ?_; refine mvI ?_
  refine placesL g hi (fun v15 σ1 hle1 hr15 => ?_)
  obtain ⟨a15, c15, rfl⟩ := hr15.form
  refine lenL ?_; refine gtI ?_; refine asB ?_; refine LS.done ?_
  (repeat (first | refine RS.seq ?_ | refine RS.region ?_ | refine RS.skip ?_ | refine RS.inBlock ?_ | refine RS.block ?_ | refine RS.exit ?_))
  refine RS.cond (fun z => ?_) (fun z => ?_)
  · have z : 0 < (tk S.taken g).length := by have := of_decide_eq_true z; omega
    have e : packE S g pods mode = 4 := by rw [packE, if_pos z]
    (repeat (first | refine RS.seq ?_ | refine RS.region ?_ | refine RS.regionQ ?_ (by kernel_rfl) (by kernel_rfl) | refine RS.skip ?_ | refine RS.inBlock ?_ | refine RS.block ?_ | refine RS.exit ?_)); refine asL ?_; refine asI ?_; refine LS.done ?_; (repeat (first | refine RS.seq ?_ | refine RS.region ?_ | refine RS.regionQ ?_ (by kernel_rfl) (by kernel_rfl) | refine RS.skip ?_ | refine RS.inBlock ?_ | refine RS.block ?_ | refine RS.exit ?_)); refine RS.ret2 (v := .slice _ _ _) (v' := .int _ _) Tryd.func12 fun w hw => ?_
    exact ⟨.slice none 0 0, σ1, by rw [e], hle1, by rw [packL, if_pos z]; exact RepL.nil _ _ _, by rw [packS, if_neg (by rw [e]; decide)]; exact hw⟩
  have z1 : ¬ 0 < (tk S.taken g).length := by have := of_decide_eq_false z; omega
  clear z
  (repeat (first | refine RS.seq ?_ | refine RS.region ?_ | refine RS.regionQ ?_ (by kernel_rfl) (by kernel_rfl) | refine RS.skip ?_ | refine RS.inBlock ?_ | refine RS.block ?_ | refine RS.exit ?_)); refine mvL ?_; refine lenL ?_; refine eqI ?_; refine asB ?_; refine LS.done ?_
  (repeat (first | refine RS.seq ?_ | refine RS.region ?_ | refine RS.skip ?_ | refine RS.inBlock ?_ | refine RS.block ?_ | refine RS.exit ?_))
  refine RS.cond (fun z => ?_) (fun z => ?_)
  · have z : pods.length = 0 := by have := of_decide_eq_true z; omega
    have e : packE S g pods mode = 3 := by rw [packE, if_neg z1, if_pos z]
    (repeat (first | refine RS.seq ?_ | refine RS.region ?_ | refine RS.regionQ ?_ (by kernel_rfl) (by kernel_rfl) | refine RS.skip ?_ | refine RS.inBlock ?_ | refine RS.block ?_ | refine RS.exit ?_)); refine asL ?_; refine asI ?_; refine LS.done ?_; (repeat (first | refine RS.seq ?_ | refine RS.region ?_ | refine RS.regionQ ?_ (by kernel_rfl) (by kernel_rfl) | refine RS.skip ?_ | refine RS.inBlock ?_ | refine RS.block ?_ | refine RS.exit ?_)); refine RS.ret2 (v := .slice _ _ _) (v' := .int _ _) Tryd.func12 fun w hw => ?_
    exact ⟨.slice none 0 0, σ1, by rw [e], hle1, by rw [packL, if_neg z1, if_pos z]; exact RepL.nil _ _ _, by rw [packS, if_neg (by rw [e]; decide)]; exact hw⟩
  have z2 : ¬ pods.length = 0 := by have := of_decide_eq_false z; omega
  clear z
  have eE : packE S g pods mode = allE (allP S mode pods []) := by rw [packE, if_neg z1, if_neg z2]; rfl
  have eL : packL S g pods mode = (allP S mode pods []).getD [] := by rw [packL, if_neg z1, if_neg z2]
  (repeat (first | refine RS.seq ?_ | refine RS.region ?_ | refine RS.regionQ ?_ (by kernel_rfl) (by kernel_rfl) | refine RS.skip ?_ | refine RS.inBlock ?_ | refine RS.block ?_ | refine RS.exit ?_)); refine mvL ?_; refine mvP ?_
  refine nodesL hi (fun v25 σ2 hle2 hr25 => ?_)
  obtain ⟨a25, c25, rfl⟩ := hr25.form
  refine mvP ?_; refine bld (vals := [(0, .pointer (some ⟨bl, 0, none⟩))]) [.pointer (some ⟨bl, 0, none⟩), .slice none 0 0] ?_; refine box_ (v := .agg (List.toArray [.pointer (some ⟨bl, 0, none⟩), .slice none 0 0])) (cs := [.pointer (some ⟨bl, 0, none⟩), .slice none 0 0]) (fun b28 => ?_); refine mkI (.pointer (some ⟨b28, 0, none⟩)) ?_; refine mvI ?_
  refine callX (X := Value × PH) (fun x => .tuple #[x.1, .int .i64 (allE (allP S mode pods []))]) (fun x => x.2) (fun _ => ledHP bl S :: K) (fun x => PH.le σ2 x.2 ∧ RepL x.2 x.1 ((allP S mode pods []).getD [])) (fun x hx => ?_) (fun w' hw => (all_s (bs := b28) pods _ _ mode hi hk hl (hT.mono (PH.le_trans hle1 hle2)) (hp'.mono (PH.le_trans hle1 hle2)) hr25 (hw.weak fun F h => SepIn.cons_sub (fun _ h => SepIn.cons_sub (fun _ h => insNil h) h) h.swap)).mono fun _ _ ⟨v, σ', he, hle, hr, hs⟩ => ⟨(v, σ'), he, hs, hle, hr⟩)
  obtain ⟨v31, σ3⟩ := x
  obtain ⟨hle3, hr31⟩ := hx
  simp only at hle3 hr31 ⊢
  have hle03 := PH.le_trans hle1 (PH.le_trans hle2 hle3)
  obtain ⟨a31, c31, rfl⟩ := hr31.form
  refine mvT ?_; refine extr (v := .slice _ _ _) ?_; refine extr (v := .int _ _) ?_; refine asL ?_; refine asI ?_; refine LS.done ?_
  (repeat (first | refine RS.seq ?_ | refine RS.region ?_ | refine RS.regionQ ?_ (by kernel_rfl) (by kernel_rfl) | refine RS.skip ?_ | refine RS.inBlock ?_ | refine RS.block ?_ | refine RS.exit ?_)); refine mvI ?_; refine eqI ?_; refine LS.done ?_
  (repeat (first | refine RS.seq ?_ | refine RS.region ?_ | refine RS.skip ?_ | refine RS.inBlock ?_ | refine RS.block ?_ | refine RS.exit ?_))
  rcases opt_cases (allP S mode pods []) with e | ⟨out, e⟩
  · rw [e] at eE eL ⊢
    refine RS.condF ?_
    refine RS.skip ?_
    (repeat (first | refine RS.seq ?_ | refine RS.region ?_ | refine RS.regionQ ?_ (by kernel_rfl) (by kernel_rfl) | refine RS.skip ?_ | refine RS.inBlock ?_ | refine RS.block ?_ | refine RS.exit ?_)); refine mvI ?_; refine neI ?_; refine LS.done ?_
    (repeat (first | refine RS.seq ?_ | refine RS.region ?_ | refine RS.skip ?_ | refine RS.inBlock ?_ | refine RS.block ?_ | refine RS.exit ?_))
    refine RS.condT ?_
    (repeat (first | refine RS.seq ?_ | refine RS.region ?_ | refine RS.regionQ ?_ (by kernel_rfl) (by kernel_rfl) | refine RS.skip ?_ | refine RS.inBlock ?_ | refine RS.block ?_ | refine RS.exit ?_)); refine mvI ?_; refine asL ?_; refine asI ?_; refine LS.done ?_; (repeat (first | refine RS.seq ?_ | refine RS.region ?_ | refine RS.regionQ ?_ (by kernel_rfl) (by kernel_rfl) | refine RS.skip ?_ | refine RS.inBlock ?_ | refine RS.block ?_ | refine RS.exit ?_)); refine RS.ret2 (v := .slice _ _ _) (v' := .int _ _) Tryd.func12 fun w hw => ?_
    exact ⟨.slice none 0 0, σ3, by rw [eE], hle03, by rw [eL]; exact RepL.nil _ _ _, by rw [packS, if_neg (by rw [eE]; decide)]; exact hw⟩
  · obtain ⟨ho, hol⟩ := all_ok hi hk (OwnOk.nil hi) e
    simp only [List.length_nil, Nat.zero_add] at hol
    have ht := take_all (g := g) ho z1 (by omega)
    rw [e] at eE eL hr31 ⊢
    simp only [Option.getD_some] at eL hr31 ⊢
    refine RS.condT ?_
    (repeat (first | refine RS.seq ?_ | refine RS.region ?_ | refine RS.regionQ ?_ (by kernel_rfl) (by kernel_rfl) | refine RS.skip ?_ | refine RS.inBlock ?_ | refine RS.block ?_ | refine RS.exit ?_)); refine mvP ?_; refine mvI ?_; refine mvL ?_
    refine takeL' g _ out 0 ⟨S.nodes, aset S.taken g out⟩ hi hk ht (by rw [takeT, if_pos ht]) (by omega) (ArgL.of hr31) (fun σ4 hle4 => ?_)
    refine asI ?_; refine LS.done ?_
    (repeat (first | refine RS.seq ?_ | refine RS.region ?_ | refine RS.regionQ ?_ (by kernel_rfl) (by kernel_rfl) | refine RS.skip ?_ | refine RS.inBlock ?_ | refine RS.block ?_ | refine RS.exit ?_)); refine mvI ?_; refine neI ?_; refine LS.done ?_
    (repeat (first | refine RS.seq ?_ | refine RS.region ?_ | refine RS.skip ?_ | refine RS.inBlock ?_ | refine RS.block ?_ | refine RS.exit ?_))
    refine RS.condF ?_
    (repeat (first | refine RS.seq ?_ | refine RS.region ?_ | refine RS.regionQ ?_ (by kernel_rfl) (by kernel_rfl) | refine RS.skip ?_ | refine RS.inBlock ?_ | refine RS.block ?_ | refine RS.exit ?_)); refine mvL ?_; refine lenL ?_; refine mkD0 (α := PlaceD) (m := out.length) (fun v45 => ?_); refine mvL ?_; refine appD (v := v45) (l' := out) (vy := .slice a31 out.length c31) (fun w' hw => (srcD hw TSlice.eq (hr31.mono hle4) (PH.le_refl _)).imp fun news h => ⟨h.1, CellsL.places h.2⟩) (fun v47 => ?_) (hb := by simp; omega) (hm := by simp; omega); refine as_ (v := v47) ?_; refine asI ?_; refine LS.done ?_
    (repeat (first | refine RS.seq ?_ | refine RS.region ?_ | refine RS.regionQ ?_ (by kernel_rfl) (by kernel_rfl) | refine RS.skip ?_ | refine RS.inBlock ?_ | refine RS.block ?_ | refine RS.exit ?_))
    refine RS.freeze0 (l := [] ++ out) v47 (fun σ5 hle5 hr5 => ?_) (hl := by rw [List.nil_append]; omega) (hf := FindD.head)
    rw [List.nil_append] at hr5
    obtain ⟨a5, c5, rfl⟩ := hr5.form
    refine RS.ret2 (v := .slice _ _ _) (v' := .int _ _) Tryd.func12 fun w hw => ?_
    exact ⟨_, σ5, by rw [eE]; rfl, PH.le_trans hle03 (PH.le_trans hle4 hle5), by rw [eL]; exact hr5, by rw [packS, if_pos (by rw [eE]; rfl), eL]; exact hw⟩
end
end Go.Proofs.YthnoaapghcadgaaDoor
/- Contracts: what the statements of chapter 8 have in common. -/
namespace Go.Proofs.YthnoaapghcadgaaDoor
open Go.JW Go.RowKit
theorem packS_take {S : LedD} {g : Int} {pods : List PodD} {mode : Int} {kk : Nat} (hi : LedInv S kk) (hk : kk ≤ 1000000) (h : packE S g pods mode = 0) : packS S g pods mode = ⟨S.nodes, takeT S g (packL S g pods mode)⟩ ∧ takeE S g (packL S g pods mode) = 0 ∧ (packL S g pods mode).length = pods.length ∧ (tk S.taken g).length = 0 := by
  have hs : packS S g pods mode = ⟨S.nodes, aset S.taken g (packL S g pods mode)⟩ := by rw [packS, if_pos h]
  unfold packE at h
  by_cases z1 : 0 < (tk S.taken g).length
  · rw [if_pos z1] at h; exact absurd h (by decide)
  rw [if_neg z1] at h
  by_cases z2 : pods.length = 0
  · rw [if_pos z2] at h; exact absurd h (by decide)
  rw [if_neg z2] at h
  rcases opt_cases (allP S mode pods []) with e | ⟨out, e⟩
  · rw [e] at h; exact absurd h (by decide)
  · have eL : packL S g pods mode = out := by rw [packL, if_neg z1, if_neg z2, e]; rfl
    obtain ⟨ho, hol⟩ := all_ok hi hk (OwnOk.nil hi) e
    simp only [List.length_nil, Nat.zero_add] at hol
    have ht := take_all (g := g) ho z1 (by omega)
    rw [eL] at hs ⊢
    exact ⟨by rw [hs, takeT, if_pos ht], ht, hol, by omega⟩
theorem LedInv.pack {S : LedD} {kk : Nat} (hi : LedInv S kk) (hk : kk ≤ 1000000) (g : Int) (pods : List PodD) (mode : Int) (m : Nat) (hm : pods.length ≤ m) (hm2 : pods.length ≤ 800) : LedInv (packS S g pods mode) (kk + m) := by
  by_cases h : packE S g pods mode = 0
  · obtain ⟨h1, h2, h3, _⟩ := packS_take hi hk h
    rw [h1]; exact hi.take (by omega) (by omega)
  · rw [packS, if_neg h]
    exact ⟨hi.nodes, hi.keys, hi.some_, hi.right, hi.there, hi.fits, fun nm => by have := hi.count nm; omega, hi.size⟩
section
variable {q : Bool} {ops : Array Oper} {f : FuncId} {R : Ending → World → Prop} {k : List Item} {n : Nat} {fr : Nat → Value} {w0 : World} {M : Nat → Prop} {σ : PH} {K K' : List HP}
variable {rest : List Oper} {d : Nat} {ty : TypeId} {pos : String} {aft : Array Edge} {xs : Array Operand} {ts : Array TypeId} {bl : Nat} {S : LedD} {put : HP → List HP}
theorem packLL (g : Int) (pods : List PodD) (vP : Value) (mode : Int) {kk : Nat} (hi : LedInv S kk) (hk : kk ≤ 1000000) (hl : pods.length ≤ 800) (hT : TopsAt σ) (hp' : RepL σ vP pods)
    (h : ∀ v σ', PH.le σ σ' → RepL σ' v (packL S g pods mode) → LS Tryd.prog false ops f R k rest n (upd fr d (.tuple #[v, .int .i64 (packE S g pods mode)])) w0 M σ' (put (ledHP bl (packS S g pods mode))))
    (hx : xs.toList.map (ev n fr) = [.pointer (some ⟨bl, 0, none⟩), .int .i64 g, vP, .int .i64 mode] := by rfl) (hf : FindL bl K S put K' := by infer_instance) :
    LS Tryd.prog false ops f R k (⟨some d, .call ⟨.value (.func 12), xs, ts⟩, ty, pos, aft, none⟩ :: rest) n fr w0 M σ K :=
  LS.enterW rfl rfl (fun w _ => exec_call Fun.eq hx w) fun w hw => (pack_s g pods vP mode hi hk hl hT hp' (hw.weak fun _ => hf.get)).mono fun _ _ ⟨v, σ', he, hle, hr, hs⟩ => ⟨_, σ', _, he, hs.weak fun _ => hf.set, h v σ' hle hr⟩
theorem packLL' (g : Int) (pods : List PodD) (vP : Value) (mode E : Int) (L : List PlaceD) (S' : LedD) {kk : Nat} (hi : LedInv S kk) (hk : kk ≤ 1000000) (hl : pods.length ≤ 800) (hT : TopsAt σ) (hp' : RepL σ vP pods) (hE : packE S g pods mode = E) (hL : packL S g pods mode = L) (hS : packS S g pods mode = S')
    (h : ∀ v σ', PH.le σ σ' → RepL σ' v L → LS Tryd.prog false ops f R k rest n (upd fr d (.tuple #[v, .int .i64 E])) w0 M σ' (put (ledHP bl S')))
    (hx : xs.toList.map (ev n fr) = [.pointer (some ⟨bl, 0, none⟩), .int .i64 g, vP, .int .i64 mode] := by rfl) (hf : FindL bl K S put K' := by infer_instance) :
    LS Tryd.prog false ops f R k (⟨some d, .call ⟨.value (.func 12), xs, ts⟩, ty, pos, aft, none⟩ :: rest) n fr w0 M σ K := by
  subst hE; subst hL; subst hS; exact packLL g pods vP mode hi hk hl hT hp' h hx hf
end
def podsTo (ns : List Int) (k : Nat) : List PodD := (List.range k).map fun (i : Nat) => podOf (i : Int) (ns.getD i 0) 1
def podsOf (ns : List Int) : List PodD := podsTo ns (min 8 ns.length)
theorem podsTo_succ (ns : List Int) (k : Nat) : podsTo ns (k + 1) = podsTo ns k ++ [podOf (k : Int) (ns.getD k 0) 1] := by simp [podsTo, List.range_succ]
theorem podsTo_len (ns : List Int) (k : Nat) : (podsTo ns k).length = k := by simp [podsTo]
theorem podsOf_len (ns : List Int) : (podsOf ns).length ≤ 8 := by rw [podsOf, podsTo_len]; omega
theorem pods8O_c (ns : List Int) (vn : Value) (w : World) (hr : RepL (hp w) vn ns) : Calls Tryd.prog 14 #[vn] w fun e w' => ∃ v τ, e = .returned v ∧ Post τ [rowD w.heap.size 36 v (podsOf ns)] w w' := by
  obtain ⟨an, cn, rfl⟩ := hr.form
  have hlen : ns.length ≤ 140737488355328 := hr.1
  refine RS.enter Tryd.func14 Tryd.ntmps14 rfl rfl ?_
  (repeat (first | refine RS.seq ?_ | refine RS.region ?_ | refine RS.regionQ ?_ (by kernel_rfl) (by kernel_rfl) | refine RS.skip ?_ | refine RS.inBlock ?_ | refine RS.block ?_ | refine RS.exit ?_)); refine asL ?_; refine LS.done ?_
  (repeat (first | refine RS.seq ?_ | refine RS.region ?_ | refine RS.regionQ ?_ (by kernel_rfl) (by kernel_rfl) | refine RS.skip ?_ | refine RS.inBlock ?_ | refine RS.block ?_ | refine RS.exit ?_)); refine asL ?_; refine LS.done ?_
  refine RS.nilD w.heap.size PodD 36 ?_
  (repeat (first | refine RS.seq ?_ | refine RS.region ?_ | refine RS.regionQ ?_ (by kernel_rfl) (by kernel_rfl) | refine RS.skip ?_ | refine RS.inBlock ?_ | refine RS.block ?_ | refine RS.exit ?_)); refine asI ?_; refine LS.done ?_
  (repeat (first | refine RS.seq ?_ | refine RS.region ?_ | refine RS.regionQ ?_ (by kernel_rfl) (by kernel_rfl) | refine RS.skip ?_ | refine RS.inBlock ?_ | refine RS.block ?_ | refine RS.exit ?_))
  refine RS.loopF (X := Nat × Value × PH) 3 25 (fun x => x.1 ≤ 8 ∧ x.1 ≤ ns.length ∧ PH.le (hp w) x.2.2) (fun x => [(3, x.2.1), (4, .int .i64 x.1)]) (fun x => x.2.2) (fun x => [rowD w.heap.size 36 x.2.1 (podsTo ns x.1)]) (fun x => 8 - x.1) (0, .slice none 0 0, hp w) ⟨by omega, by omega, PH.le_refl _⟩ ⟨rfl, rfl, trivial⟩ rfl ⟨fun h => h⟩ ?_
  rintro ⟨i, v, σ⟩ g ⟨hi3, hin, hle⟩ ih
  simp only at hi3 hin hle ih ⊢
  (repeat (first | refine RS.seq ?_ | refine RS.region ?_ | refine RS.regionQ ?_ (by kernel_rfl) (by kernel_rfl) | refine RS.skip ?_ | refine RS.inBlock ?_ | refine RS.block ?_ | refine RS.exit ?_)); refine mvI ?_; refine mvL ?_; refine lenL ?_; refine ltI ?_; refine mvB ?_
  refine LS.cut 9 13 [(12, .bool (decide (i < 8 ∧ i < ns.length)))] (fun gg => ?_) (fun J => ?_)
  rotate_left
  · refine LS.part 9 (fun g1 => ?_) (fun g1 => ?_)
    · refine LS.on ?_; refine mvI ?_; refine LS.on ?_; refine ltI ?_; refine pk (v := .bool _) ?_; refine LS.done ?_
      simp only [decide_eq_true_eq] at g1
      exact J ⟨boolV (decide_eq_decide.2 (by omega)), trivial⟩ (by repeat (first | with_reducible exact Out.refl _ _ _ | exact Out.hv | refine Out.upd ?_ | refine Out.hvIn ?_))
    · refine LS.off ?_; refine LS.off ?_; refine pk (v := .bool _) ?_; refine LS.done ?_
      simp only [decide_eq_false_iff_not] at g1
      exact J ⟨boolV (by symm; exact decide_eq_false (by omega)), trivial⟩ (by repeat (first | with_reducible exact Out.refl _ _ _ | exact Out.hv | refine Out.upd ?_ | refine Out.hvIn ?_))
  (repeat (first | refine RS.seq ?_ | refine RS.region ?_ | refine RS.regionQ ?_ (by kernel_rfl) (by kernel_rfl) | refine RS.skip ?_ | refine RS.inBlock ?_ | refine RS.block ?_ | refine RS.exit ?_))
  have hpl := podsTo_len ns i
  refine RS.cond (fun c => ?_) (fun c => ?_)
  · simp only [decide_eq_true_eq] at c
    obtain ⟨b, o, rfl, hrow⟩ := hr.addr (fun h => by simp [h] at c)
    obtain ⟨hcell, h64⟩ := (hrow.mono hle).int i c.2
    have hgd : ns[i] = ns.getD i 0 := by simp [List.getD_eq_getElem?_getD, c.2]
    rw [hgd] at hcell h64
    obtain ⟨x, hx⟩ : ∃ x, x = ns.getD i 0 := ⟨_, rfl⟩
    have hsucc := podsTo_succ ns i
    rw [← hx] at hcell h64 hsucc
    obtain ⟨pd, hpd⟩ : ∃ pd, pd = podOf (i : Int) x 1 := ⟨_, rfl⟩
    rw [← hpd] at hsucc
    (repeat (first | refine RS.seq ?_ | refine RS.region ?_ | refine RS.regionQ ?_ (by kernel_rfl) (by kernel_rfl) | refine RS.skip ?_ | refine RS.inBlock ?_ | refine RS.block ?_ | refine RS.exit ?_)); refine mv (v := v) ?_; refine mvI ?_; refine mvL ?_; refine mvI ?_; refine idx (i := i) ?_; refine ldS hcell ?_
    refine callT (fun v τ => RepA τ v pd) (fun v21 τ2 σ2 hq2 hN2 hle2 hτ2 => ?_) (fun w' hw => by rw [hpd]; exact lpod_c (i : Int) x 1 (by omega) h64 (by omega) w')
    obtain ⟨cs21, rfl, hr21⟩ := hq2
    have hr210 := Rep.mono hr21 (hN2.le_from (Nat.le_refl _) hτ2)
    obtain ⟨v3, v4, rfl, _, _, _, _, hv3, hv4⟩ := hr21
    obtain ⟨a3, c3, rfl⟩ := hv3.form
    obtain ⟨a4, c4, rfl⟩ := hv4.form
    refine bldS [.agg (List.toArray (podC pd (.slice a3 pd.picks.length c3) (.slice a4 pd.bears.length c4)))] (podC pd (.slice a3 pd.picks.length c3) (.slice a4 pd.bears.length c4)) (fun b22 => ?_); refine appD (v := v) (l' := [pd]) (vy := .slice (some ⟨b22, 0, none⟩) 1 1) (fun w' hw => ⟨_, srcB hw TSlice.eq, CellsL.one_ hr210⟩) (fun v23 => ?_) (hb := by simp; omega) (hm := by simp; omega); refine as_ (v := v23) ?_; refine LS.done ?_
    (repeat (first | refine RS.seq ?_ | refine RS.region ?_ | refine RS.regionQ ?_ (by kernel_rfl) (by kernel_rfl) | refine RS.skip ?_ | refine RS.inBlock ?_ | refine RS.block ?_ | refine RS.exit ?_)); refine mvI ?_; (first | refine addN ?_ | refine addI ?_); refine asI ?_; refine LS.done ?_; (repeat (first | refine RS.seq ?_ | refine RS.region ?_ | refine RS.regionQ ?_ (by kernel_rfl) (by kernel_rfl) | refine RS.skip ?_ | refine RS.inBlock ?_ | refine RS.block ?_ | refine RS.exit ?_))
    exact ih (i + 1, v23, σ2) ⟨by (try dsimp only); omega, by (try dsimp only); omega, PH.le_trans hle hle2⟩ (by (try dsimp only); omega) ⟨rfl, rfl, trivial⟩ (by repeat (first | with_reducible exact Out.refl _ _ _ | exact Out.hv | refine Out.upd ?_ | refine Out.hvIn ?_)) ⟨fun h => by dsimp only; rw [hsucc]; exact h.tail⟩ rfl
  · simp only [decide_eq_false_iff_not] at c
    have hi : i = min 8 ns.length := by omega
    (repeat (first | refine RS.seq ?_ | refine RS.region ?_ | refine RS.regionQ ?_ (by kernel_rfl) (by kernel_rfl) | refine RS.skip ?_ | refine RS.inBlock ?_ | refine RS.block ?_ | refine RS.exit ?_)); refine mv (v := v) ?_; refine as_ (v := v) ?_; refine LS.done ?_
    (repeat (first | refine RS.seq ?_ | refine RS.region ?_ | refine RS.regionQ ?_ (by kernel_rfl) (by kernel_rfl) | refine RS.skip ?_ | refine RS.inBlock ?_ | refine RS.block ?_ | refine RS.exit ?_))
    refine RS.formD (l := podsTo ns i) v (fun av cv ev _ => ?_); subst ev
    refine RS.ret1 (v := .slice _ _ _) Tryd.func14 fun w hw => ?_
    exact ⟨_, _, rfl, by rw [podsOf, ← hi]; exact hw.postD rfl⟩
theorem pods8_c (ns : List Int) (vn : Value) (w : World) (hr : RepL (hp w) vn ns) : Calls Tryd.prog 14 #[vn] w fun e w' => ∃ v, e = .returned v ∧ Below w.heap.size w w' ∧ RepL (since w w') v (podsOf ns) :=
  (pods8O_c ns vn w hr).mono fun _ _ ⟨v, _, he, hp'⟩ => ⟨v, he, hp'.below, hp'.row (by have := podsOf_len ns; omega)⟩
end Go.Proofs.YthnoaapghcadgaaDoor
/- Contract: chapter 8's example. -/
namespace Go.Proofs.YthnoaapghcadgaaDoor
open Go.JW Go.RowKit
theorem sortK_lone {α : Type} (nm : ByteArray) (x : α) : sortK [(nm, x)] = [(nm, x)] := List.perm_singleton.1 (sortK_perm _)
theorem blkRow {α : Type} [Rep α] {g : VH} {b e : Nat} {cs : List Value} {x : α} {K : List HP} {F : Nat → Prop} (hx : ∀ σ, Rep.rep σ cs x) (h : SepIn g (blk b (.cells (List.toArray cs) e (0, 0)) :: K) F) : SepIn g (rowD 0 e (.slice (some ⟨b, 0, none⟩) 1 1) [x] :: K) F := by
  obtain ⟨F1, ⟨g1, g2⟩, g3, g4⟩ := h
  have hl := Rep.len (hx (fun _ => none))
  have h1 := Rep.one (hx (fun _ => none))
  exact ⟨F1, ⟨cs, CellsL.one_ (hx _), by simp [hl], h1, _, 1, rfl, Nat.le_refl _, by decide, .inr ⟨b, cs, rfl, g1, g2, by omega, by simp [← hl]⟩⟩, g3, g4⟩
def podK : PodD := ⟨nmP, 1, 0, 0, [], [], false⟩
def knownS : LedD := ⟨[(nmN, nodeN nmN 0 0)], []⟩
theorem podK_rep (σ : PH) : Rep.rep σ (podC podK (.slice none 0 0) (.slice none 0 0)) podK := ⟨_, _, rfl, by decide, by decide, by decide, by decide, RepL.nil _ _ _, RepL.nil _ _ _⟩
theorem known_e1 : packE ⟨[], []⟩ 1 [podK] 0 = 6 := by kernel_rfl
theorem known_n : nodesOf knownS = [nodeN nmN 0 0] := by simp [nodesOf, knownS, sortK_lone]
theorem known_sp : spotP knownS [] 0 podK = some (placeP nmP nmN 0 0) := by
  unfold spotP
  rw [known_n]
  kernel_rfl
theorem known_e2 : packE knownS 1 [podK] 0 = 0 ∧ packL knownS 1 [podK] 0 = [placeP nmP nmN 0 0] := by
  have h : allP knownS 0 [podK] [] = some [placeP nmP nmN 0 0] := by simp only [allP, known_sp]; rfl
  have z1 : ¬ 0 < (tk knownS.taken 1).length := by simp [tk, knownS, asg]
  exact ⟨by rw [packE, if_neg z1, if_neg (by simp), h], by rw [packL, if_neg z1, if_neg (by simp), h]; rfl⟩
theorem known8_c (w : World) (hT : TopsAt (hp w)) : Calls Tryd.prog 8 #[] w fun e w' => e = .returned (.bool true) ∧ Below w.heap.size w w' := by
  refine RS.enter Tryd.func8 Tryd.ntmps8 rfl rfl ?_
  (repeat (first | refine RS.seq ?_ | refine RS.region ?_ | refine RS.regionQ ?_ (by kernel_rfl) (by kernel_rfl) | refine RS.skip ?_ | refine RS.inBlock ?_ | refine RS.block ?_ | refine RS.exit ?_)); refine asB ?_; refine LS.done ?_
  (repeat (first | refine RS.seq ?_ | refine RS.region ?_ | refine RS.regionQ ?_ (by kernel_rfl) (by kernel_rfl) | refine RS.skip ?_ | refine RS.inBlock ?_ | refine RS.block ?_ | refine RS.exit ?_)); skip
  refine newL (fun bl => ?_)
  refine asP ?_; refine LS.done ?_
  (repeat (first | refine RS.seq ?_ | refine RS.region ?_ | refine RS.regionQ ?_ (by kernel_rfl) (by kernel_rfl) | refine RS.skip ?_ | refine RS.inBlock ?_ | refine RS.block ?_ | refine RS.exit ?_)); refine mvP ?_; refine bin_eql_P ?_; refine LS.done ?_
  (repeat (first | refine RS.seq ?_ | refine RS.region ?_ | refine RS.regionQ ?_ (by kernel_rfl) (by kernel_rfl) | refine RS.skip ?_ | refine RS.inBlock ?_ | refine RS.block ?_ | refine RS.exit ?_)); refine RS.condF ?_
  (repeat (first | refine RS.seq ?_ | refine RS.region ?_ | refine RS.regionQ ?_ (by kernel_rfl) (by kernel_rfl) | refine RS.skip ?_ | refine RS.inBlock ?_ | refine RS.block ?_ | refine RS.exit ?_)); refine mvP ?_; refine bld (vals := [(0, .string _), (1, .int _ _)]) [_, _, _, _, _, _, _] ?_; refine bldS [.agg (List.toArray (podC podK (.slice none 0 0) (.slice none 0 0)))] (podC podK (.slice none 0 0) (.slice none 0 0)) (fun b12 => ?_)
  refine LS.to (K' := [rowD 0 36 (.slice (some ⟨b12, 0, none⟩) 1 1) [podK], ledHP bl ⟨[], []⟩]) ?_ ⟨fun h => blkRow podK_rep h⟩
  refine LS.freeze0 (l := [podK]) (.slice (some ⟨b12, 0, none⟩) 1 1) (fun σ1 hle1 hr1 => ?_) (hl := by simp) (hf := FindD.head)
  refine packLL' 1 [podK] _ 0 6 [] ⟨[], []⟩ (LedInv.empty 0) (by omega) (by simp) (hT.mono hle1) hr1 known_e1 (by kernel_rfl) (by rw [packS, if_neg (by rw [known_e1]; decide)]) (fun v13 σ2 hle2 hr2 => ?_)
  obtain ⟨a13, c13, rfl⟩ := hr2.form
  refine mvT ?_; refine extr (v := .slice _ _ _) ?_; refine extr (v := .int _ _) ?_; refine asL ?_; refine asI ?_; refine LS.done ?_
  (repeat (first | refine RS.seq ?_ | refine RS.region ?_ | refine RS.regionQ ?_ (by kernel_rfl) (by kernel_rfl) | refine RS.skip ?_ | refine RS.inBlock ?_ | refine RS.block ?_ | refine RS.exit ?_)); refine mvP ?_; refine bld (vals := [(0, .string nmN)]) (nodeC (nodeN nmN 0 0) (.slice none 0 0) (.slice none 0 0)) ?_
  refine putL' (nodeN nmN 0 0) 0 knownS none none 0 0 (LedInv.empty 0) (by omega) (putE_first isName_n (by omega) (by omega)) (by rw [putN, if_pos (putE_first isName_n (by omega) (by omega))]; rfl) (ArgAt.of (rep_nodeN _ _ (by decide) (by omega) (by omega))) (fun σ3 hle3 => ?_)
  refine LS.done ?_
  have hi1 : LedInv knownS 0 := (LedInv.empty 0).put' (nodeN nmN 0 0) (by rw [putN, if_pos (putE_first isName_n (by omega) (by omega))]; rfl)
  (repeat (first | refine RS.seq ?_ | refine RS.region ?_ | refine RS.regionQ ?_ (by kernel_rfl) (by kernel_rfl) | refine RS.skip ?_ | refine RS.inBlock ?_ | refine RS.block ?_ | refine RS.exit ?_)); refine mvP ?_; refine bld (vals := [(0, .string _), (1, .int _ _)]) [_, _, _, _, _, _, _] ?_; refine bldS [.agg (List.toArray (podC podK (.slice none 0 0) (.slice none 0 0)))] (podC podK (.slice none 0 0) (.slice none 0 0)) (fun b22 => ?_)
  refine LS.to (K' := [rowD 0 36 (.slice (some ⟨b22, 0, none⟩) 1 1) [podK], ledHP bl knownS]) ?_ ⟨fun h => blkRow podK_rep h⟩
  refine LS.freeze0 (l := [podK]) (.slice (some ⟨b22, 0, none⟩) 1 1) (fun σ4 hle4 hr4 => ?_) (hl := by simp) (hf := FindD.head)
  refine packLL' 1 [podK] _ 0 0 [placeP nmP nmN 0 0] ⟨knownS.nodes, [(1, [placeP nmP nmN 0 0])]⟩ hi1 (by omega) (by simp) (hT.mono (PH.le_trans hle1 (PH.le_trans hle2 (PH.le_trans hle3 hle4)))) hr4 known_e2.1 known_e2.2 (by rw [packS, if_pos known_e2.1, known_e2.2]; rfl) (fun v23 σ5 hle5 hr5 => ?_)
  obtain ⟨a23, c23, rfl⟩ := hr5.form
  obtain ⟨b, o, rfl, hrow⟩ := hr5.addr (by simp)
  obtain ⟨hc, _⟩ := RowAt.place hrow 0 (by simp)
  have hc0 : σ5.cell b (o + 0 * 5 + 0) = some (.string nmP) := hc 0 (by decide)
  have hc1 : σ5.cell b (o + 0 * 5 + 1) = some (.string nmN) := hc 1 (by decide)
  refine mvT ?_; refine extr (v := .slice _ _ _) ?_; refine extr (v := .int _ _) ?_; refine asL ?_; refine asI ?_; refine LS.done ?_
  (repeat (first | refine RS.seq ?_ | refine RS.region ?_ | refine RS.regionQ ?_ (by kernel_rfl) (by kernel_rfl) | refine RS.skip ?_ | refine RS.inBlock ?_ | refine RS.block ?_ | refine RS.exit ?_)); refine mvI ?_; refine eqI ?_; refine mvB ?_; refine LS.on ?_; refine mvI ?_; refine LS.on ?_; refine eqI ?_; refine pk (v := .bool _) ?_; refine mvB ?_; refine LS.on ?_; refine mvL ?_; refine LS.on ?_; refine lenL ?_; refine LS.on ?_; refine eqI ?_; rw [decide_eq_true (show ((([placeP nmP nmN 0 0] : List PlaceD).length : Nat) : Int) = 1 from rfl)]; refine pk (v := .bool _) ?_; refine mvB ?_; refine LS.on ?_; refine mvL ?_; refine LS.on ?_; refine idx (i := 0) ?_ (hi := by show 0 < 1; omega); refine LS.on ?_; refine fld ?_; refine LS.on ?_; refine ldS hc1 ?_; refine LS.on ?_; refine eqS ?_; rw [decide_eq_true (show nmN = ⟨#[110]⟩ from rfl)]; refine pk (v := .bool _) ?_; refine mvB ?_; refine LS.on ?_; refine mvL ?_; refine LS.on ?_; refine idx (i := 0) ?_ (hi := by show 0 < 1; omega); refine LS.on ?_; refine fld ?_; refine LS.on ?_; refine ldS hc0 ?_; refine LS.on ?_; refine eqS ?_; rw [decide_eq_true (show nmP = ⟨#[112]⟩ from rfl)]; refine pk (v := .bool _) ?_; refine asB ?_; refine LS.done ?_
  (repeat (first | refine RS.seq ?_ | refine RS.region ?_ | refine RS.regionQ ?_ (by kernel_rfl) (by kernel_rfl) | refine RS.skip ?_ | refine RS.inBlock ?_ | refine RS.block ?_ | refine RS.exit ?_)); refine RS.ret1 (v := .bool _) Tryd.func8 fun w hw => ?_
  exact ⟨rfl, hw.below⟩
end Go.Proofs.YthnoaapghcadgaaDoor
/- Contract: two ledgers, alike. -/
namespace Go.Proofs.YthnoaapghcadgaaDoor
open Go.JW Go.RowKit
theorem keys_take {S : LedD} {g : Int} {ps : List PlaceD} {k : Int} (h : ∀ p ∈ S.taken, p.1 < k) (hg : g < k + 1) : ∀ p ∈ takeT S g ps, p.1 < k + 1 := by
  have key : ∀ l : List (Int × List PlaceD), (∀ p ∈ l, p.1 < k) → ∀ p ∈ aset l g ps, p.1 < k + 1 := by
    intro l
    induction l with
    | nil => intro _ p hp; simp [aset] at hp; rw [hp]; exact hg
    | cons x l ih =>
      intro hl p hp
      simp only [aset] at hp
      cases e : KeyT.eqb g x.1 with
      | true =>
        rw [e] at hp
        simp only [cond_true, List.mem_cons] at hp
        rcases hp with rfl | hp
        · exact hg
        · have := hl p (by simp [hp]); omega
      | false =>
        rw [e] at hp
        simp only [cond_false, List.mem_cons] at hp
        rcases hp with rfl | hp
        · have := hl p (by simp); omega
        · exact ih (fun q hq => hl q (by simp [hq])) p hp
  unfold takeT
  split
  · exact key _ h
  · exact fun p hp => by have := h p hp; omega
theorem keys_none {t : List (Int × List PlaceD)} {k g : Int} (h : ∀ p ∈ t, p.1 < k) (hg : k ≤ g) : tk t g = [] := by
  have : asg t g = none := asg_none.2 fun hm => by
    obtain ⟨p, hp, e⟩ := List.mem_map.1 hm
    have := h p hp; omega
  unfold tk; rw [this]; rfl
/-- The ledger that Both makes, by its numbers. -/
def bothNode (i : Nat) (x : Int) : NodeD := { nodeOf (i : Int) x with closed := (nodeOf (i : Int) x).closed && decide ((i : Int).tmod 2 = 0) }
def bothN (ns : List Int) : Nat → List (ByteArray × NodeD)
  | 0 => []
  | k + 1 => putN ⟨bothN ns k, []⟩ (bothNode k (ns.getD k 0))
def bothT (ns ms : List Int) : Nat → LedD
  | 0 => ⟨bothN ns (min 6 ns.length), []⟩
  | k + 1 => ⟨(bothT ns ms k).nodes, takeT (bothT ns ms k) (k : Int) (placesOf ms (ms.getD k 0))⟩
def bothOf (ns ms : List Int) : LedD := bothT ns ms (min 3 ms.length)
theorem bothN_inv (ns : List Int) : ∀ k, LedInv ⟨bothN ns k, []⟩ 0 := by
  intro k
  induction k with
  | zero => exact LedInv.empty 0
  | succ k ih => exact ih.put _
theorem bothT_inv (ns ms : List Int) : ∀ k, LedInv (bothT ns ms k) (3 * k) := by
  intro k
  induction k with
  | zero => exact bothN_inv ns _
  | succ k ih => exact ih.take (m := 3) (placesOf_len _ _) (by have := placesOf_len ms (ms.getD k 0); omega)
theorem bothT_len (ns ms : List Int) : ∀ k, (bothT ns ms k).taken.length ≤ k := by
  intro k
  induction k with
  | zero => exact Nat.le_refl _
  | succ k ih => have := takeT_len (bothT ns ms k) (k : Int) (placesOf ms (ms.getD k 0)); show (takeT _ _ _).length ≤ _; omega
theorem bothT_keys (ns ms : List Int) : ∀ k, ∀ p ∈ (bothT ns ms k).taken, p.1 < (k : Int) := by
  intro k
  induction k with
  | zero => intro p hp; cases hp
  | succ k ih => exact keys_take ih (by omega)
section
variable {w0 w : World} {M : Nat → Prop} {σ : PH} {K : List HP}
theorem bothE_s (ns ms : List Int) (vn vm : Value) (hr : RepL σ vn ns) (hrm : RepL σ vm ms) (hw : Sat w0 M σ K w) : Calls Tryd.prog 13 #[vn, vm] w fun e w' => ∃ (bl br : Nat) (σ' : PH), e = .returned (.tuple #[.pointer (some ⟨bl, 0, none⟩), .pointer (some ⟨br, 0, none⟩)]) ∧ PH.le σ σ' ∧ Sat w0 M σ' (ledHP bl (bothOf ns ms) :: refHP br (bothOf ns ms) :: K) w' := by
  obtain ⟨an, cn, rfl⟩ := hr.form
  obtain ⟨am, cm, rfl⟩ := hrm.form
  have hlen : ns.length ≤ 140737488355328 := hr.1
  have hlenm : ms.length ≤ 140737488355328 := hrm.1
  refine RS.enterK Tryd.func13 Tryd.ntmps13 rfl rfl hw ?_
  (repeat (first | refine RS.seq ?_ | refine RS.region ?_ | refine RS.regionQ ?_ (by kernel_rfl) (by kernel_rfl) | refine RS.skip ?_ | refine RS.inBlock ?_ | refine RS.block ?_ | refine RS.exit ?_)); refine asP ?_; refine asP ?_; refine LS.done ?_
  (repeat (first | refine RS.seq ?_ | refine RS.region ?_ | refine RS.regionQ ?_ (by kernel_rfl) (by kernel_rfl) | refine RS.skip ?_ | refine RS.inBlock ?_ | refine RS.block ?_ | refine RS.exit ?_)); skip
  refine newL (fun bl => ?_)
  refine bld (vals := []) [_, _] ?_; refine box_ (v := .agg _) (cs := [_, _]) (fun b13 => ?_); refine asP ?_; refine asP ?_; refine LS.done ?_
  (repeat (first | refine RS.seq ?_ | refine RS.region ?_ | refine RS.regionQ ?_ (by kernel_rfl) (by kernel_rfl) | refine RS.skip ?_ | refine RS.inBlock ?_ | refine RS.block ?_ | refine RS.exit ?_)); refine mvP ?_; refine bin_eql_P ?_; refine LS.done ?_
  (repeat (first | refine RS.seq ?_ | refine RS.region ?_ | refine RS.regionQ ?_ (by kernel_rfl) (by kernel_rfl) | refine RS.skip ?_ | refine RS.inBlock ?_ | refine RS.block ?_ | refine RS.exit ?_)); refine RS.condF ?_
  refine RS.skip ?_
  refine RS.to (K' := ledHP bl ⟨[], []⟩ :: refHP b13 ⟨[], []⟩ :: K) ?_ ⟨fun h => (newRef h).swap⟩
  (repeat (first | refine RS.seq ?_ | refine RS.region ?_ | refine RS.regionQ ?_ (by kernel_rfl) (by kernel_rfl) | refine RS.skip ?_ | refine RS.inBlock ?_ | refine RS.block ?_ | refine RS.exit ?_)); refine asI ?_; refine LS.done ?_
  (repeat (first | refine RS.seq ?_ | refine RS.region ?_ | refine RS.regionQ ?_ (by kernel_rfl) (by kernel_rfl) | refine RS.skip ?_ | refine RS.inBlock ?_ | refine RS.block ?_ | refine RS.exit ?_))
  refine RS.loopF (X := Nat × LedD × PH) 8 76 (fun x => x.1 ≤ 6 ∧ x.1 ≤ ns.length ∧ x.2.1 = ⟨bothN ns x.1, []⟩ ∧ PH.le σ x.2.2) (fun x => [(8, .int .i64 x.1)]) (fun x => x.2.2) (fun x => ledHP bl x.2.1 :: refHP b13 x.2.1 :: K) (fun x => 6 - x.1) (0, ⟨[], []⟩, σ) ⟨by omega, by omega, rfl, PH.le_refl _⟩ ⟨rfl, trivial⟩ rfl ⟨fun h => h⟩ ?_
  rintro ⟨i, S0, σ2⟩ gg ⟨hi8, hin, hS0, hle2⟩ ih
  simp only at hi8 hin hS0 hle2 ih ⊢
  have hi0 : LedInv S0 0 := by rw [hS0]; exact bothN_inv ns i
  have ht0 : S0.taken = [] := by rw [hS0]
  (repeat (first | refine RS.seq ?_ | refine RS.region ?_ | refine RS.regionQ ?_ (by kernel_rfl) (by kernel_rfl) | refine RS.skip ?_ | refine RS.inBlock ?_ | refine RS.block ?_ | refine RS.exit ?_)); refine mvI ?_; refine mvL ?_; refine lenL ?_; refine ltI ?_; refine mvB ?_
  refine LS.cut 20 24 [(23, .bool (decide (i < 6 ∧ i < ns.length)))] (fun gg => ?_) (fun J => ?_)
  rotate_left
  · refine LS.part 20 (fun g1 => ?_) (fun g1 => ?_)
    · refine LS.on ?_; refine mvI ?_; refine LS.on ?_; refine ltI ?_; refine pk (v := .bool _) ?_; refine LS.done ?_
      simp only [decide_eq_true_eq] at g1
      exact J ⟨boolV (decide_eq_decide.2 (by omega)), trivial⟩ (by repeat (first | with_reducible exact Out.refl _ _ _ | exact Out.hv | refine Out.upd ?_ | refine Out.hvIn ?_))
    · refine LS.off ?_; refine LS.off ?_; refine pk (v := .bool _) ?_; refine LS.done ?_
      simp only [decide_eq_false_iff_not] at g1
      exact J ⟨boolV (by symm; exact decide_eq_false (by omega)), trivial⟩ (by repeat (first | with_reducible exact Out.refl _ _ _ | exact Out.hv | refine Out.upd ?_ | refine Out.hvIn ?_))
  (repeat (first | refine RS.seq ?_ | refine RS.region ?_ | refine RS.regionQ ?_ (by kernel_rfl) (by kernel_rfl) | refine RS.skip ?_ | refine RS.inBlock ?_ | refine RS.block ?_ | refine RS.exit ?_))
  refine RS.cond (fun z => ?_) (fun z => ?_)
  · simp only [decide_eq_true_eq] at z
    obtain ⟨b, o, rfl, hrow⟩ := hr.addr (fun h => by simp [h] at z)
    obtain ⟨hcell, h64⟩ := (hrow.mono hle2).int i z.2
    have hgd : ns[i] = ns.getD i 0 := by simp [List.getD_eq_getElem?_getD, z.2]
    rw [hgd] at hcell h64
    obtain ⟨x, hx⟩ : ∃ x, x = ns.getD i 0 := ⟨_, rfl⟩
    rw [← hx] at hcell h64
    (repeat (first | refine RS.seq ?_ | refine RS.region ?_ | refine RS.regionQ ?_ (by kernel_rfl) (by kernel_rfl) | refine RS.skip ?_ | refine RS.inBlock ?_ | refine RS.block ?_ | refine RS.exit ?_)); refine mvI ?_; refine mvL ?_; refine mvI ?_; refine idx (i := i) ?_; refine ldS hcell ?_
    refine callT (fun v τ => RepA τ v (nodeOf i x)) (fun v τ1 σ3 hq1 hN1 hle3 hτ1 => ?_) (fun w' hw => lnode_c _ _ h64 w')
    obtain ⟨cs, rfl, hrp⟩ := hq1
    obtain ⟨nd0, hnd0⟩ : ∃ nd0, nd0 = nodeOf (i : Int) x := ⟨_, rfl⟩
    rw [← hnd0] at hrp
    obtain ⟨v1, v2, rfl, hh1, hh2, hh3, hv1, hv2⟩ := hrp
    obtain ⟨a1, c1, rfl⟩ := hv1.form
    obtain ⟨a2, c2, rfl⟩ := hv2.form
    have hrc : ∀ c : Bool, Rep.rep σ3 (nodeC { nd0 with closed := c } (.slice a1 nd0.marks.length c1) (.slice a2 nd0.taints.length c2)) { nd0 with closed := c } := fun c => ⟨_, _, rfl, hh1, hh2, hh3, hv1.mono hτ1, hv2.mono hτ1⟩
    refine alloc_ (fun b9 => ?_); refine st (.agg _) _ ?_; refine LS.done ?_
    repeat refine RS.seq ?_
    refine RS.cut (X := Bool) 32 76 (fun c => c = (nd0.closed && decide ((i : Int).tmod 2 = 0))) (fun _ => []) (fun _ => σ3) (fun c => blk b9 (.cells (List.toArray (nodeC { nd0 with closed := c } (.slice a1 nd0.marks.length c1) (.slice a2 nd0.taints.length c2))) 33 (0, 0)) :: ledHP bl S0 :: refHP b13 S0 :: K) ?_ (fun J => ?_)
    rotate_left
    · (repeat (first | refine RS.seq ?_ | refine RS.region ?_ | refine RS.regionQ ?_ (by kernel_rfl) (by kernel_rfl) | refine RS.skip ?_ | refine RS.inBlock ?_ | refine RS.block ?_ | refine RS.exit ?_)); refine fld ?_; refine ld1 (v := .bool _) ?_; refine mvB ?_
      refine LS.part 34 (fun g1 => ?_) (fun g1 => ?_)
      · refine LS.on ?_; refine mvI ?_; refine LS.on ?_; refine remI ?_; refine LS.on ?_; refine eqI ?_; refine pk (v := .bool _) ?_; refine fld ?_; refine st (.bool _) _ ?_; refine LS.done ?_
        exact J (decide ((i : Int).tmod 2 = 0)) (by simp [g1]) trivial (by repeat (first | with_reducible exact Out.refl _ _ _ | exact Out.hv | refine Out.upd ?_ | refine Out.hvIn ?_)) ⟨fun h => h⟩ rfl
      · refine LS.off ?_; refine LS.off ?_; refine LS.off ?_; refine pk (v := .bool _) ?_; refine fld ?_; refine st (.bool _) _ ?_; refine LS.done ?_
        exact J false (by simp [g1]) trivial (by repeat (first | with_reducible exact Out.refl _ _ _ | exact Out.hv | refine Out.upd ?_ | refine Out.hvIn ?_)) ⟨fun h => h⟩ rfl
    rintro c g5 hcc
    have hrn := hrc c
    obtain ⟨nd, hnd⟩ : ∃ nd : NodeD, nd = { nd0 with closed := c } := ⟨_, rfl⟩
    have e1 : nd0.marks.length = nd.marks.length := by rw [hnd]
    have e2 : nd0.taints.length = nd.taints.length := by rw [hnd]
    have hnb : nd = bothNode i (ns.getD i 0) := by rw [hnd, hcc, hnd0, hx]; rfl
    rw [← hnd, e1, e2] at hrn
    rw [← hnd, e1, e2]
    (repeat (first | refine RS.seq ?_ | refine RS.region ?_ | refine RS.regionQ ?_ (by kernel_rfl) (by kernel_rfl) | refine RS.skip ?_ | refine RS.inBlock ?_ | refine RS.block ?_ | refine RS.exit ?_)); refine mvP ?_; refine ldA (nodeC nd (.slice a1 nd.marks.length c1) (.slice a2 nd.taints.length c2)) ?_
    refine putL nd a1 a2 c1 c2 hi0 (by omega) (ArgAt.of hrn) (fun σ4 hle4 => ?_)
    refine LS.done ?_
    (repeat (first | refine RS.seq ?_ | refine RS.region ?_ | refine RS.regionQ ?_ (by kernel_rfl) (by kernel_rfl) | refine RS.skip ?_ | refine RS.inBlock ?_ | refine RS.block ?_ | refine RS.exit ?_)); refine mvP ?_; refine ldA (nodeC nd (.slice a1 nd.marks.length c1) (.slice a2 nd.taints.length c2)) ?_
    refine rputL nd a1 a2 c1 c2 hi0 (by omega) (by rw [ht0]; simp) (ArgAt.of (Rep.mono hrn hle4)) (fun σ6 hle6 => ?_)
    refine LS.done ?_
    (repeat (first | refine RS.seq ?_ | refine RS.region ?_ | refine RS.regionQ ?_ (by kernel_rfl) (by kernel_rfl) | refine RS.skip ?_ | refine RS.inBlock ?_ | refine RS.block ?_ | refine RS.exit ?_)); refine mvI ?_; (first | refine addN ?_ | refine addI ?_); refine asI ?_; refine LS.done ?_; (repeat (first | refine RS.seq ?_ | refine RS.region ?_ | refine RS.regionQ ?_ (by kernel_rfl) (by kernel_rfl) | refine RS.skip ?_ | refine RS.inBlock ?_ | refine RS.block ?_ | refine RS.exit ?_))
    exact ih (i + 1, ⟨putN S0 nd, S0.taken⟩, σ6) ⟨by (try dsimp only); omega, by (try dsimp only); omega, by (try dsimp only); rw [hS0, hnb]; rfl, PH.le_trans hle2 (PH.le_trans hle3 (PH.le_trans hle4 hle6))⟩ (by (try dsimp only); omega) ⟨rfl, trivial⟩ (by repeat (first | with_reducible exact Out.refl _ _ _ | exact Out.hv | refine Out.upd ?_ | refine Out.hvIn ?_)) ⟨fun h => h.tail⟩ rfl
  · simp only [decide_eq_false_iff_not] at z
    have hi6 : i = min 6 ns.length := by omega
    have hS1 : S0 = bothT ns ms 0 := by rw [hS0, hi6]; rfl
    clear z hi6
    clear ih hin hi8 hS0
    (repeat (first | refine RS.seq ?_ | refine RS.region ?_ | refine RS.regionQ ?_ (by kernel_rfl) (by kernel_rfl) | refine RS.skip ?_ | refine RS.inBlock ?_ | refine RS.block ?_ | refine RS.exit ?_)); refine asI ?_; refine LS.done ?_
    (repeat (first | refine RS.seq ?_ | refine RS.region ?_ | refine RS.regionQ ?_ (by kernel_rfl) (by kernel_rfl) | refine RS.skip ?_ | refine RS.inBlock ?_ | refine RS.block ?_ | refine RS.exit ?_))
    refine RS.loopF (X := Nat × LedD × PH) 8 76 (fun x => x.1 ≤ 3 ∧ x.1 ≤ ms.length ∧ x.2.1 = bothT ns ms x.1 ∧ PH.le σ x.2.2) (fun x => [(10, .int .i64 x.1)]) (fun x => x.2.2) (fun x => ledHP bl x.2.1 :: refHP b13 x.2.1 :: K) (fun x => 3 - x.1) (0, S0, σ2) ⟨by omega, by omega, hS1, hle2⟩ ⟨rfl, trivial⟩ rfl ⟨fun h => h⟩ ?_
    clear hi0 ht0 hle2 hS1
    clear S0 σ2
    rintro ⟨i, S0, σ2⟩ gg ⟨hi8, hin, hS0, hle2⟩ ih
    simp only at hi8 hin hS0 hle2 ih ⊢
    have hi0 : LedInv S0 (3 * i) := by rw [hS0]; exact bothT_inv ns ms i
    have ht0 : S0.taken.length ≤ i := by rw [hS0]; exact bothT_len ns ms i
    (repeat (first | refine RS.seq ?_ | refine RS.region ?_ | refine RS.regionQ ?_ (by kernel_rfl) (by kernel_rfl) | refine RS.skip ?_ | refine RS.inBlock ?_ | refine RS.block ?_ | refine RS.exit ?_)); refine mvI ?_; refine mvL ?_; refine lenL ?_; refine ltI ?_; refine mvB ?_
    refine LS.cut 50 54 [(53, .bool (decide (i < 3 ∧ i < ms.length)))] (fun gg => ?_) (fun J => ?_)
    rotate_left
    · refine LS.part 50 (fun g1 => ?_) (fun g1 => ?_)
      · refine LS.on ?_; refine mvI ?_; refine LS.on ?_; refine ltI ?_; refine pk (v := .bool _) ?_; refine LS.done ?_
        simp only [decide_eq_true_eq] at g1
        exact J ⟨boolV (decide_eq_decide.2 (by omega)), trivial⟩ (by repeat (first | with_reducible exact Out.refl _ _ _ | exact Out.hv | refine Out.upd ?_ | refine Out.hvIn ?_))
      · refine LS.off ?_; refine LS.off ?_; refine pk (v := .bool _) ?_; refine LS.done ?_
        simp only [decide_eq_false_iff_not] at g1
        exact J ⟨boolV (by symm; exact decide_eq_false (by omega)), trivial⟩ (by repeat (first | with_reducible exact Out.refl _ _ _ | exact Out.hv | refine Out.upd ?_ | refine Out.hvIn ?_))
    (repeat (first | refine RS.seq ?_ | refine RS.region ?_ | refine RS.regionQ ?_ (by kernel_rfl) (by kernel_rfl) | refine RS.skip ?_ | refine RS.inBlock ?_ | refine RS.block ?_ | refine RS.exit ?_))
    refine RS.cond (fun z => ?_) (fun z => ?_)
    · simp only [decide_eq_true_eq] at z
      obtain ⟨b, o, rfl, hrow⟩ := hrm.addr (fun h => by simp [h] at z)
      obtain ⟨hcell, h64⟩ := (hrow.mono hle2).int i z.2
      have hgd : ms[i] = ms.getD i 0 := by simp [List.getD_eq_getElem?_getD, z.2]
      rw [hgd] at hcell h64
      obtain ⟨kx, hkx⟩ : ∃ kx, kx = ms.getD i 0 := ⟨_, rfl⟩
      rw [← hkx] at hcell h64
      have hpl := placesOf_len ms kx
      (repeat (first | refine RS.seq ?_ | refine RS.region ?_ | refine RS.regionQ ?_ (by kernel_rfl) (by kernel_rfl) | refine RS.skip ?_ | refine RS.inBlock ?_ | refine RS.block ?_ | refine RS.exit ?_)); refine mvP ?_; refine mvI ?_; refine mvL ?_; refine mvL ?_; refine mvI ?_; refine idx (i := i) ?_; refine ldS hcell ?_
      refine callT (fun v τ => RepL τ v (placesOf ms kx)) (fun v τ1 σ3 hq1 hN1 hle3 hτ1 => ?_) (fun w' hw => lplaces_c ms kx _ w' (hrm.mono (PH.le_trans hle2 hw.imm)))
      obtain ⟨a1, c1, rfl⟩ := hq1.form
      skip
      refine takeL (i : Int) _ (placesOf ms kx) hi0 (by omega) (by omega) (ArgL.of (hq1.mono hτ1)) (fun σ4 hle4 => ?_)
      refine LS.done ?_
      have hle24 := PH.le_trans hle3 hle4
      (repeat (first | refine RS.seq ?_ | refine RS.region ?_ | refine RS.regionQ ?_ (by kernel_rfl) (by kernel_rfl) | refine RS.skip ?_ | refine RS.inBlock ?_ | refine RS.block ?_ | refine RS.exit ?_)); refine mvP ?_; refine mvI ?_; refine mvL ?_; refine mvL ?_; refine mvI ?_; refine idx (i := i) ?_; refine ldS (PH.cell_mono hle24 hcell) ?_
      refine callT (fun v τ => RepL τ v (placesOf ms kx)) (fun v τ2 σ5 hq2 hN2 hle5 hτ2 => ?_) (fun w' hw => lplaces_c ms kx _ w' (hrm.mono (PH.le_trans hle2 (PH.le_trans hle24 hw.imm))))
      obtain ⟨a2, c2, rfl⟩ := hq2.form
      skip
      refine rtakeL (i : Int) (by show I64 (i : Int); omega) _ (placesOf ms kx) hi0 (by omega) (by omega) (by omega) (hq2.mono hτ2) (fun σ6 hle6 => ?_)
      refine LS.done ?_
      (repeat (first | refine RS.seq ?_ | refine RS.region ?_ | refine RS.regionQ ?_ (by kernel_rfl) (by kernel_rfl) | refine RS.skip ?_ | refine RS.inBlock ?_ | refine RS.block ?_ | refine RS.exit ?_)); refine mvI ?_; (first | refine addN ?_ | refine addI ?_); refine asI ?_; refine LS.done ?_; (repeat (first | refine RS.seq ?_ | refine RS.region ?_ | refine RS.regionQ ?_ (by kernel_rfl) (by kernel_rfl) | refine RS.skip ?_ | refine RS.inBlock ?_ | refine RS.block ?_ | refine RS.exit ?_))
      exact ih (i + 1, ⟨S0.nodes, takeT S0 (i : Int) (placesOf ms kx)⟩, σ6) ⟨by (try dsimp only); omega, by (try dsimp only); omega, by (try dsimp only); rw [hS0, hkx]; rfl, PH.le_trans hle2 (PH.le_trans hle24 (PH.le_trans hle5 hle6))⟩ (by (try dsimp only); omega) ⟨rfl, trivial⟩ (by repeat (first | with_reducible exact Out.refl _ _ _ | exact Out.hv | refine Out.upd ?_ | refine Out.hvIn ?_)) ⟨fun h => h⟩ rfl
    · simp only [decide_eq_false_iff_not] at z
      (repeat (first | refine RS.seq ?_ | refine RS.region ?_ | refine RS.regionQ ?_ (by kernel_rfl) (by kernel_rfl) | refine RS.skip ?_ | refine RS.inBlock ?_ | refine RS.block ?_ | refine RS.exit ?_)); refine mvP ?_; refine mvP ?_; refine asP ?_; refine asP ?_; refine LS.done ?_; (repeat (first | refine RS.seq ?_ | refine RS.region ?_ | refine RS.regionQ ?_ (by kernel_rfl) (by kernel_rfl) | refine RS.skip ?_ | refine RS.inBlock ?_ | refine RS.block ?_ | refine RS.exit ?_)); refine RS.ret2 (v := .pointer _) (v' := .pointer _) Tryd.func13 fun w hw => ?_
      have hi3 : i = min 3 ms.length := by omega
      have hS2 : S0 = bothOf ns ms := by rw [hS0, hi3]; rfl
      exact ⟨bl, b13, σ2, rfl, hle2, by rw [← hS2]; exact hw⟩
theorem LedInv.up {S : LedD} {a b : Nat} (h : LedInv S a) (hb : a ≤ b) : LedInv S b := ⟨h.nodes, h.keys, h.some_, h.right, h.there, h.fits, fun nm => by have := h.count nm; omega, h.size⟩
theorem bothOf_inv (ns ms : List Int) : LedInv (bothOf ns ms) 9 := (bothT_inv ns ms _).up (by omega)
theorem bothOf_len (ns ms : List Int) : (bothOf ns ms).taken.length ≤ 3 := by have := bothT_len ns ms (min 3 ms.length); unfold bothOf; omega
theorem bothOf_keys (ns ms : List Int) : ∀ p ∈ (bothOf ns ms).taken, p.1 < min 3 (ms.length : Int) := fun p hp => by have := bothT_keys ns ms (min 3 ms.length) p hp; omega
theorem both_s (ns ms : List Int) (vn vm : Value) (hr : RepL σ vn ns) (hrm : RepL σ vm ms) (hw : Sat w0 M σ K w) : Calls Tryd.prog 13 #[vn, vm] w fun e w' => ∃ (bl br : Nat) (S : LedD) (σ' : PH), e = .returned (.tuple #[.pointer (some ⟨bl, 0, none⟩), .pointer (some ⟨br, 0, none⟩)]) ∧ PH.le σ σ' ∧ Sat w0 M σ' (ledHP bl S :: refHP br S :: K) w' ∧ LedInv S 9 ∧ S.taken.length ≤ 3 ∧ (∀ p ∈ S.taken, p.1 < min 3 (ms.length : Int)) :=
  (bothE_s ns ms vn vm hr hrm hw).mono fun _ _ ⟨bl, br, σ', he, hle, hs⟩ => ⟨bl, br, bothOf ns ms, σ', he, hle, hs, bothOf_inv ns ms, bothOf_len ns ms, bothOf_keys ns ms⟩
end
end Go.Proofs.YthnoaapghcadgaaDoor
