/- Contracts: room is taken. -/
import Derived.Test.YthnoaapghcadgaaDoorLedPut
namespace Go.JW
/-- A row that is an argument: it reads as l wherever it is looked at. -/
def ArgL {α : Type} [Rep α] (σ : PH) (K : List HP) (v : Value) (l : List α) : Prop := ∀ w σ', PH.le σ σ' → PH.le σ' (hp w) → (∃ F, SepIn ⟨σ', hp w⟩ K F) → RepL (hp w) v l
theorem ArgL.of {α : Type} [Rep α] {σ : PH} {K : List HP} {v : Value} {l : List α} (h : RepL σ v l) : ArgL σ K v l := fun _ _ h1 h2 _ => h.mono (PH.le_trans h1 h2)
section
variable {κ α : Type} [KeyT κ]
theorem eqb_self (k : κ) : KeyT.eqb k k = true := (KeyT.eqb_iff _ _).2 rfl
theorem eqb_ne {k k' : κ} (h : k ≠ k') : KeyT.eqb k k' = false := Bool.eq_false_iff.2 fun e => h ((KeyT.eqb_iff _ _).1 e)
theorem asg_aset_same (l : List (κ × α)) (k : κ) (x : α) : asg (aset l k x) k = some x := by
  induction l with
  | nil => simp [aset, asg, eqb_self]
  | cons p l ih =>
    simp only [aset]
    cases h : KeyT.eqb k p.1 with
    | true => simp [asg, eqb_self]
    | false => simp [asg, h, ih]
theorem asg_aset_ne (l : List (κ × α)) {k k' : κ} (x : α) (h : k' ≠ k) : asg (aset l k x) k' = asg l k' := by
  induction l with
  | nil => simp [aset, asg, eqb_ne h]
  | cons p l ih =>
    simp only [aset]
    cases h1 : KeyT.eqb k p.1 with
    | true =>
      have : k = p.1 := (KeyT.eqb_iff _ _).1 h1
      subst this
      simp [asg, eqb_ne h]
    | false => simp only [cond_false, asg, ih]
end
section
variable {P : Program} {q : Bool} {ops : Array Oper} {f : FuncId} {R : Ending → World → Prop} {k : List Item} {n : Nat} {fr : Nat → Value} {w0 : World} {M : Nat → Prop} {σ : PH} {K : List HP}
variable {rest : List Oper} {d : Nat} {ty : TypeId} {pos : String} {aft : Array Edge} {x y z : Operand} {t t' : TypeId}
theorem ldWA {b off s : Nat} {vs : List Value} [ht : TAgg P t] [hs : TSz P t s] (hl : vs.length = s) (hc : ∀ w, Sat w0 M σ K w → ∀ j, j < s → (hp w).cell b (off + j) = vs[j]?) (h : LS P q ops f R k rest n (upd fr d (.agg vs.toArray)) w0 M σ K) (hx : ev n fr x = .pointer (some ⟨b, off, none⟩) := by rfl) :
    LS P q ops f R k (⟨some d, .load t x, ty, pos, aft, none⟩ :: rest) n fr w0 M σ K :=
  LS.val rfl rfl (fun w hw => by
    have := run_loadVarA (P := P) (w := w) (b := b) ht.agg hs.eq off hl (fun j hj => by rw [← PH.cell_world]; exact hc w hw j hj)
    simp [execOp, hx, Instr.loadAt, Instr.sureAddr, this]) h
theorem Sat.sepTail {w : World} (hw : Sat w0 M σ K w) : ∃ F, SepIn ⟨σ, hp w⟩ K F := ⟨_, hw.sep⟩
end
structure Vec2 where
  c : Int
  m : Int
instance : Rep Vec2 where
  sz := 2
  rep _ cs v := cs = [.int .i64 v.c, .int .i64 v.m] ∧ I64 v.c ∧ I64 v.m
  len h := by rw [h.1]; rfl
  one h := by rw [h.1]; rfl
  mono h _ := h
instance : VRep Vec2 where
  of cs := .agg cs.toArray
end Go.JW
namespace Go.Proofs.YthnoaapghcadgaaDoor
open Go.JW Go.RowKit
/-- What the first wrong place is wrong by. -/
def wrongs (S : LedD) : List PlaceD → Int
  | [] => 0
  | p :: ps => if wrongE S p ≠ 0 then wrongE S p else wrongs S ps
theorem wrongs_zero {S : LedD} : ∀ {ps : List PlaceD}, wrongs S ps = 0 ↔ ∀ p ∈ ps, wrongE S p = 0 := by
  intro ps
  induction ps with
  | nil => simp [wrongs]
  | cons p ps ih =>
    simp only [wrongs, List.forall_mem_cons, ← ih]
    by_cases h : wrongE S p = 0
    · simp [h]
    · simp [h]
theorem wrongs_first {S : LedD} : ∀ {ps : List PlaceD} {k : Nat} (hk : k < ps.length), (∀ i (h : i < ps.length), i < k → wrongE S ps[i] = 0) → wrongE S ps[k] ≠ 0 → wrongs S ps = wrongE S ps[k] := by
  intro ps
  induction ps with
  | nil => intro k hk; simp at hk
  | cons p ps ih =>
    intro k hk h1 h2
    cases k with
    | zero => simp only [List.getElem_cons_zero] at h2 ⊢; rw [wrongs, if_pos h2]
    | succ k =>
      have h0 : wrongE S p = 0 := h1 0 (by simp) (by omega)
      rw [wrongs, if_neg (by simp [h0])]
      simp only [List.getElem_cons_succ] at h2 ⊢
      exact ih (by simpa using hk) (fun i hi hik => h1 (i + 1) (by simpa using hi) (by omega)) h2
def capOf (S : LedD) (nm : ByteArray) : Int × Int := match asg S.nodes nm with | some n => (n.cpu, n.mem) | none => (0, 0)
/-- Whether the place j has room behind those ahead of it. -/
def roomAt (S : LedD) (ps : List PlaceD) (j : Nat) : Bool :=
  match ps[j]? with
  | some p => fitsB (usedC S.taken p.node + needC p.node (ps.take (j + 1))) (usedM S.taken p.node + needM p.node (ps.take (j + 1))) (capOf S p.node).1 (capOf S p.node).2
  | none => true
def roomAll (S : LedD) (ps : List PlaceD) : Bool := (List.range ps.length).all (roomAt S ps)
def takeE (S : LedD) (g : Int) (ps : List PlaceD) : Int :=
  if 0 < (tk S.taken g).length then 4 else if ps.length = 0 then 3 else if wrongs S ps ≠ 0 then wrongs S ps else if roomAll S ps = true then 0 else 6
def takeT (S : LedD) (g : Int) (ps : List PlaceD) : List (Int × List PlaceD) := if takeE S g ps = 0 then aset S.taken g ps else S.taken
theorem roomAll_not {S : LedD} {ps : List PlaceD} {k : Nat} (hk : k < ps.length) (h : roomAt S ps k = false) : roomAll S ps = false := by
  rw [Bool.eq_false_iff]
  intro ha
  simp only [roomAll, List.all_eq_true, List.mem_range] at ha
  rw [ha k hk] at h; cases h
theorem roomAll_of {S : LedD} {ps : List PlaceD} (h : ∀ j, j < ps.length → roomAt S ps j = true) : roomAll S ps = true := by
  simp only [roomAll, List.all_eq_true, List.mem_range]; exact h
theorem ArgL.place {σ σ' : PH} {K : List HP} {a : Option Addr} {m cap : Nat} {ps : List PlaceD} (h : ArgL σ K (.slice a m cap) ps) {w : World} (h1 : PH.le σ σ') (h2 : PH.le σ' (hp w)) (h3 : ∃ F, SepIn ⟨σ', hp w⟩ K F) (i : Nat) (hi : i < ps.length) {b o : Nat} (ha : a = some ⟨b, o, none⟩) :
    ∀ j, j < 5 → (hp w).cell b (o + i * 5 + j) = (placeC ps[i])[j]? := by
  obtain ⟨b', o', e, hrow⟩ := (h w σ' h1 h2 h3).addr (fun h => by simp [h] at hi)
  rw [ha] at e
  obtain ⟨rfl, rfl⟩ : b = b' ∧ o = o' := by injection e with e; injection e with e1 e2; exact ⟨e1, e2⟩
  exact (RowAt.place hrow i hi).1
theorem opt_cases {α : Type} (o : Option α) : o = none ∨ ∃ v, o = some v := by cases o <;> simp
theorem needF_none {f : PlaceD → Int} {nm : ByteArray} : ∀ {ps : List PlaceD}, ps.any (fun p => decide (p.node = nm)) = false → needF f nm ps = 0 := by
  intro ps
  induction ps with
  | nil => intro _; rfl
  | cons p ps ih =>
    intro h
    simp only [List.any_cons, Bool.or_eq_false_iff, decide_eq_false_iff_not] at h
    have := ih h.2
    unfold needF at this ⊢
    rw [List.map_cons, List.sum_cons, this, if_neg h.1]; rfl
/-- What stands in the map of sums behind k places. -/
structure AllOk (S : LedD) (ps : List PlaceD) (k : Nat) (L : List (ByteArray × Vec2)) : Prop where
  at_ : ∀ nm, asg L nm = if (ps.take k).any (fun p => decide (p.node = nm)) = true then some ⟨usedC S.taken nm + needC nm (ps.take k), usedM S.taken nm + needM nm (ps.take k)⟩ else none
  most : ∀ nm v, asg L nm = some v → (0 ≤ v.c ∧ v.c ≤ 1099511627776) ∧ (0 ≤ v.m ∧ v.m ≤ 1099511627776)
theorem used_pos {t : List (Int × List PlaceD)} (hok : TakenOk t) (nm : ByteArray) : 0 ≤ usedC t nm ∧ 0 ≤ usedM t nm := by
  have h : ∀ f : PlaceD → Int, (∀ g ∈ t, ∀ p ∈ g.2, 0 ≤ f p) → 0 ≤ (t.map fun p => needF f nm p.2).sum := fun f hf => by
    have hpos : ∀ g ∈ t, 0 ≤ needF f nm g.2 := fun g hg => by have := needF_in (nm := nm) (hf g hg) g.2.length; rw [List.take_length] at this; exact this.1
    have := sumS_in (f := needF f nm) (seen := #[]) (es := ([] : List MapEntry)) hpos
    have h0 : sumS (needF f nm) #[] ([] : List MapEntry) t = 0 := rfl
    rw [h0] at this; exact this.2
  exact ⟨h (·.cpu) fun g hg p hp => (hok.right g hg p hp).1, h (·.mem) fun g hg p hp => (hok.right g hg p hp).2⟩
theorem AllOk.start (S : LedD) (ps : List PlaceD) : AllOk S ps 0 [] := ⟨fun nm => by simp [asg], fun nm v h => by cases h⟩
/-- The map behind the first look: what is used of the place's node stands in it. -/
structure AllAt (S : LedD) (ps : List PlaceD) (k : Nat) (nm : ByteArray) (L : List (ByteArray × Vec2)) (c m : Int) : Prop where
  c_eq : c = usedC S.taken nm + needC nm (ps.take k)
  m_eq : m = usedM S.taken nm + needM nm (ps.take k)
  here : asg L nm = some ⟨c, m⟩
  c_in : 0 ≤ c ∧ c ≤ 1099511627776
  m_in : 0 ≤ m ∧ m ≤ 1099511627776
  rest : ∀ nm', nm' ≠ nm → asg L nm' = if (ps.take k).any (fun p => decide (p.node = nm')) = true then some ⟨usedC S.taken nm' + needC nm' (ps.take k), usedM S.taken nm' + needM nm' (ps.take k)⟩ else none
  most : ∀ nm v, asg L nm = some v → (0 ≤ v.c ∧ v.c ≤ 1099511627776) ∧ (0 ≤ v.m ∧ v.m ≤ 1099511627776)
theorem AllOk.seen {S : LedD} {ps : List PlaceD} {k : Nat} {L : List (ByteArray × Vec2)} (h : AllOk S ps k L) {nm : ByteArray} {v : Vec2} (hz : asg L nm = some v) : AllAt S ps k nm L v.c v.m := by
  have h1 := h.at_ nm
  rw [hz] at h1
  split at h1
  · injection h1 with h1
    obtain ⟨h2, h3⟩ := h.most nm v hz
    exact ⟨by rw [h1], by rw [h1], hz, h2, h3, fun nm' _ => h.at_ nm', h.most⟩
  · cases h1
theorem AllOk.new {S : LedD} {ps : List PlaceD} {k : Nat} {L : List (ByteArray × Vec2)} (h : AllOk S ps k L) (hok : TakenOk S.taken) {nm : ByteArray} (hz : asg L nm = none) : AllAt S ps k nm (aset L nm ⟨usedC S.taken nm, usedM S.taken nm⟩) (usedC S.taken nm) (usedM S.taken nm) := by
  have h1 := h.at_ nm
  rw [hz] at h1
  have h2 : (ps.take k).any (fun p => decide (p.node = nm)) = false := by
    split at h1
    · cases h1
    · rename_i hh; simpa using hh
  obtain ⟨p1, p2⟩ := used_pos hok nm
  obtain ⟨m1, m2, _⟩ := hok.most nm
  refine ⟨by show _ = _ + needF _ _ _; rw [needF_none h2, Int.add_zero], by show _ = _ + needF _ _ _; rw [needF_none h2, Int.add_zero], asg_aset_same _ _ _, ⟨p1, m1⟩, ⟨p2, m2⟩, fun nm' hne => by rw [asg_aset_ne _ _ hne]; exact h.at_ nm', fun nm' v hv => ?_⟩
  by_cases e : nm' = nm
  · subst e; rw [asg_aset_same] at hv; injection hv with hv; subst hv; exact ⟨⟨p1, m1⟩, ⟨p2, m2⟩⟩
  · rw [asg_aset_ne _ _ e] at hv; exact h.most nm' v hv
theorem AllAt.next {S : LedD} {ps : List PlaceD} {k : Nat} {L : List (ByteArray × Vec2)} {c m : Int} {p : PlaceD} (hk : k < ps.length) (hp : p = ps[k]) (h : AllAt S ps k p.node L c m) (hr : 0 ≤ p.cpu ∧ 0 ≤ p.mem) (hc : c + p.cpu ≤ 1099511627776) (hm : m + p.mem ≤ 1099511627776) :
    AllOk S ps (k + 1) (aset L p.node ⟨c + p.cpu, m + p.mem⟩) := by
  have htake : ps.take (k + 1) = ps.take k ++ [p] := by rw [List.take_add_one, List.getElem?_eq_getElem hk, hp]; rfl
  have hb1 := h.c_in
  have hb2 := h.m_in
  have hs : ∀ f nm, needF f nm (ps.take (k + 1)) = needF f nm (ps.take k) + (if p.node = nm then f p else 0) := fun f nm => by rw [needF_succ f nm ps k hk, hp]
  refine ⟨fun nm => ?_, fun nm v hv => ?_⟩
  · by_cases e : nm = p.node
    · subst e
      rw [asg_aset_same, htake, List.any_append]
      simp only [List.any_cons, decide_true, Bool.true_or, Bool.or_true, if_true]
      rw [← htake]
      have e1 := hs (·.cpu) p.node
      have e2 := hs (·.mem) p.node
      simp only [if_true] at e1 e2
      have h1 := h.c_eq
      have h2 := h.m_eq
      congr 2
      · show _ = _ + needF (·.cpu) _ _; rw [e1, h1, Int.add_assoc]
      · show _ = _ + needF (·.mem) _ _; rw [e2, h2, Int.add_assoc]
    · have e' : ¬ p.node = nm := fun h => e h.symm
      rw [asg_aset_ne _ _ e, h.rest nm e]
      have e1 := hs (·.cpu) nm
      have e2 := hs (·.mem) nm
      rw [if_neg e', Int.add_zero] at e1 e2
      show _ = if _ then some (Vec2.mk (_ + needF (·.cpu) _ _) (_ + needF (·.mem) _ _)) else _
      rw [e1, e2, htake, List.any_append]
      simp only [List.any_cons, e', decide_false, List.any_nil, Bool.or_false]
  · by_cases e : nm = p.node
    · subst e; rw [asg_aset_same] at hv; injection hv with hv; subst hv; exact ⟨⟨by show 0 ≤ c + p.cpu; omega, hc⟩, ⟨by show 0 ≤ m + p.mem; omega, hm⟩⟩
    · rw [asg_aset_ne _ _ e] at hv; exact h.most nm v hv
theorem look_v {σ : PH} {es : Array MapEntry} {c : Nat} {L : List (ByteArray × Vec2)} (h : MapOk σ es c L) (nm : ByteArray) :
    ∃ x y : Int, lookV es (KeyT.kind ByteArray) (KeyT.enc nm) (.agg (List.toArray [.int .i64 0, .int .i64 0])) = (.agg (List.toArray [.int .i64 x, .int .i64 y]), (asg L nm).isSome) ∧ ∀ v, asg L nm = some v → x = v.c ∧ y = v.m := by
  cases ha : asg L nm with
  | none => rw [lookV_none h ha]; exact ⟨0, 0, rfl, fun v hv => by cases hv⟩
  | some v =>
    obtain ⟨cs, h1, rfl, _⟩ := lookV_some (zv := .agg (List.toArray [.int .i64 0, .int .i64 0])) h ha
    rw [h1]; exact ⟨v.c, v.m, rfl, fun v' hv => by injection hv with hv; subst hv; exact ⟨rfl, rfl⟩⟩
/-- The sum of one place more: whether it fits. -/
theorem roomAt_eq {S : LedD} {ps : List PlaceD} {k : Nat} {L : List (ByteArray × Vec2)} {c m : Int} {p : PlaceD} (hk : k < ps.length) (hp : p = ps[k]) (h : AllAt S ps k p.node L c m) {n : NodeD} (hn : asg S.nodes p.node = some n) : roomAt S ps k = fitsB (c + p.cpu) (m + p.mem) n.cpu n.mem := by
  have e1 := needF_succ (·.cpu) p.node ps k hk
  have e2 := needF_succ (·.mem) p.node ps k hk
  rw [← hp] at e1 e2
  simp only [if_true] at e1 e2
  unfold roomAt
  rw [List.getElem?_eq_getElem hk, ← hp]
  simp only [capOf, hn]
  show fitsB (_ + needF (·.cpu) _ _) (_ + needF (·.mem) _ _) _ _ = _
  rw [e1, e2, h.c_eq, h.m_eq, Int.add_assoc, Int.add_assoc]
theorem take_six {S : LedD} {g : Int} {ps : List PlaceD} {k : Nat} (z1 : ¬ 0 < (tk S.taken g).length) (z2 : ¬ ps.length = 0) (hw0 : wrongs S ps = 0) (hk : k < ps.length) (h : roomAt S ps k = false) : takeE S g ps = 6 := by
  rw [takeE, if_neg z1, if_neg z2, if_neg (by simp [hw0]), if_neg (by rw [roomAll_not hk h]; simp)]
section
variable {w0 : World} {M : Nat → Prop} {σ : PH} {K : List HP} {bl b1 b2 c1 c2 : Nat} {es1 es2 : Array MapEntry} {S : LedD}
theorem take_c (g : Int) (v : Value) (ps : List PlaceD) (hr : ArgL σ K v ps) (h1 : MapOk σ es1 c1 S.nodes) (h2 : MapOk σ es2 c2 S.taken) (hN : NodesOk S.nodes) (hok : TakenOk S.taken) (hlp : ps.length ≤ 1000) (w : World) (hw : Sat w0 M σ (LK bl b1 b2 es1 c1 es2 c2 ++ K) w) :
    Calls Tryd.prog 23 #[.pointer (some ⟨bl, 0, none⟩), .int .i64 g, v] w fun e w' => ∃ x : PH × Array MapEntry × Nat, e = .returned (.int .i64 (takeE S g ps)) ∧ Sat w0 M x.1 (LK bl b1 b2 es1 c1 x.2.1 x.2.2 ++ K) w' ∧ PH.le σ x.1 ∧ MapOk x.1 x.2.1 x.2.2 (takeT S g ps) := by
  have hr0 := hr w σ (PH.le_refl _) hw.imm ⟨_, hw.sep.tail.tail.tail⟩
  obtain ⟨a0, cap0, hv0, hrep0⟩ := look_t h2 g
  obtain ⟨av, cv, rfl⟩ := hr0.form
  refine RS.enterK Tryd.func23 Tryd.ntmps23 rfl rfl hw ?_
  refine RS.to (K' := blk bl (.cells (List.toArray [.map (some b1), .map (some b2)]) 55 (0, 0)) :: blk b1 (.map es1 c1) :: blk b2 (.map es2 c2) :: K) ?_ ⟨fun h => h⟩
  (repeat (first | refine RS.seq ?_ | refine RS.region ?_ | refine RS.regionQ ?_ (by kernel_rfl) (by kernel_rfl) | refine RS.skip ?_ | refine RS.inBlock ?_ | refine RS.block ?_ | refine RS.exit ?_)); refine asI ?_; refine LS.done ?_
  (repeat (first | refine RS.seq ?_ | refine RS.region ?_ | refine RS.regionQ ?_ (by kernel_rfl) (by kernel_rfl) | refine RS.skip ?_ | refine RS.inBlock ?_ | refine RS.block ?_ | refine RS.exit ?_)); refine mvP ?_; refine nilck ?_; refine fld ?_; refine ld1 (v := .map _) ?_; refine mvI ?_; refine lk (bm := b2) g h2 ?_; rw [hv0]; refine lenL ?_; refine gtI ?_; refine asB ?_; refine LS.done ?_
  (repeat (first | refine RS.seq ?_ | refine RS.region ?_ | refine RS.regionQ ?_ (by kernel_rfl) (by kernel_rfl) | refine RS.skip ?_ | refine RS.inBlock ?_ | refine RS.block ?_ | refine RS.exit ?_))
  refine RS.cond (fun z => ?_) (fun z => ?_)
  · have z' : 0 < (tk S.taken g).length := by simp only [decide_eq_true_eq] at z; omega
    have e : takeE S g ps = 4 := by rw [takeE, if_pos z']
    (repeat (first | refine RS.seq ?_ | refine RS.region ?_ | refine RS.regionQ ?_ (by kernel_rfl) (by kernel_rfl) | refine RS.skip ?_ | refine RS.inBlock ?_ | refine RS.block ?_ | refine RS.exit ?_)); refine asI ?_; refine LS.done ?_; (repeat (first | refine RS.seq ?_ | refine RS.region ?_ | refine RS.regionQ ?_ (by kernel_rfl) (by kernel_rfl) | refine RS.skip ?_ | refine RS.inBlock ?_ | refine RS.block ?_ | refine RS.exit ?_)); refine RS.ret1 (v := .int _ _) Tryd.func23 fun w hw => ?_
    exact ⟨(σ, es2, c2), by rw [e], hw, PH.le_refl _, by rw [takeT, if_neg (by rw [e]; decide)]; exact h2⟩
  have z1 : ¬ 0 < (tk S.taken g).length := by simp only [decide_eq_false_iff_not] at z; omega
  clear z
  (repeat (first | refine RS.seq ?_ | refine RS.region ?_ | refine RS.regionQ ?_ (by kernel_rfl) (by kernel_rfl) | refine RS.skip ?_ | refine RS.inBlock ?_ | refine RS.block ?_ | refine RS.exit ?_)); refine mvL ?_; refine lenL ?_; refine eqI ?_; refine asB ?_; refine LS.done ?_
  (repeat (first | refine RS.seq ?_ | refine RS.region ?_ | refine RS.regionQ ?_ (by kernel_rfl) (by kernel_rfl) | refine RS.skip ?_ | refine RS.inBlock ?_ | refine RS.block ?_ | refine RS.exit ?_))
  refine RS.cond (fun z => ?_) (fun z => ?_)
  · have z' : ps.length = 0 := by simp only [decide_eq_true_eq] at z; omega
    have e : takeE S g ps = 3 := by rw [takeE, if_neg z1, if_pos z']
    (repeat (first | refine RS.seq ?_ | refine RS.region ?_ | refine RS.regionQ ?_ (by kernel_rfl) (by kernel_rfl) | refine RS.skip ?_ | refine RS.inBlock ?_ | refine RS.block ?_ | refine RS.exit ?_)); refine asI ?_; refine LS.done ?_; (repeat (first | refine RS.seq ?_ | refine RS.region ?_ | refine RS.regionQ ?_ (by kernel_rfl) (by kernel_rfl) | refine RS.skip ?_ | refine RS.inBlock ?_ | refine RS.block ?_ | refine RS.exit ?_)); refine RS.ret1 (v := .int _ _) Tryd.func23 fun w hw => ?_
    exact ⟨(σ, es2, c2), by rw [e], hw, PH.le_refl _, by rw [takeT, if_neg (by rw [e]; decide)]; exact h2⟩
  have z2 : ¬ ps.length = 0 := by simp only [decide_eq_false_iff_not] at z; omega
  clear z
  obtain ⟨bv, ov, rfl, _⟩ := hr0.addr (fun h => z2 (by rw [h]; rfl))
  (repeat (first | refine RS.seq ?_ | refine RS.region ?_ | refine RS.regionQ ?_ (by kernel_rfl) (by kernel_rfl) | refine RS.skip ?_ | refine RS.inBlock ?_ | refine RS.block ?_ | refine RS.exit ?_)); refine mvL ?_; refine lenL ?_; refine mvI ?_; refine LS.done ?_
  (repeat (first | refine RS.seq ?_ | refine RS.region ?_ | refine RS.regionQ ?_ (by kernel_rfl) (by kernel_rfl) | refine RS.skip ?_ | refine RS.inBlock ?_ | refine RS.block ?_ | refine RS.exit ?_))
  refine RS.loopF (X := Nat × PH) 7 104 (fun x => x.1 ≤ ps.length ∧ (∀ i (h : i < ps.length), i < x.1 → wrongE S ps[i] = 0) ∧ PH.le σ x.2) (fun x => [(30, .slice (some ⟨bv, ov, none⟩) ps.length cv), (31, .int .i64 ps.length), (32, .int .i64 x.1)]) (fun x => x.2) (fun x => blk bl (.cells (List.toArray [.map (some b1), .map (some b2)]) 55 (0, 0)) :: blk b1 (.map es1 c1) :: blk b2 (.map es2 c2) :: K) (fun x => ps.length - x.1) (0, σ) ⟨by omega, fun _ _ h => by omega, PH.le_refl _⟩ ⟨rfl, rfl, rfl, trivial⟩ rfl ⟨fun h => h⟩ ?_
  rintro ⟨k, σ1⟩ gg ⟨hk, hzero, hle1⟩ ih
  simp only at hk hzero hle1 ih ⊢
  (repeat (first | refine RS.seq ?_ | refine RS.region ?_ | refine RS.regionQ ?_ (by kernel_rfl) (by kernel_rfl) | refine RS.skip ?_ | refine RS.inBlock ?_ | refine RS.block ?_ | refine RS.exit ?_)); refine ltI ?_; refine LS.done ?_
  (repeat (first | refine RS.seq ?_ | refine RS.region ?_ | refine RS.regionQ ?_ (by kernel_rfl) (by kernel_rfl) | refine RS.skip ?_ | refine RS.inBlock ?_ | refine RS.block ?_ | refine RS.exit ?_))
  by_cases hlt : k < ps.length
  · refine RS.condT ?_ (h := by simp; omega)
    (repeat (first | refine RS.seq ?_ | refine RS.region ?_ | refine RS.regionQ ?_ (by kernel_rfl) (by kernel_rfl) | refine RS.skip ?_ | refine RS.inBlock ?_ | refine RS.block ?_ | refine RS.exit ?_)); refine idx (i := k) ?_; refine ldWA (vs := placeC ps[k]) rfl (fun w' hw => ArgL.place hr hle1 hw.imm ⟨_, hw.sep.tail.tail.tail⟩ k hlt rfl) ?_; refine alloc_ (fun b8 => ?_); refine st (.agg _) _ ?_; refine LS.done ?_
    (repeat (first | refine RS.seq ?_ | refine RS.region ?_ | refine RS.regionQ ?_ (by kernel_rfl) (by kernel_rfl) | refine RS.skip ?_ | refine RS.inBlock ?_ | refine RS.block ?_ | refine RS.exit ?_)); refine mvP ?_; refine ldA [_, _, _, _, _] ?_
    refine callA (fun v σ' => v = .int .i64 (wrongE S ps[k])) (fun v38 σ2 hle2 hv38 => ?_) (fun w' hw => ?_) (args := [.pointer (some ⟨bl, 0, none⟩), .agg (List.toArray (placeC ps[k]))])
    rotate_left
    · have h := hw.front [_] (LK bl b1 b2 es1 c1 es2 c2)
      have h' := wrong_c (K := _ :: K) ps[k] (h1.mono hle1) w' h
      exact h'.mono fun _ _ ⟨σ', h1, h2, h3⟩ => ⟨_, σ', h1, rfl, h2, h3.front (LK bl b1 b2 es1 c1 es2 c2) [_]⟩
    subst hv38
    refine asI ?_; refine LS.done ?_
    (repeat (first | refine RS.seq ?_ | refine RS.region ?_ | refine RS.regionQ ?_ (by kernel_rfl) (by kernel_rfl) | refine RS.skip ?_ | refine RS.inBlock ?_ | refine RS.block ?_ | refine RS.exit ?_)); refine mvI ?_; refine neI ?_; refine LS.done ?_
    (repeat (first | refine RS.seq ?_ | refine RS.region ?_ | refine RS.regionQ ?_ (by kernel_rfl) (by kernel_rfl) | refine RS.skip ?_ | refine RS.inBlock ?_ | refine RS.block ?_ | refine RS.exit ?_))
    refine RS.cond (fun z => ?_) (fun z => ?_)
    · have z' : wrongE S ps[k] ≠ 0 := by simpa using z
      have hwr := wrongs_first hlt hzero z'
      have e : takeE S g ps = wrongE S ps[k] := by rw [takeE, if_neg z1, if_neg z2, if_pos (by rw [hwr]; exact z'), hwr]
      (repeat (first | refine RS.seq ?_ | refine RS.region ?_ | refine RS.regionQ ?_ (by kernel_rfl) (by kernel_rfl) | refine RS.skip ?_ | refine RS.inBlock ?_ | refine RS.block ?_ | refine RS.exit ?_)); refine mvI ?_; refine asI ?_; refine LS.done ?_; (repeat (first | refine RS.seq ?_ | refine RS.region ?_ | refine RS.regionQ ?_ (by kernel_rfl) (by kernel_rfl) | refine RS.skip ?_ | refine RS.inBlock ?_ | refine RS.block ?_ | refine RS.exit ?_)); refine RS.ret1 (v := .int _ _) Tryd.func23 fun w hw => ?_
      exact ⟨(_, es2, c2), by rw [e], hw.weak fun F h => h.tail, PH.le_trans hle1 hle2, by rw [takeT, if_neg (by rw [e]; exact z')]; exact h2.mono (PH.le_trans hle1 hle2)⟩
    · have z' : wrongE S ps[k] = 0 := by simpa using z
      (repeat (first | refine RS.seq ?_ | refine RS.region ?_ | refine RS.regionQ ?_ (by kernel_rfl) (by kernel_rfl) | refine RS.skip ?_ | refine RS.inBlock ?_ | refine RS.block ?_ | refine RS.exit ?_)); (first | refine addN ?_ | refine addI ?_); refine mvI ?_; refine LS.done ?_; (repeat (first | refine RS.seq ?_ | refine RS.region ?_ | refine RS.regionQ ?_ (by kernel_rfl) (by kernel_rfl) | refine RS.skip ?_ | refine RS.inBlock ?_ | refine RS.block ?_ | refine RS.exit ?_))
      refine ih (k + 1, σ2) ⟨by omega, fun i hi hik => ?_, PH.le_trans hle1 hle2⟩ (by omega) ⟨rfl, rfl, rfl, trivial⟩ (by repeat (first | with_reducible exact Out.refl _ _ _ | exact Out.hv | refine Out.upd ?_ | refine Out.hvIn ?_)) ⟨fun h => h.tail⟩ rfl
      by_cases hki : i = k
      · subst hki; exact z'
      · exact hzero i hi (by omega)
  refine RS.condF ?_ (h := by simp; omega)
  obtain rfl : k = ps.length := by omega
  have hall0 : ∀ p ∈ ps, wrongE S p = 0 := fun p hp => by obtain ⟨i, hi, rfl⟩ := List.getElem_of_mem hp; exact hzero i hi hi
  have hw0 : wrongs S ps = 0 := wrongs_zero.2 hall0
  clear ih hzero
  (repeat (first | refine RS.seq ?_ | refine RS.region ?_ | refine RS.regionQ ?_ (by kernel_rfl) (by kernel_rfl) | refine RS.skip ?_ | refine RS.inBlock ?_ | refine RS.block ?_ | refine RS.exit ?_)); refine mkM (fun bm => ?_); refine asM ?_; refine LS.done ?_
  (repeat (first | refine RS.seq ?_ | refine RS.region ?_ | refine RS.regionQ ?_ (by kernel_rfl) (by kernel_rfl) | refine RS.skip ?_ | refine RS.inBlock ?_ | refine RS.block ?_ | refine RS.exit ?_)); refine mvL ?_; refine lenL ?_; refine mvI ?_; refine LS.done ?_
  (repeat (first | refine RS.seq ?_ | refine RS.region ?_ | refine RS.regionQ ?_ (by kernel_rfl) (by kernel_rfl) | refine RS.skip ?_ | refine RS.inBlock ?_ | refine RS.block ?_ | refine RS.exit ?_))
  refine RS.loopF (X := Nat × PH × Array MapEntry × Nat × List (ByteArray × Vec2)) 8 104 (fun x => x.1 ≤ ps.length ∧ PH.le σ x.2.1 ∧ MapOk x.2.1 x.2.2.1 x.2.2.2.1 x.2.2.2.2 ∧ AllOk S ps x.1 x.2.2.2.2 ∧ (∀ j, j < x.1 → roomAt S ps j = true)) (fun x => [(10, .map (some bm)), (44, .slice (some ⟨bv, ov, none⟩) ps.length cv), (45, .int .i64 ps.length), (46, .int .i64 x.1)]) (fun x => x.2.1) (fun x => blk bm (.map x.2.2.1 x.2.2.2.1) :: blk bl (.cells (List.toArray [.map (some b1), .map (some b2)]) 55 (0, 0)) :: blk b1 (.map es1 c1) :: blk b2 (.map es2 c2) :: K) (fun x => ps.length - x.1) (0, σ1, #[], 0, []) ⟨by omega, hle1, MapOk.nil _, AllOk.start S ps, fun _ h => by omega⟩ ⟨rfl, rfl, rfl, rfl, trivial⟩ rfl ⟨fun h => h⟩ ?_
  clear hle1 σ1
  rintro ⟨k, σ1, es3, c3, L⟩ g2 ⟨hk2, hle1, ok3, hall, hroom⟩ ih
  simp only at hk2 hle1 ok3 hall hroom ih ⊢
  (repeat (first | refine RS.seq ?_ | refine RS.region ?_ | refine RS.regionQ ?_ (by kernel_rfl) (by kernel_rfl) | refine RS.skip ?_ | refine RS.inBlock ?_ | refine RS.block ?_ | refine RS.exit ?_)); refine ltI ?_; refine LS.done ?_
  (repeat (first | refine RS.seq ?_ | refine RS.region ?_ | refine RS.regionQ ?_ (by kernel_rfl) (by kernel_rfl) | refine RS.skip ?_ | refine RS.inBlock ?_ | refine RS.block ?_ | refine RS.exit ?_))
  by_cases hlt : k < ps.length
  · refine RS.condT ?_ (h := by simp; omega)
    have hcell : ∀ (w' : World) (σ' : PH) (K' : List HP), PH.le σ σ' → PH.le σ' (hp w') → (∃ F, SepIn ⟨σ', hp w'⟩ K F) → ∀ j, j < 5 → (hp w').cell bv (ov + k * 5 + j) = (placeC ps[k])[j]? := fun w' σ' _ a b c => ArgL.place hr a b c k hlt rfl
    obtain ⟨p, hpk⟩ : ∃ p, p = ps[k] := ⟨_, rfl⟩
    rw [← hpk] at hcell
    have hwp : wrongE S p = 0 := hall0 p (hpk ▸ List.getElem_mem _)
    obtain ⟨n, hn, hpr⟩ : ∃ n, asg S.nodes p.node = some n ∧ (0 ≤ p.cpu ∧ 0 ≤ p.mem) := by
      unfold wrongE at hwp
      cases e : asg S.nodes p.node with
      | none => rw [e] at hwp; simp at hwp
      | some n =>
        refine ⟨n, rfl, ?_⟩
        rw [e] at hwp
        by_cases h : 0 ≤ p.cpu ∧ 0 ≤ p.mem
        · exact h
        · simp [h] at hwp
    have hp64 : I64 p.cpu ∧ I64 p.mem := by
      obtain ⟨b', o', e, hrow⟩ := hr0.addr (fun h => z2 (by rw [h]; rfl))
      rw [hpk]; exact (RowAt.place hrow k hlt).2
    have hncap : n.cpu ≤ 1099511627776 ∧ n.mem ≤ 1099511627776 := by
      have hmem : ∃ q ∈ S.nodes, q.2 = n := by
        clear hcell
        have : ∀ l : List (ByteArray × NodeD), asg l p.node = some n → ∃ q ∈ l, q.2 = n := by
          intro l
          induction l with
          | nil => intro h; cases h
          | cons a l ih =>
            intro h
            simp only [asg] at h
            cases e : KeyT.eqb p.node a.1 with
            | true => rw [e] at h; injection h with h; exact ⟨a, by simp, h⟩
            | false => rw [e] at h; obtain ⟨q, h1, h2⟩ := ih h; exact ⟨q, by simp [h1], h2⟩
        exact this _ hn
      obtain ⟨q, hq, rfl⟩ := hmem
      have := fine_cap (hN.fine q hq)
      omega
    obtain ⟨x3, y3, hv3, hlv3⟩ := look_v ok3 p.node
    (repeat (first | refine RS.seq ?_ | refine RS.region ?_ | refine RS.regionQ ?_ (by kernel_rfl) (by kernel_rfl) | refine RS.skip ?_ | refine RS.inBlock ?_ | refine RS.block ?_ | refine RS.exit ?_)); refine idx (i := k) ?_; refine ldWA (vs := placeC p) rfl (fun w' hw => hcell w' _ [] hle1 hw.imm ⟨_, hw.sep.tail.tail.tail.tail⟩) ?_; refine alloc_ (fun b12 => ?_); refine st (.agg _) _ ?_; refine LS.done ?_
    (repeat (first | refine RS.seq ?_ | refine RS.region ?_ | refine RS.regionQ ?_ (by kernel_rfl) (by kernel_rfl) | refine RS.skip ?_ | refine RS.inBlock ?_ | refine RS.block ?_ | refine RS.exit ?_)); refine mvM ?_; refine fld ?_; refine ld1 (v := .string _) ?_; refine lkOk (bm := bm) p.node ok3 ?_; rw [hv3]; refine mvT ?_; refine extr (v := _) ?_; refine extr (v := .bool _) ?_; refine alloc_ (fun b13 => ?_); refine st (.agg _) _ ?_; refine asB ?_; refine LS.done ?_
    (repeat (first | refine RS.seq ?_ | refine RS.region ?_ | refine RS.regionQ ?_ (by kernel_rfl) (by kernel_rfl) | refine RS.skip ?_ | refine RS.inBlock ?_ | refine RS.block ?_ | refine RS.exit ?_)); refine mvB ?_; refine not_ ?_; refine LS.done ?_
    (repeat (first | refine RS.seq ?_ | refine RS.region ?_ | refine RS.skip ?_ | refine RS.inBlock ?_ | refine RS.block ?_ | refine RS.exit ?_))
    refine RS.cut (X := PH × Array MapEntry × Nat × List (ByteArray × Vec2) × Int × Int) 11 104 (fun x => PH.le σ x.1 ∧ MapOk x.1 x.2.1 x.2.2.1 x.2.2.2.1 ∧ AllAt S ps k p.node x.2.2.2.1 x.2.2.2.2.1 x.2.2.2.2.2) (fun x => [(12, .pointer (some ⟨b12, 0, none⟩)), (44, .slice (some ⟨bv, ov, none⟩) ps.length cv), (45, .int .i64 ps.length), (46, .int .i64 k)]) (fun x => x.1) (fun x => blk b13 (.cells (List.toArray [.int .i64 x3, .int .i64 y3]) 30 (0, 0)) :: blk b12 (.cells (List.toArray (placeC p)) 41 (0, 0)) :: blk bm (.map x.2.1 x.2.2.1) :: blk bl (.cells (List.toArray [.map (some b1), .map (some b2)]) 55 (0, 0)) :: blk b1 (.map es1 c1) :: blk b2 (.map es2 c2) :: K) ?_ (fun J => ?_)
    rotate_left
    · rcases opt_cases (asg L p.node) with hz | ⟨v, hz⟩
      · have hat := hall.new hok hz
        refine RS.condT ?_ (h := by rw [hz]; rfl)
        (repeat (first | refine RS.seq ?_ | refine RS.region ?_ | refine RS.skip ?_ | refine RS.inBlock ?_ | refine RS.block ?_ | refine RS.exit ?_)); refine RS.drawK [.free, .free, .ex, .free, .free, .ex, .ex, .free, .st] ?_ (by kernel_rfl) (by kernel_rfl); refine D.mvM ?_; refine D.fld ?_; refine D.ld1 (v := .string _) ?_; refine D.mvP ?_; refine D.fld ?_; refine D.ld1 (v := .string _) ?_
        refine D.callP ?_ (hc := fun _ _ w' hle _ hw => used_b p.node (h2.mono (PH.le_trans hle1 hle)) hok (hw.weak fun _ h => h.tail.tail.tail))
        refine D.fieldA [_, _] ?_
        refine D.mupd (bm := bm) p.node (fun _ => .agg (List.toArray [.int .i64 (usedC S.taken p.node), .int .i64 (usedM S.taken p.node)])) ok3 ?_
        refine D.done (fun us σ2 hle2 hfs => ?_)
        refine RS.ow ?_
        exact J (σ2, _, _, _, _, _) ⟨PH.le_trans hle1 hle2, (ok3.mono hle2).upd p.node (cs := [.int .i64 (usedC S.taken p.node), .int .i64 (usedM S.taken p.node)]) ⟨rfl, by have := hat.c_in; show I64 (usedC _ _); omega, by have := hat.m_in; show I64 (usedM _ _); omega⟩, hat⟩ ⟨rfl, rfl, rfl, rfl, trivial⟩ (by repeat (first | with_reducible exact Out.refl _ _ _ | exact Out.hv | refine Out.upd ?_ | refine Out.hvIn ?_)) ⟨fun h => h⟩ rfl
      · have hat := hall.seen hz
        refine RS.condF ?_ (h := by rw [hz]; rfl)
        refine RS.skip ?_
        exact J (σ1, es3, c3, L, v.c, v.m) ⟨hle1, ok3, hat⟩ ⟨rfl, rfl, rfl, rfl, trivial⟩ (by repeat (first | with_reducible exact Out.refl _ _ _ | exact Out.hv | refine Out.upd ?_ | refine Out.hvIn ?_)) ⟨fun h => h⟩ rfl
    rintro ⟨σ2, es4, c4, L4, c, m⟩ g3 ⟨(hle2 : PH.le σ σ2), (ok4 : MapOk σ2 es4 c4 L4), (hat : AllAt S ps k p.node L4 c m)⟩
    obtain ⟨x4, y4, hv4, hlv4⟩ := look_v ok4 p.node
    obtain ⟨(hx4 : x4 = c), (hy4 : y4 = m)⟩ := hlv4 _ hat.here
    rw [hx4, hy4] at hv4
    clear hlv4 hx4 hy4
    have hci := hat.c_in
    have hmi := hat.m_in
    have hre := roomAt_eq hlt hpk hat hn
    (repeat (first | refine RS.seq ?_ | refine RS.region ?_ | refine RS.regionQ ?_ (by kernel_rfl) (by kernel_rfl) | refine RS.skip ?_ | refine RS.inBlock ?_ | refine RS.block ?_ | refine RS.exit ?_)); refine mvM ?_; refine fld ?_; refine ld1 (v := .string _) ?_; refine lk (bm := bm) p.node ok4 ?_; rw [hv4]; refine fld ?_; refine ldA [_, _] ?_
    refine callP ?_ (hc := fun w' _ => add_c c m p.cpu p.mem (by omega) (by omega) hp64.1 hp64.2 w')
    by_cases hov : 9223372036854775807 - p.cpu < c ∨ 9223372036854775807 - p.mem < m
    · have e : addR c m p.cpu p.mem = ((0, 0), 6) := by unfold addR; rw [if_neg (by omega), if_pos hov]
      rw [e]
      have hno : roomAt S ps k = false := by rw [hre]; exact decide_eq_false (by omega)
      have et := take_six z1 z2 hw0 hlt hno
      refine mvT ?_; refine extr (v := _) ?_; refine extr (v := .int _ _) ?_; refine alloc_ (fun b15 => ?_); refine st (.agg _) _ ?_; refine asI ?_; refine LS.done ?_
      (repeat (first | refine RS.seq ?_ | refine RS.region ?_ | refine RS.skip ?_ | refine RS.inBlock ?_ | refine RS.block ?_ | refine RS.exit ?_)); refine RS.drawG [(79, some true)] [.free, .free, .free, .free, .free, .free, .free, .free, .free, .free, .free, .free, .free, .free, .free] _ ?_ (by kernel_rfl) (by kernel_rfl) (by kernel_rfl) ⟨fun h => h⟩; simp only [ers, ersO, onOff, glook, nthO, List.map_cons, List.map_nil, Option.bind_some, Option.map_some, Nat.beq, cond_true, cond_false, BEq.beq]; refine D.mvI ?_; refine D.neI ?_; refine D.mvB ?_; refine D.as_ (v := undef) ?_; refine D.as_ (v := undef) ?_; refine D.as_ (v := undef) ?_; refine D.as_ (v := undef) ?_; refine D.as_ (v := undef) ?_; refine D.as_ (v := undef) ?_; refine D.as_ (v := undef) ?_; refine D.as_ (v := undef) ?_; refine D.as_ (v := undef) ?_; refine D.as_ (v := undef) ?_; refine D.as_ (v := undef) ?_; refine D.pk (v := .bool _) ?_; refine D.doneG [(79, some true)] ⟨⟨rfl, rfl⟩, trivial⟩ (fun us σ1 hle1 hfs => ?_)
      refine RS.ow ?_
      (repeat (first | refine RS.seq ?_ | refine RS.region ?_ | refine RS.regionQ ?_ (by kernel_rfl) (by kernel_rfl) | refine RS.skip ?_ | refine RS.inBlock ?_ | refine RS.block ?_ | refine RS.exit ?_)); refine RS.condT ?_
      (repeat (first | refine RS.seq ?_ | refine RS.region ?_ | refine RS.regionQ ?_ (by kernel_rfl) (by kernel_rfl) | refine RS.skip ?_ | refine RS.inBlock ?_ | refine RS.block ?_ | refine RS.exit ?_)); refine asI ?_; refine LS.done ?_; (repeat (first | refine RS.seq ?_ | refine RS.region ?_ | refine RS.regionQ ?_ (by kernel_rfl) (by kernel_rfl) | refine RS.skip ?_ | refine RS.inBlock ?_ | refine RS.block ?_ | refine RS.exit ?_)); refine RS.ret1 (v := .int _ _) Tryd.func23 fun w hw => ?_
      exact ⟨(_, es2, c2), by rw [et], hw.weak fun F h => h.tail.tail.tail.tail, PH.le_trans hle2 (by assumption), by rw [takeT, if_neg (by rw [et]; decide)]; exact h2.mono (PH.le_trans hle2 (by assumption))⟩
    · have e : addR c m p.cpu p.mem = ((c + p.cpu, m + p.mem), 0) := by unfold addR; rw [if_neg (by omega), if_neg hov]
      rw [e]
      obtain ⟨vs, vm, vt, v1, v2, vz, hv1, ⟨a1, d1, rfl⟩, ⟨a2, d2, rfl⟩, hrn⟩ := look_n (h1.mono hle2) p.node
      obtain ⟨_, _, hcs, _⟩ := hrn n hn
      simp only [nodeC, List.cons.injEq, Value.string.injEq, Value.int.injEq, true_and] at hcs
      obtain ⟨_, rfl, rfl, _⟩ := hcs
      refine mvT ?_; refine extr (v := _) ?_; refine extr (v := .int _ _) ?_; refine alloc_ (fun b15 => ?_); refine st (.agg _) _ ?_; refine asI ?_; refine LS.done ?_
      (repeat (first | refine RS.seq ?_ | refine RS.region ?_ | refine RS.skip ?_ | refine RS.inBlock ?_ | refine RS.block ?_ | refine RS.exit ?_)); refine RS.drawG [(79, some false)] [.free, .free, .free, .ex, .free, .free, .free, .ex, .free, .ex, .ex, .free, .ex, .free, .free] _ ?_ (by kernel_rfl) (by kernel_rfl) (by kernel_rfl) ⟨fun h => h⟩; simp only [ers, ersO, onOff, glook, nthO, List.map_cons, List.map_nil, Option.bind_some, Option.map_some, Nat.beq, cond_true, cond_false, BEq.beq]; refine D.mvI ?_; refine D.neI ?_; refine D.mvB ?_; refine D.ldA [_, _] ?_; refine D.mvP ?_; refine D.nilck ?_; refine D.fld ?_; refine D.ld1 (v := .map _) ?_; refine D.fld ?_; refine D.ld1 (v := .string _) ?_; refine D.lk (bm := b1) p.node (h1.mono hle2) ?_; rw [hv1]; refine D.fieldA [_, _] ?_
      refine D.callP ?_ (hc := fun _ _ w' _ _ _ => fits_c _ _ _ _ w')
      refine D.not_ ?_; refine D.pk (v := .bool _) ?_; refine D.doneG [(79, some false)] ⟨⟨rfl, rfl⟩, trivial⟩ (fun us σ1 hle1 hfs => ?_)
      refine RS.ow ?_
      (repeat (first | refine RS.seq ?_ | refine RS.region ?_ | refine RS.regionQ ?_ (by kernel_rfl) (by kernel_rfl) | refine RS.skip ?_ | refine RS.inBlock ?_ | refine RS.block ?_ | refine RS.exit ?_))
      refine RS.cond (fun z => ?_) (fun z => ?_)
      · have z' : fitsB (c + p.cpu) (m + p.mem) n.cpu n.mem = false := by simpa using z
        have et := take_six z1 z2 hw0 hlt (hre.trans z')
        (repeat (first | refine RS.seq ?_ | refine RS.region ?_ | refine RS.regionQ ?_ (by kernel_rfl) (by kernel_rfl) | refine RS.skip ?_ | refine RS.inBlock ?_ | refine RS.block ?_ | refine RS.exit ?_)); refine asI ?_; refine LS.done ?_; (repeat (first | refine RS.seq ?_ | refine RS.region ?_ | refine RS.regionQ ?_ (by kernel_rfl) (by kernel_rfl) | refine RS.skip ?_ | refine RS.inBlock ?_ | refine RS.block ?_ | refine RS.exit ?_)); refine RS.ret1 (v := .int _ _) Tryd.func23 fun w hw => ?_
        exact ⟨(_, es2, c2), by rw [et], hw.weak fun F h => h.tail.tail.tail.tail, PH.le_trans hle2 (by assumption), by rw [takeT, if_neg (by rw [et]; decide)]; exact h2.mono (PH.le_trans hle2 (by assumption))⟩
      · have z' : fitsB (c + p.cpu) (m + p.mem) n.cpu n.mem = true := by simpa using z
        have hfit := of_decide_eq_true z'
        have hle3 : PH.le σ2 σ1 := by assumption
        (repeat (first | refine RS.seq ?_ | refine RS.region ?_ | refine RS.regionQ ?_ (by kernel_rfl) (by kernel_rfl) | refine RS.skip ?_ | refine RS.inBlock ?_ | refine RS.block ?_ | refine RS.exit ?_)); refine mvM ?_; refine fld ?_; refine ld1 (v := .string _) ?_; refine ldA [_, _] ?_; refine mupd (bm := bm) p.node (.agg (List.toArray [.int .i64 (c + p.cpu), .int .i64 (m + p.mem)])) ok4 ?_; refine LS.done ?_
        (repeat (first | refine RS.seq ?_ | refine RS.region ?_ | refine RS.regionQ ?_ (by kernel_rfl) (by kernel_rfl) | refine RS.skip ?_ | refine RS.inBlock ?_ | refine RS.block ?_ | refine RS.exit ?_)); (first | refine addN ?_ | refine addI ?_); refine mvI ?_; refine LS.done ?_; (repeat (first | refine RS.seq ?_ | refine RS.region ?_ | refine RS.regionQ ?_ (by kernel_rfl) (by kernel_rfl) | refine RS.skip ?_ | refine RS.inBlock ?_ | refine RS.block ?_ | refine RS.exit ?_))
        refine ih (k + 1, _, _, _, _) ⟨by omega, PH.le_trans hle2 hle3, (ok4.mono hle3).upd p.node (cs := [.int .i64 (c + p.cpu), .int .i64 (m + p.mem)]) ⟨rfl, by show I64 (c + p.cpu); omega, by show I64 (m + p.mem); omega⟩, hat.next hlt hpk hpr (by omega) (by omega), fun j hj => ?_⟩ (by omega) ⟨rfl, rfl, rfl, rfl, trivial⟩ (by repeat (first | with_reducible exact Out.refl _ _ _ | exact Out.hv | refine Out.upd ?_ | refine Out.hvIn ?_)) ⟨fun h => h.tail.tail.tail⟩ rfl
        by_cases hjk : j = k
        · subst hjk; rw [hre]; exact z'
        · exact hroom j (by omega)
  · refine RS.condF ?_ (h := by simp; omega)
    obtain rfl : k = ps.length := by omega
    have et : takeE S g ps = 0 := by rw [takeE, if_neg z1, if_neg z2, if_neg (by simp [hw0]), if_pos (roomAll_of hroom)]
    refine RS.exit ?_
    (repeat (first | refine RS.seq ?_ | refine RS.region ?_ | refine RS.skip ?_ | refine RS.inBlock ?_ | refine RS.block ?_ | refine RS.exit ?_)); refine RS.drawK [.free, .free, .free, .ex, .free, .free, .ex, .st] ?_ (by kernel_rfl) (by kernel_rfl); refine D.mvP ?_; refine D.nilck ?_; refine D.fld ?_; refine D.ld1 (v := .map _) ?_; refine D.mvI ?_; refine D.mvL ?_
    refine D.callN (fun v τ => RepL τ v ps) ?_ (hc := fun _ _ w' hle _ hw => cloneP_c _ ps w' (hr w' _ (PH.le_trans hle1 hle) hw.imm ⟨_, hw.sep.tail.tail.tail.tail⟩) hlp)
    refine D.mupd (bm := b2) g (fun us => us 103) (h2.mono hle1) ?_
    refine D.done (fun us σ3 hle3 hfs => ?_)
    obtain ⟨⟨τ, hr9, hτ9, _⟩, _⟩ := hfs
    refine RS.ow ?_
    generalize us 103 = v9 at *
    have hm := (h2.mono (PH.le_trans hle1 hle3)).upd g (x := ps) (cs := [v9]) ⟨v9, rfl, hr9.mono hτ9⟩
    (repeat (first | refine RS.seq ?_ | refine RS.region ?_ | refine RS.regionQ ?_ (by kernel_rfl) (by kernel_rfl) | refine RS.skip ?_ | refine RS.inBlock ?_ | refine RS.block ?_ | refine RS.exit ?_)); refine asI ?_; refine LS.done ?_; (repeat (first | refine RS.seq ?_ | refine RS.region ?_ | refine RS.regionQ ?_ (by kernel_rfl) (by kernel_rfl) | refine RS.skip ?_ | refine RS.inBlock ?_ | refine RS.block ?_ | refine RS.exit ?_)); refine RS.ret1 (v := .int _ _) Tryd.func23 fun w hw => ?_
    exact ⟨(σ3, _, _), by rw [et], hw.weak fun F h => h.tail, PH.le_trans hle1 hle3, by rw [takeT, if_pos et]; exact hm⟩
end
end Go.Proofs.YthnoaapghcadgaaDoor
