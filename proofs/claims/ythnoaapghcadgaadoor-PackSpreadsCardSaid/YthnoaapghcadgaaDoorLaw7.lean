/- Contracts: what the laws on ledgers share. -/
import Derived.Test.YthnoaapghcadgaaDoorLedL
namespace Go.JW
section
variable {P : Program} {q : Bool} {ops : Array Oper} {f : FuncId} {R : Ending → World → Prop} {k : List Item} {n : Nat} {fr : Nat → Value} {w0 : World} {M : Nat → Prop} {σ : PH} {K : List HP}
variable {rest : List Oper} {d : Nat} {ty : TypeId} {pos : String} {aft : Array Edge} {x y : Operand} {t t' e : TypeId} {p : Option Addr}
theorem pointee_of (ht : P.underlying t = some (.pointer e)) : P.underlying t = some (.pointer (P.pointee t)) := by
  have : P.pointee t = e := by simp [Program.pointee, ht]
  rw [this]; exact ht
theorem bin_eql_P [ht : TPtr P t e] (h : LS P q ops f R k rest n (upd fr d (.bool p.isNone)) w0 M σ K) (hx : ev n fr x = .pointer p := by rfl) (hy : ev n fr y = .pointer none := by rfl) :
    LS P q ops f R k (⟨some d, .binOp .eql t x y t', ty, pos, aft, none⟩ :: rest) n fr w0 M σ K :=
  LS.val rfl rfl (fun w _ => by
    have e : (Op.equal t (.pointer p) (.pointer none)).run P w = .ok p.isNone w := run_equal_pointer_nil w t p (pointee_of ht.eq)
    simp only [execOp, hx, hy, eqGuard, Sem.run_bind]
    simp [binOp, e]) h
theorem bin_neq_P [ht : TPtr P t e] (h : LS P q ops f R k rest n (upd fr d (.bool (!p.isNone))) w0 M σ K) (hx : ev n fr x = .pointer p := by rfl) (hy : ev n fr y = .pointer none := by rfl) :
    LS P q ops f R k (⟨some d, .binOp .neq t x y t', ty, pos, aft, none⟩ :: rest) n fr w0 M σ K :=
  LS.val rfl rfl (fun w _ => by
    have e : (Op.equal t (.pointer p) (.pointer none)).run P w = .ok p.isNone w := run_equal_pointer_nil w t p (pointee_of ht.eq)
    simp only [execOp, hx, hy, eqGuard, Sem.run_bind]
    simp [binOp, e]) h
end
end Go.JW
namespace Go.Proofs.YthnoaapghcadgaaDoor
open Go.JW Go.RowKit
/-- A node by a name and what it has. -/
def nodeN (nm : ByteArray) (c m : Int) : NodeD := ⟨nm, c, m, [], [], false⟩
def nmN : ByteArray := ⟨#[110]⟩
def placeP (p nm : ByteArray) (c m : Int) : PlaceD := ⟨p, nm, c, m, false⟩
def nmP : ByteArray := ⟨#[112]⟩
def nmA : ByteArray := ⟨#[97]⟩
theorem repP (σ : PH) {p nm : ByteArray} {c m : Int} (h1 : p.size ≤ 1000) (h2 : nm.size ≤ 1000) (hc : I64 c) (hm : I64 m) : Rep.rep σ (placeC (placeP p nm c m)) (placeP p nm c m) :=
  ⟨rfl, by show p.size ≤ _; omega, by show nm.size ≤ _; omega, hc, hm⟩
theorem rep_nodeN (σ : PH) (nm : ByteArray) (hn : nm.size ≤ 1000) {c m : Int} (hc : I64 c) (hm : I64 m) : Rep.rep σ (nodeC (nodeN nm c m) (.slice none 0 0) (.slice none 0 0)) (nodeN nm c m) :=
  ⟨_, _, rfl, by show nm.size ≤ _; omega, hc, hm, RepL.nil _ _ _, RepL.nil _ _ _⟩
theorem isName_n : isName nmN = true := by decide +kernel
theorem nodeErr_N {nm : ByteArray} (hn : isName nm = true) {c m : Int} (hc : 0 ≤ c ∧ c ≤ 1099511627776) (hm : 0 ≤ m ∧ m ≤ 1099511627776) : nodeErr (nodeN nm c m) = 0 := by
  unfold nodeErr
  have h1 : isName (nodeN nm c m).name = true := hn
  have h2 : sizeOk (nodeN nm c m).cpu (nodeN nm c m).mem = true := by
    show sizeOk c m = true
    simp [sizeOk, size1, hc, hm]
  rw [h1, h2]
  rfl
theorem putE_first {nm : ByteArray} (hn : isName nm = true) {c m : Int} (hc : 0 ≤ c ∧ c ≤ 1099511627776) (hm : 0 ≤ m ∧ m ≤ 1099511627776) : putE ⟨[], []⟩ (nodeN nm c m) = 0 := by
  rw [putE, if_neg (by rw [nodeErr_N hn hc hm]; simp)]
  rfl
theorem putE_fits {S : LedD} {n : NodeD} (h0 : nodeErr n = 0) (hs : (asg S.nodes n.name).isSome = true) : putE S n = if fitsB (usedC S.taken n.name) (usedM S.taken n.name) n.cpu n.mem = true then 0 else 6 := by
  rw [putE, if_neg (by simp [h0]), if_pos hs]
/-- A row of one place. -/
theorem ArgL.one {σ : PH} {K K' : List HP} {b T : Nat} {p : PlaceD} (h1 : p.pod.size ≤ 1000) (h2 : p.node.size ≤ 1000) (hc : I64 p.cpu) (hm : I64 p.mem) {put : HP → List HP} (hf : FindB b K (.cells (List.toArray (placeC p)) T (0, 0)) put K') :
    ArgL σ K (.slice (some ⟨b, 0, none⟩) 1 1) [p] := by
  intro w σ' _ _ ⟨F, hF⟩
  obtain ⟨F1, ⟨_, hb⟩, _, _⟩ := hf.get hF
  refine ⟨by simp, _, 1, rfl, by simp, fun _ => ⟨b, 0, rfl, fun i hi => ?_⟩⟩
  obtain rfl : i = 0 := by simp at hi; omega
  refine ⟨placeC p, fun j hj => ?_, rfl, by show p.pod.size ≤ _; omega, by show p.node.size ≤ _; omega, hc, hm⟩
  have hb' : hp w b = some (.cells (List.toArray (placeC p)) T (0, 0)) := hb
  simp [PH.cell, hb']
theorem argP {σ : PH} {K K' : List HP} {b T : Nat} {p nm : ByteArray} {c m : Int} {put : HP → List HP} (h1 : p.size ≤ 1000) (h2 : nm.size ≤ 1000) (hc : I64 c) (hm : I64 m) (hf : FindB b K (.cells (List.toArray (placeC (placeP p nm c m))) T (0, 0)) put K') :
    ArgL σ K (.slice (some ⟨b, 0, none⟩) 1 1) [placeP p nm c m] := ArgL.one h1 h2 hc hm hf
theorem needF_one (f : PlaceD → Int) (nm : ByteArray) (p : PlaceD) : needF f nm [p] = if p.node = nm then f p else 0 := by simp [needF]
/-- One place that has room. -/
theorem takeE_one {S : LedD} {g : Int} {p : PlaceD} (ht : (tk S.taken g).length = 0) {n : NodeD} (hn : asg S.nodes p.node = some n) (hp : 0 ≤ p.cpu ∧ 0 ≤ p.mem) :
    takeE S g [p] = if usedC S.taken p.node + p.cpu ≤ n.cpu ∧ usedM S.taken p.node + p.mem ≤ n.mem then 0 else 6 := by
  have hw : wrongE S p = 0 := by unfold wrongE; rw [hn, if_neg (by simp), if_neg (by simp [hp])]
  have hr : roomAll S [p] = decide (usedC S.taken p.node + p.cpu ≤ n.cpu ∧ usedM S.taken p.node + p.mem ≤ n.mem) := by
    have h1 : needF (·.cpu) p.node [p] = p.cpu := by rw [needF_one, if_pos rfl]
    have h2 : needF (·.mem) p.node [p] = p.mem := by rw [needF_one, if_pos rfl]
    have : roomAt S [p] 0 = fitsB (usedC S.taken p.node + needF (·.cpu) p.node [p]) (usedM S.taken p.node + needF (·.mem) p.node [p]) n.cpu n.mem := by
      simp only [roomAt, capOf, List.getElem?_cons_zero, hn]
      rfl
    rw [h1, h2] at this
    simp only [roomAll, List.length_cons, List.length_nil, List.range, List.range.loop, List.all_cons, List.all_nil, Bool.and_true, this]
    rfl
  rw [takeE, if_neg (by omega), if_neg (by simp), if_neg (by simp [wrongs, hw]), hr]
  by_cases h : usedC S.taken p.node + p.cpu ≤ n.cpu ∧ usedM S.taken p.node + p.mem ≤ n.mem
  · rw [decide_eq_true h, if_pos rfl, if_pos h]
  · rw [decide_eq_false h, if_neg (by simp), if_neg h]
/-- A ledger with one node. -/
def oneN (c m : Int) : LedD := ⟨[(nmN, nodeN nmN c m)], []⟩
theorem oneInv {c m : Int} (hc : 0 ≤ c ∧ c ≤ 1099511627776) (hm : 0 ≤ m ∧ m ≤ 1099511627776) : LedInv (oneN c m) 0 := by
  have e2 := putE_first isName_n hc hm
  have i1 := (LedInv.empty 0).put (nodeN nmN c m)
  have hn1 : putN ⟨[], []⟩ (nodeN nmN c m) = [(nmN, nodeN nmN c m)] := by rw [putN, if_pos e2]; rfl
  rw [hn1] at i1; exact i1
/-! places, by numbers -/
def kAt (ns : List Int) (n : Int) (i : Nat) : Int := IntKind.i64.wrap (ns.getD i 0 + n)
def placeOf (i : Nat) (k : Int) : PlaceD := ⟨letter nmP i, nameOf k, k.tdiv 8 % 4, k.tdiv 32 % 4, decide (k % 3 = 0)⟩
def placesTo (ns : List Int) (n : Int) (j : Nat) : List PlaceD := (List.range j).map fun (i : Nat) => placeOf i (kAt ns n i)
def placesOf (ns : List Int) (n : Int) : List PlaceD := placesTo ns n (min 3 ns.length)
theorem placesTo_succ (ns : List Int) (n : Int) (j : Nat) : placesTo ns n (j + 1) = placesTo ns n j ++ [placeOf j (kAt ns n j)] := by simp [placesTo, List.range_succ]
theorem placesTo_length (ns : List Int) (n : Int) (j : Nat) : (placesTo ns n j).length = j := by simp [placesTo]
theorem rep_placeOf (σ : PH) (i : Nat) (k : Int) : Rep.rep σ (placeC (placeOf i k)) (placeOf i k) := by
  obtain ⟨b1, b2⟩ := wmod (k.tdiv 8) 4 (by omega)
  obtain ⟨c1, c2⟩ := wmod (k.tdiv 32) 4 (by omega)
  refine ⟨rfl, ?_, ?_, ?_, ?_⟩
  · show (letter _ _).size ≤ _; rw [letter_size]; decide
  · show (nameOf k).size ≤ _; have := nameOf_size k; omega
  · show I64 (k.tdiv 8 % 4); omega
  · show I64 (k.tdiv 32 % 4); omega
theorem wrap_in (x : Int) : I64 (IntKind.i64.wrap x) := by
  rw [IntKind.wrap_i64]; omega
theorem lplacesO_c (ns : List Int) (n : Int) (vn : Value) (w : World) (hr : RepL (hp w) vn ns) : Calls Tryd.prog 26 #[vn, .int .i64 n] w fun e w' => ∃ v τ, e = .returned v ∧ Post τ [rowD 0 41 v (placesOf ns n)] w w' := by
  obtain ⟨an, cn, rfl⟩ := hr.form
  have hlen : ns.length ≤ 140737488355328 := hr.1
  refine RS.enter Tryd.func26 Tryd.ntmps26 rfl rfl ?_
  (repeat (first | refine RS.seq ?_ | refine RS.region ?_ | refine RS.regionQ ?_ (by kernel_rfl) (by kernel_rfl) | refine RS.skip ?_ | refine RS.inBlock ?_ | refine RS.block ?_ | refine RS.exit ?_)); refine asL ?_; refine LS.done ?_
  (repeat (first | refine RS.seq ?_ | refine RS.region ?_ | refine RS.regionQ ?_ (by kernel_rfl) (by kernel_rfl) | refine RS.skip ?_ | refine RS.inBlock ?_ | refine RS.block ?_ | refine RS.exit ?_)); refine asL ?_; refine LS.done ?_
  refine RS.nilD w.heap.size PlaceD 41 ?_
  (repeat (first | refine RS.seq ?_ | refine RS.region ?_ | refine RS.regionQ ?_ (by kernel_rfl) (by kernel_rfl) | refine RS.skip ?_ | refine RS.inBlock ?_ | refine RS.block ?_ | refine RS.exit ?_)); refine asI ?_; refine LS.done ?_
  (repeat (first | refine RS.seq ?_ | refine RS.region ?_ | refine RS.regionQ ?_ (by kernel_rfl) (by kernel_rfl) | refine RS.skip ?_ | refine RS.inBlock ?_ | refine RS.block ?_ | refine RS.exit ?_))
  refine RS.loopF (X := Nat × Value × PH) 5 47 (fun x => x.1 ≤ 3 ∧ x.1 ≤ ns.length ∧ PH.le (hp w) x.2.2) (fun x => [(5, x.2.1), (6, .int .i64 x.1)]) (fun x => x.2.2) (fun x => [rowD w.heap.size 41 x.2.1 (placesTo ns n x.1)]) (fun x => 3 - x.1) (0, .slice none 0 0, hp w) ⟨by omega, by omega, PH.le_refl _⟩ ⟨rfl, rfl, trivial⟩ rfl ⟨fun h => h⟩ ?_
  rintro ⟨i, v, σ⟩ g ⟨hi3, hin, hle⟩ ih
  simp only at hi3 hin hle ih ⊢
  (repeat (first | refine RS.seq ?_ | refine RS.region ?_ | refine RS.regionQ ?_ (by kernel_rfl) (by kernel_rfl) | refine RS.skip ?_ | refine RS.inBlock ?_ | refine RS.block ?_ | refine RS.exit ?_)); refine mvI ?_; refine mvL ?_; refine lenL ?_; refine ltI ?_; refine mvB ?_
  refine LS.cut 12 16 [(15, .bool (decide (i < 3 ∧ i < ns.length)))] (fun gg => ?_) (fun J => ?_)
  rotate_left
  · refine LS.part 12 (fun g1 => ?_) (fun g1 => ?_)
    · refine LS.on ?_; refine mvI ?_; refine LS.on ?_; refine ltI ?_; refine pk (v := .bool _) ?_; refine LS.done ?_
      simp only [decide_eq_true_eq] at g1
      exact J ⟨boolV (decide_eq_decide.2 (by omega)), trivial⟩ (by repeat (first | with_reducible exact Out.refl _ _ _ | exact Out.hv | refine Out.upd ?_ | refine Out.hvIn ?_))
    · refine LS.off ?_; refine LS.off ?_; refine pk (v := .bool _) ?_; refine LS.done ?_
      simp only [decide_eq_false_iff_not] at g1
      exact J ⟨boolV (by symm; exact decide_eq_false (by omega)), trivial⟩ (by repeat (first | with_reducible exact Out.refl _ _ _ | exact Out.hv | refine Out.upd ?_ | refine Out.hvIn ?_))
  (repeat (first | refine RS.seq ?_ | refine RS.region ?_ | refine RS.regionQ ?_ (by kernel_rfl) (by kernel_rfl) | refine RS.skip ?_ | refine RS.inBlock ?_ | refine RS.block ?_ | refine RS.exit ?_))
  refine RS.cond (fun c => ?_) (fun c => ?_)
  · simp only [decide_eq_true_eq] at c
    obtain ⟨b, o, rfl, hrow⟩ := hr.addr (fun h => by simp [h] at c)
    obtain ⟨hcell, h64⟩ := (hrow.mono hle).int i c.2
    have hgd : ns[i] = ns.getD i 0 := by simp [List.getD_eq_getElem?_getD, c.2]
    rw [hgd] at hcell h64
    have hpl := placesTo_length ns n i
    obtain ⟨kk, hkk⟩ : ∃ kk, kk = kAt ns n i := ⟨_, rfl⟩
    have hk64 : I64 kk := by rw [hkk]; exact wrap_in _
    have hp1 : (⟨#[112]⟩ : ByteArray).size = 1 := rfl
    have hf1 : (List.foldl (fun (r : ByteArray) (n : Int) => r.push (UInt8.ofNat n.toNat)) ByteArray.empty [IntKind.u8.wrap (97 + (i : Int))]).size = 1 := by simp only [List.foldl]; rw [ByteArray.size_push]; rfl
    (repeat (first | refine RS.seq ?_ | refine RS.region ?_ | refine RS.regionQ ?_ (by kernel_rfl) (by kernel_rfl) | refine RS.skip ?_ | refine RS.inBlock ?_ | refine RS.block ?_ | refine RS.exit ?_)); refine mvL ?_; refine mvI ?_; refine idx (i := i) ?_; refine ldS hcell ?_; refine mvI ?_; refine addI ?_; refine asI ?_; refine LS.done ?_
    rw [show IntKind.i64.wrap (ns.getD i 0 + n) = kk from hkk.symm]
    (repeat (first | refine RS.seq ?_ | refine RS.region ?_ | refine RS.skip ?_ | refine RS.inBlock ?_ | refine RS.block ?_ | refine RS.exit ?_)); refine RS.draw [.free, .free, .free, .free, .ex, .ex, .free, .free, .ex, .free, .free, .ex, .free, .free, .ex, .free, .free, .ex, .free, .free, .ex, .eff, .eff] [] ?_ (by kernel_rfl) (by kernel_rfl) (by infer_instance); refine D.mv (v := v) ?_; refine D.mvI ?_; (first | refine D.addN ?_ | refine D.addI ?_); refine D.cvI ?_
    refine D.bldL [.int .u8 _] [.int .u8 _] ?_
    refine D.b2s (c0 := 1) [IntKind.u8.wrap (97 + (i : Int))] 28 ?_ (fun us σ' _ ⟨⟨b, h1, h2⟩, _⟩ => ⟨b, h1, fun j hj => by simp [PH.cell, h2]⟩); refine D.addS ?_; refine D.mvI ?_
    refine D.callP ?_ (hc := fun _ _ w _ _ _ => lname_c _ w)
    refine D.mvI ?_; refine D.quoN ?_
    refine D.callP ?_ (hc := fun _ _ w _ _ _ => w7_c _ _ (by omega) (by omega) w)
    refine D.mvI ?_; refine D.quoN ?_
    refine D.callP ?_ (hc := fun _ _ w _ _ _ => w7_c _ _ (by omega) (by omega) w)
    refine D.bld (vals := [(0, .int _ _), (1, .int _ _)]) [_, _] ?_; refine D.mvI ?_
    refine D.callP ?_ (hc := fun _ _ w _ _ _ => w7_c _ _ (by omega) (by omega) w)
    refine D.eqI ?_; refine D.bld (vals := [(0, .string _), (1, .string _), (2, .agg (List.toArray [_, _])), (3, .bool _)]) [_, _, _, _, _] ?_
    refine D.litT w.heap.size [placeOf i kk] (vs := fun us => [.agg (List.toArray (placeC (placeOf i kk)))]) ?_ (fun us σ' _ _ => ⟨rep_placeOf _ i kk, trivial⟩)
    refine D.appD v [placeOf i kk] (vy := fun us => us 44) ?_ (fun us σ' _ ⟨h1, _⟩ => ⟨_, h1, PH.le_refl _⟩)
    refine D.mvD 45 ?_
    refine D.done (fun us σ1 hle1 hfs => ?_)
    rw [hkk, ← placesTo_succ]
    (repeat (first | refine RS.seq ?_ | refine RS.region ?_ | refine RS.regionQ ?_ (by kernel_rfl) (by kernel_rfl) | refine RS.skip ?_ | refine RS.inBlock ?_ | refine RS.block ?_ | refine RS.exit ?_)); refine mvI ?_; (first | refine addN ?_ | refine addI ?_); refine asI ?_; refine LS.done ?_; (repeat (first | refine RS.seq ?_ | refine RS.region ?_ | refine RS.regionQ ?_ (by kernel_rfl) (by kernel_rfl) | refine RS.skip ?_ | refine RS.inBlock ?_ | refine RS.block ?_ | refine RS.exit ?_))
    exact ih (i + 1, us 5, σ1) ⟨by omega, by omega, PH.le_trans hle hle1⟩ (by omega) ⟨rfl, rfl, trivial⟩ (by repeat (first | with_reducible exact Out.refl _ _ _ | exact Out.hv | refine Out.upd ?_ | refine Out.hvIn ?_)) ⟨fun h => h⟩ rfl
  · simp only [decide_eq_false_iff_not] at c
    have hpl := placesTo_length ns n i
    have hi : i = min 3 ns.length := by omega
    (repeat (first | refine RS.seq ?_ | refine RS.region ?_ | refine RS.regionQ ?_ (by kernel_rfl) (by kernel_rfl) | refine RS.skip ?_ | refine RS.inBlock ?_ | refine RS.block ?_ | refine RS.exit ?_)); refine mv (v := v) ?_; refine as_ (v := v) ?_; refine LS.done ?_
    (repeat (first | refine RS.seq ?_ | refine RS.region ?_ | refine RS.regionQ ?_ (by kernel_rfl) (by kernel_rfl) | refine RS.skip ?_ | refine RS.inBlock ?_ | refine RS.block ?_ | refine RS.exit ?_))
    refine RS.formD (l := placesTo ns n i) v (fun a7 c7 e7 _ => ?_); subst e7
    refine RS.ret1 (v := .slice _ _ _) Tryd.func26 fun w hw => ?_
    exact ⟨_, _, rfl, by rw [placesOf, ← hi]; exact (hw.postD rfl).rowN (Nat.zero_le _)⟩
theorem placesOf_len (ns : List Int) (n : Int) : (placesOf ns n).length ≤ 3 := by rw [placesOf, placesTo_length]; omega
theorem lplaces_c (ns : List Int) (n : Int) (vn : Value) (w : World) (hr : RepL (hp w) vn ns) : Calls Tryd.prog 26 #[vn, .int .i64 n] w fun e w' => ∃ v, e = .returned v ∧ Below w.heap.size w w' ∧ RepL (since w w') v (placesOf ns n) :=
  (lplacesO_c ns n vn w hr).mono fun _ _ ⟨v, _, he, hp'⟩ => ⟨v, he, hp'.below, hp'.row (by have := placesOf_len ns n; omega)⟩
end Go.Proofs.YthnoaapghcadgaaDoor
