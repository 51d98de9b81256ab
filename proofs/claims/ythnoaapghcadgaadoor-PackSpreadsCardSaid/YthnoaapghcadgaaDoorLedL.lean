/- A ledger as one assertion; its operations as rules of the walk. -/
import Derived.Test.YthnoaapghcadgaaDoorLedInv
namespace Go.Proofs.YthnoaapghcadgaaDoor
open Go.JW Go.RowKit
def ledHP (bl : Nat) (S : LedD) : HP :=
  ⟨fun g F => ∃ b1 b2 es1 c1 es2 c2, MapOk g.imm es1 c1 S.nodes ∧ MapOk g.imm es2 c2 S.taken ∧ SepIn g (LK bl b1 b2 es1 c1 es2 c2) F,
   fun ⟨b1, b2, es1, c1, es2, c2, h1, h2, h3⟩ hg hi => ⟨b1, b2, es1, c1, es2, c2, h1.mono hi, h2.mono hi, h3.loc hg hi⟩⟩
class FindL (bl : Nat) (K : List HP) (S : outParam LedD) (put : outParam (HP → List HP)) (K' : outParam (List HP)) : Prop where
  get : ∀ {g : VH} {F : Nat → Prop}, SepIn g K F → SepIn g (ledHP bl S :: K') F
  set : ∀ {A : HP} {g : VH} {F : Nat → Prop}, SepIn g (A :: K') F → SepIn g (put A) F
instance FindL.tail {bl : Nat} {K : List HP} {S : LedD} {put : HP → List HP} {K' : List HP} {B : HP} [i : FindL bl K S put K'] : FindL bl (B :: K) S (fun A => B :: put A) (B :: K') where
  get h := SepIn.swap (SepIn.cons_sub (fun _ => i.get) h)
  set h := SepIn.cons_sub (fun _ => i.set) (SepIn.swap h)
instance FindL.head {bl : Nat} {K : List HP} {S : LedD} : FindL bl (ledHP bl S :: K) S (fun A => A :: K) K where
  get h := h
  set h := h
section
variable {w0 w : World} {M : Nat → Prop} {σ : PH} {K K' : List HP} {bl : Nat} {S : LedD} {put : HP → List HP}
theorem openLed (hw : Sat w0 M σ (ledHP bl S :: K) w) : ∃ b1 b2 es1 c1 es2 c2, MapOk σ es1 c1 S.nodes ∧ MapOk σ es2 c2 S.taken ∧ Sat w0 M σ (LK bl b1 b2 es1 c1 es2 c2 ++ K) w := by
  obtain ⟨F1, ⟨b1, b2, es1, c1, es2, c2, h1, h2, h3⟩, h4, h5⟩ := hw.sep
  refine ⟨b1, b2, es1, c1, es2, c2, h1, h2, hw.os, hw.tape, hw.output, hw.size, hw.keep, hw.imm, SepIn.append (A := LK bl b1 b2 es1 c1 es2 c2) ⟨F1, h3, h4, h5⟩⟩
theorem closeLed {b1 b2 c1 c2 : Nat} {es1 es2 : Array MapEntry} (h1 : MapOk σ es1 c1 S.nodes) (h2 : MapOk σ es2 c2 S.taken) (hw : Sat w0 M σ (LK bl b1 b2 es1 c1 es2 c2 ++ K) w) : Sat w0 M σ (ledHP bl S :: K) w := by
  obtain ⟨F1, h3, h4, h5⟩ := SepIn.group hw.sep
  exact ⟨hw.os, hw.tape, hw.output, hw.size, hw.keep, hw.imm, F1, ⟨b1, b2, es1, c1, es2, c2, h1, h2, h3⟩, h4, h5⟩
end
section
variable {q : Bool} {ops : Array Oper} {f : FuncId} {R : Ending → World → Prop} {k : List Item} {n : Nat} {fr : Nat → Value} {w0 : World} {M : Nat → Prop} {σ : PH} {K K' : List HP}
variable {rest : List Oper} {d : Nat} {ty : TypeId} {pos : String} {aft : Array Edge} {xs : Array Operand} {ts : Array TypeId} {bl : Nat} {S : LedD} {put : HP → List HP}
/-- A call on a ledger. -/
theorem callL {P : Program} {g : FuncId} {args : List Value} {X : Type} (val : X → Value) (σx : X → PH) (Sx : X → LedD) (Q : X → Prop) [i : Fun P g] (hf : FindL bl K S put K')
    (h : ∀ x, Q x → LS P false ops f R k rest n (upd fr d (val x)) w0 M (σx x) (put (ledHP bl (Sx x))))
    (hc : ∀ w, Sat w0 M σ (ledHP bl S :: K') w → Calls P g args.toArray w fun e w' => ∃ x, e = .returned (val x) ∧ Sat w0 M (σx x) (ledHP bl (Sx x) :: K') w' ∧ Q x) (hx : xs.toList.map (ev n fr) = args) :
    LS P false ops f R k (⟨some d, .call ⟨.value (.func g), xs, ts⟩, ty, pos, aft, none⟩ :: rest) n fr w0 M σ K :=
  LS.enterW rfl rfl (fun w _ => exec_call i.eq hx w) fun w hw => (hc w (hw.weak fun _ => hf.get)).mono fun _ _ ⟨x, he, hs, hq⟩ => ⟨val x, σx x, _, he, hs.weak fun _ => hf.set, h x hq⟩
theorem newL (h : ∀ bl, LS Tryd.prog false ops f R k rest n (upd fr d (.pointer (some ⟨bl, 0, none⟩))) w0 M σ (ledHP bl ⟨[], []⟩ :: K)) (hx : xs.toList.map (ev n fr) = [] := by rfl) :
    LS Tryd.prog false ops f R k (⟨some d, .call ⟨.value (.func 9), xs, ts⟩, ty, pos, aft, none⟩ :: rest) n fr w0 M σ K :=
  LS.enterW rfl rfl (fun w _ => exec_call Fun.eq hx w) fun w hw => (new_c w hw).mono fun _ _ ⟨x, he, hs⟩ => ⟨_, σ, _, he, closeLed (S := ⟨[], []⟩) (MapOk.nil _) (MapOk.nil _) hs, h x.1⟩
theorem putL (nd : NodeD) (am at_ : Option Addr) (cm ct : Nat) {kk : Nat} (hi : LedInv S kk) (hk : kk ≤ 1000000) (hr : ArgAt σ K' (nodeC nd (.slice am nd.marks.length cm) (.slice at_ nd.taints.length ct)) nd)
    (h : ∀ σ', PH.le σ σ' → LS Tryd.prog false ops f R k rest n (upd fr d (.int .i64 (putE S nd))) w0 M σ' (put (ledHP bl ⟨putN S nd, S.taken⟩)))
    (hx : xs.toList.map (ev n fr) = [.pointer (some ⟨bl, 0, none⟩), .agg (List.toArray (nodeC nd (.slice am nd.marks.length cm) (.slice at_ nd.taints.length ct)))] := by rfl) (hf : FindL bl K S put K' := by infer_instance) :
    LS Tryd.prog false ops f R k (⟨some d, .call ⟨.value (.func 11), xs, ts⟩, ty, pos, aft, none⟩ :: rest) n fr w0 M σ K :=
  callL (X := PH) (fun _ => _) (fun x => x) (fun _ => _) (fun x => PH.le σ x) hf h (fun w hw => by
    obtain ⟨b1, b2, es1, c1, es2, c2, h1, h2, hs⟩ := openLed hw
    exact (put_c nd am at_ cm ct hr h1 h2 (hi.takenOk hk) w hs).mono fun _ _ ⟨x, he, hs, hle, hm⟩ => ⟨x.1, he, closeLed (S := ⟨putN S nd, S.taken⟩) hm (h2.mono hle) hs, hle⟩) hx
def goneE (S : LedD) (nm : ByteArray) : Int := if (asg S.nodes nm).isSome = false then 5 else if 0 < usedN S.taken nm then 7 else 0
def goneN (S : LedD) (nm : ByteArray) : List (ByteArray × NodeD) := if (asg S.nodes nm).isSome = true ∧ usedN S.taken nm = 0 then adel S.nodes nm else S.nodes
theorem takeL (g : Int) (v : Value) (ps : List PlaceD) {kk : Nat} (hi : LedInv S kk) (hk : kk ≤ 1000000) (hl : ps.length ≤ 1000) (hr : ArgL σ K' v ps)
    (h : ∀ σ', PH.le σ σ' → LS Tryd.prog false ops f R k rest n (upd fr d (.int .i64 (takeE S g ps))) w0 M σ' (put (ledHP bl ⟨S.nodes, takeT S g ps⟩)))
    (hx : xs.toList.map (ev n fr) = [.pointer (some ⟨bl, 0, none⟩), .int .i64 g, v] := by rfl) (hf : FindL bl K S put K' := by infer_instance) :
    LS Tryd.prog false ops f R k (⟨some d, .call ⟨.value (.func 23), xs, ts⟩, ty, pos, aft, none⟩ :: rest) n fr w0 M σ K :=
  callL (X := PH) (fun _ => _) (fun x => x) (fun _ => _) (fun x => PH.le σ x) hf h (fun w hw => by
    obtain ⟨b1, b2, es1, c1, es2, c2, h1, h2, hs⟩ := openLed hw
    exact (take_c g v ps hr h1 h2 hi.nodes (hi.takenOk hk) hl w hs).mono fun _ _ ⟨x, he, hs, hle, hm⟩ => ⟨x.1, he, closeLed (S := ⟨S.nodes, takeT S g ps⟩) (h1.mono hle) hm hs, hle⟩) hx
theorem LedInv.tk_len {S : LedD} {kk : Nat} (hi : LedInv S kk) (g : Int) : (tk S.taken g).length ≤ 1000 := by
  by_cases h : 0 < (tk S.taken g).length
  · exact hi.size _ (asg_some_mem (tk_some h))
  · omega
theorem placesL (g : Int) {kk : Nat} (hi : LedInv S kk)
    (h : ∀ v σ', PH.le σ σ' → RepL σ' v (tk S.taken g) → LS Tryd.prog false ops f R k rest n (upd fr d v) w0 M σ' (put (ledHP bl S)))
    (hx : xs.toList.map (ev n fr) = [.pointer (some ⟨bl, 0, none⟩), .int .i64 g] := by rfl) (hf : FindL bl K S put K' := by infer_instance) :
    LS Tryd.prog false ops f R k (⟨some d, .call ⟨.value (.func 20), xs, ts⟩, ty, pos, aft, none⟩ :: rest) n fr w0 M σ K :=
  callL (X := Value × PH) (fun x => x.1) (fun x => x.2) (fun _ => _) (fun x => PH.le σ x.2 ∧ RepL x.2 x.1 (tk S.taken g)) hf (fun x hx => h x.1 x.2 hx.1 hx.2) (fun w hw => by
    obtain ⟨b1, b2, es1, c1, es2, c2, h1, h2, hs⟩ := openLed hw
    exact (places_c g h2 (hi.tk_len g) w hs).mono fun _ _ ⟨v, σ', hle, hr, he, hs⟩ => ⟨(v, σ'), he, closeLed (h1.mono hle) (h2.mono hle) hs, hle, hr⟩) hx
theorem nodesL {kk : Nat} (hi : LedInv S kk)
    (h : ∀ v σ', PH.le σ σ' → RepL σ' v (nodesOf S) → LS Tryd.prog false ops f R k rest n (upd fr d v) w0 M σ' (put (ledHP bl S)))
    (hx : xs.toList.map (ev n fr) = [.pointer (some ⟨bl, 0, none⟩)] := by rfl) (hf : FindL bl K S put K' := by infer_instance) :
    LS Tryd.prog false ops f R k (⟨some d, .call ⟨.value (.func 22), xs, ts⟩, ty, pos, aft, none⟩ :: rest) n fr w0 M σ K :=
  callL (X := Value × PH) (fun x => x.1) (fun x => x.2) (fun _ => _) (fun x => PH.le σ x.2 ∧ RepL x.2 x.1 (nodesOf S)) hf (fun x hx => h x.1 x.2 hx.1 hx.2) (fun w hw => by
    obtain ⟨b1, b2, es1, c1, es2, c2, h1, h2, hs⟩ := openLed hw
    exact (nodes_c h1 hi.nodes w hs).mono fun _ _ ⟨v, σ', hle, hr, he, hs⟩ => ⟨(v, σ'), he, closeLed (h1.mono hle) (h2.mono hle) hs, hle, hr⟩) hx
theorem usedL (nm : ByteArray) {kk : Nat} (hi : LedInv S kk) (hk : kk ≤ 1000000)
    (h : ∀ σ', PH.le σ σ' → LS Tryd.prog false ops f R k rest n (upd fr d (.tuple #[.agg (List.toArray [.int .i64 (usedC S.taken nm), .int .i64 (usedM S.taken nm)]), .int .i64 (usedN S.taken nm)])) w0 M σ' (put (ledHP bl S)))
    (hx : xs.toList.map (ev n fr) = [.pointer (some ⟨bl, 0, none⟩), .string nm] := by rfl) (hf : FindL bl K S put K' := by infer_instance) :
    LS Tryd.prog false ops f R k (⟨some d, .call ⟨.value (.func 15), xs, ts⟩, ty, pos, aft, none⟩ :: rest) n fr w0 M σ K :=
  callL (X := PH) (fun _ => _) (fun x => x) (fun _ => _) (fun x => PH.le σ x) hf h (fun w hw => by
    obtain ⟨b1, b2, es1, c1, es2, c2, h1, h2, hs⟩ := openLed hw
    exact (usedT_c nm h2 (hi.takenOk hk) w hs).mono fun _ _ ⟨σ', hle, he, hs⟩ => ⟨σ', he, closeLed (h1.mono hle) (h2.mono hle) hs, hle⟩) hx
theorem LedInv.goneI {S : LedD} {kk : Nat} (hi : LedInv S kk) (nm : ByteArray) : LedInv ⟨goneN S nm, S.taken⟩ kk := by
  unfold goneN
  split
  · rename_i h; exact hi.gone h.1 h.2
  · exact hi
/-! the same, what comes of it told by equations -/
theorem putL' (nd : NodeD) (E : Int) (S' : LedD) (am at_ : Option Addr) (cm ct : Nat) {kk : Nat} (hi : LedInv S kk) (hk : kk ≤ 1000000) (hE : putE S nd = E) (hS : (⟨putN S nd, S.taken⟩ : LedD) = S') (hr : ArgAt σ K' (nodeC nd (.slice am nd.marks.length cm) (.slice at_ nd.taints.length ct)) nd)
    (h : ∀ σ', PH.le σ σ' → LS Tryd.prog false ops f R k rest n (upd fr d (.int .i64 E)) w0 M σ' (put (ledHP bl S')))
    (hx : xs.toList.map (ev n fr) = [.pointer (some ⟨bl, 0, none⟩), .agg (List.toArray (nodeC nd (.slice am nd.marks.length cm) (.slice at_ nd.taints.length ct)))] := by rfl) (hf : FindL bl K S put K' := by infer_instance) :
    LS Tryd.prog false ops f R k (⟨some d, .call ⟨.value (.func 11), xs, ts⟩, ty, pos, aft, none⟩ :: rest) n fr w0 M σ K := by
  subst hE; subst hS; exact putL nd am at_ cm ct hi hk hr h hx hf
theorem takeL' (g : Int) (v : Value) (ps : List PlaceD) (E : Int) (S' : LedD) {kk : Nat} (hi : LedInv S kk) (hk : kk ≤ 1000000) (hE : takeE S g ps = E) (hS : (⟨S.nodes, takeT S g ps⟩ : LedD) = S') (hl : ps.length ≤ 1000) (hr : ArgL σ K' v ps)
    (h : ∀ σ', PH.le σ σ' → LS Tryd.prog false ops f R k rest n (upd fr d (.int .i64 E)) w0 M σ' (put (ledHP bl S')))
    (hx : xs.toList.map (ev n fr) = [.pointer (some ⟨bl, 0, none⟩), .int .i64 g, v] := by rfl) (hf : FindL bl K S put K' := by infer_instance) :
    LS Tryd.prog false ops f R k (⟨some d, .call ⟨.value (.func 23), xs, ts⟩, ty, pos, aft, none⟩ :: rest) n fr w0 M σ K := by
  subst hE; subst hS; exact takeL g v ps hi hk hl hr h hx hf
theorem LedInv.put' {S S' : LedD} {kk : Nat} (h : LedInv S kk) (nd : NodeD) (hS : (⟨putN S nd, S.taken⟩ : LedD) = S') : LedInv S' kk := hS ▸ h.put nd
theorem LedInv.gone' {S S' : LedD} {kk : Nat} (h : LedInv S kk) (nm : ByteArray) (hS : (⟨goneN S nm, S.taken⟩ : LedD) = S') : LedInv S' kk := hS ▸ h.goneI nm
theorem LedInv.take' {S S' : LedD} {kk : Nat} (h : LedInv S kk) (g : Int) (ps : List PlaceD) (m : Nat) (hS : (⟨S.nodes, takeT S g ps⟩ : LedD) = S') (hm : ps.length ≤ m) (hm2 : ps.length ≤ 1000) : LedInv S' (kk + m) := hS ▸ h.take hm hm2
theorem LedInv.give' {S S' : LedD} {kk : Nat} (h : LedInv S kk) (g : Int) (hS : (⟨S.nodes, giveT S.taken g⟩ : LedD) = S') : LedInv S' kk := hS ▸ h.give g
/-! where the order of calls is drawn -/
variable {H : HS} {O : List (Nat × Obj)} {Kf : Us → List HP} {Kb : List HP} {E0 : List Nat} {tags : List Tag}
/-- What a call on a ledger does, beside whatever there is. -/
def LedC (w0 : World) (M : Nat → Prop) (σ : PH) (K : List HP) (bl : Nat) (g : FuncId) (args : List Value) (v : Value) (S S' : LedD) : Prop :=
  ∀ w X, Sat w0 M σ (ledHP bl S :: X :: K) w → Calls Tryd.prog g args.toArray w fun e w' => e = .returned v ∧ ∃ σ', PH.le σ σ' ∧ Sat w0 M σ' (ledHP bl S' :: X :: K) w'
theorem D.callL {g : FuncId} {args : Us → List Value} (v : Value) (S' : LedD) [i : Fun Tryd.prog g]
    (h : LD Tryd.prog f R k n w0 M σ Kb rest tags ⟨fr, (d, fun u _ => u = v) :: H, O, fun _ => put (ledHP bl S'), d :: ((Stg.mk fr H O (fun _ => K) E0 false).seen ⟨some d, .call ⟨.value (.func g), xs, ts⟩, ty, pos, aft, none⟩ ++ E0), false⟩)
    (hc : ∀ us σ', PH.le σ σ' → Facts H (readsTmp ⟨some d, .call ⟨.value (.func g), xs, ts⟩, ty, pos, aft, none⟩) us σ' → LedC w0 M σ' K' bl g (args us) v S S')
    (hx : ∀ us, xs.toList.map (ev n (fill fr H us)) = args us := by intro _; rfl) (hf : FindL bl K S put K' := by infer_instance) (hL : Less (put (ledHP bl S')) Kb := by infer_instance) :
    LD Tryd.prog f R k n w0 M σ Kb (⟨some d, .call ⟨.value (.func g), xs, ts⟩, ty, pos, aft, none⟩ :: rest) (.eff :: tags) ⟨fr, H, O, fun _ => K, E0, false⟩ :=
  D.eff (fun u _ => u = v) (fun _ => put (ledHP bl S')) _ (fun _ _ _ h _ => h) (fun _ => hL) h fun us σ' w X hle hfs hw => by
    refine .inr ⟨g, _, exec_call i.eq (hx us) w, ?_⟩
    have hw' : Sat w0 M σ' (ledHP bl S :: X :: K') w := hw.weak fun _ h => (SepIn.cons_sub (fun _ => hf.get) h).swap
    exact (hc us σ' hle hfs w X hw').mono fun _ _ ⟨he, σ'', h1, h2⟩ => ⟨v, he, σ'', h1, h2.weak fun _ h => SepIn.cons_sub (fun _ => hf.set) h.swap, rfl⟩
theorem takeC (g : Int) (v : Value) (ps : List PlaceD) {kk : Nat} (hi : LedInv S kk) (hk : kk ≤ 1000000) (hl : ps.length ≤ 1000) (hr : RepL σ v ps) : LedC w0 M σ K bl 23 [.pointer (some ⟨bl, 0, none⟩), .int .i64 g, v] (.int .i64 (takeE S g ps)) S ⟨S.nodes, takeT S g ps⟩ := fun w X hw => by
  obtain ⟨b1, b2, es1, c1, es2, c2, h1, h2, hs⟩ := openLed hw
  exact (take_c g v ps (ArgL.of hr) h1 h2 hi.nodes (hi.takenOk hk) hl w hs).mono fun _ _ ⟨x, he, hs, hle, hm⟩ => ⟨he, x.1, hle, closeLed (S := ⟨S.nodes, takeT S g ps⟩) (h1.mono hle) hm hs⟩
theorem putC (nd : NodeD) (am at_ : Option Addr) (cm ct : Nat) {kk : Nat} (hi : LedInv S kk) (hk : kk ≤ 1000000) (hr : Rep.rep σ (nodeC nd (.slice am nd.marks.length cm) (.slice at_ nd.taints.length ct)) nd) : LedC w0 M σ K bl 11 [.pointer (some ⟨bl, 0, none⟩), .agg (List.toArray (nodeC nd (.slice am nd.marks.length cm) (.slice at_ nd.taints.length ct)))] (.int .i64 (putE S nd)) S ⟨putN S nd, S.taken⟩ := fun w X hw => by
  obtain ⟨b1, b2, es1, c1, es2, c2, h1, h2, hs⟩ := openLed hw
  exact (put_c nd am at_ cm ct (ArgAt.of hr) h1 h2 (hi.takenOk hk) w hs).mono fun _ _ ⟨x, he, hs, hle, hm⟩ => ⟨he, x.1, hle, closeLed (S := ⟨putN S nd, S.taken⟩) hm (h2.mono hle) hs⟩
theorem D.takeL (g : Int) (v : Us → Value) (ps : List PlaceD) (E : Int) (S' : LedD) {kk : Nat} (hi : LedInv S kk) (hk : kk ≤ 1000000) (hl : ps.length ≤ 1000) (hr : ∀ us σ', PH.le σ σ' → Facts H (readsTmp ⟨some d, .call ⟨.value (.func 23), xs, ts⟩, ty, pos, aft, none⟩) us σ' → RepL σ' (v us) ps) (hE : takeE S g ps = E) (hS : (⟨S.nodes, takeT S g ps⟩ : LedD) = S')
    (h : LD Tryd.prog f R k n w0 M σ Kb rest tags ⟨fr, (d, fun u _ => u = .int .i64 E) :: H, O, fun _ => put (ledHP bl S'), d :: ((Stg.mk fr H O (fun _ => K) E0 false).seen ⟨some d, .call ⟨.value (.func 23), xs, ts⟩, ty, pos, aft, none⟩ ++ E0), false⟩)
    (hx : ∀ us, xs.toList.map (ev n (fill fr H us)) = [.pointer (some ⟨bl, 0, none⟩), .int .i64 g, v us] := by intro _; rfl) (hf : FindL bl K S put K' := by infer_instance) (hL : Less (put (ledHP bl S')) Kb := by infer_instance) :
    LD Tryd.prog f R k n w0 M σ Kb (⟨some d, .call ⟨.value (.func 23), xs, ts⟩, ty, pos, aft, none⟩ :: rest) (.eff :: tags) ⟨fr, H, O, fun _ => K, E0, false⟩ := by
  subst hE; subst hS
  exact D.callL _ _ h (fun us σ' hle hfs => takeC g _ ps hi hk hl (hr us σ' hle hfs)) hx hf hL
theorem D.putL (nd : NodeD) (am at_ : Option Addr) (cm ct : Nat) (E : Int) (S' : LedD) {kk : Nat} (hi : LedInv S kk) (hk : kk ≤ 1000000) (hr : ∀ σ', PH.le σ σ' → Rep.rep σ' (nodeC nd (.slice am nd.marks.length cm) (.slice at_ nd.taints.length ct)) nd) (hE : putE S nd = E) (hS : (⟨putN S nd, S.taken⟩ : LedD) = S')
    (h : LD Tryd.prog f R k n w0 M σ Kb rest tags ⟨fr, (d, fun u _ => u = .int .i64 E) :: H, O, fun _ => put (ledHP bl S'), d :: ((Stg.mk fr H O (fun _ => K) E0 false).seen ⟨some d, .call ⟨.value (.func 11), xs, ts⟩, ty, pos, aft, none⟩ ++ E0), false⟩)
    (hx : ∀ us, xs.toList.map (ev n (fill fr H us)) = [.pointer (some ⟨bl, 0, none⟩), .agg (List.toArray (nodeC nd (.slice am nd.marks.length cm) (.slice at_ nd.taints.length ct)))] := by intro _; rfl) (hf : FindL bl K S put K' := by infer_instance) (hL : Less (put (ledHP bl S')) Kb := by infer_instance) :
    LD Tryd.prog f R k n w0 M σ Kb (⟨some d, .call ⟨.value (.func 11), xs, ts⟩, ty, pos, aft, none⟩ :: rest) (.eff :: tags) ⟨fr, H, O, fun _ => K, E0, false⟩ := by
  subst hE; subst hS
  exact D.callL _ _ h (fun us σ' hle hfs => putC nd am at_ cm ct hi hk (hr σ' hle)) hx hf hL
/-! what is asked of a ledger, whenever it comes -/
theorem D.nodesL {kk : Nat} (hi : LedInv S kk) (hf : FindL bl Kb S put K')
    (h : LD Tryd.prog f R k n w0 M σ Kb rest tags ⟨fr, (d, fun v σ => RepL σ v (nodesOf S)) :: H, O, Kf, E0, false⟩)
    (hx : ∀ us, xs.toList.map (ev n (fill fr H us)) = [.pointer (some ⟨bl, 0, none⟩)] := by intro _; rfl) :
    LD Tryd.prog f R k n w0 M σ Kb (⟨some d, .call ⟨.value (.func 22), xs, ts⟩, ty, pos, aft, none⟩ :: rest) (.ex :: tags) ⟨fr, H, O, Kf, E0, false⟩ :=
  D.callG (fun v σ => RepL σ v (nodesOf S)) (fun _ _ _ h hs => h.mono hs) h (fun us σ' w hle _ hw => by
    obtain ⟨b1, b2, es1, c1, es2, c2, h1, h2, hs⟩ := openLed (hw.weak fun _ => hf.get)
    exact Calls.ofAns (fun _ _ _ h hs => h.mono hs) [(bl, .cells (List.toArray [.map (some b1), .map (some b2)]) 55 (0, 0)), (b1, .map es1 c1), (b2, .map es2 c2)] hs (fun _ h => h) fun w0' M' K'' hs' => nodes_c h1 hi.nodes w hs') hx
theorem D.placesL (g : Int) {kk : Nat} (hi : LedInv S kk) (hf : FindL bl Kb S put K')
    (h : LD Tryd.prog f R k n w0 M σ Kb rest tags ⟨fr, (d, fun v σ => RepL σ v (tk S.taken g)) :: H, O, Kf, E0, false⟩)
    (hx : ∀ us, xs.toList.map (ev n (fill fr H us)) = [.pointer (some ⟨bl, 0, none⟩), .int .i64 g] := by intro _; rfl) :
    LD Tryd.prog f R k n w0 M σ Kb (⟨some d, .call ⟨.value (.func 20), xs, ts⟩, ty, pos, aft, none⟩ :: rest) (.ex :: tags) ⟨fr, H, O, Kf, E0, false⟩ :=
  D.callG (fun v σ => RepL σ v (tk S.taken g)) (fun _ _ _ h hs => h.mono hs) h (fun us σ' w hle _ hw => by
    obtain ⟨b1, b2, es1, c1, es2, c2, h1, h2, hs⟩ := openLed (hw.weak fun _ => hf.get)
    exact Calls.ofAns (fun _ _ _ h hs => h.mono hs) [(bl, .cells (List.toArray [.map (some b1), .map (some b2)]) 55 (0, 0)), (b1, .map es1 c1), (b2, .map es2 c2)] hs (fun _ h => h) fun w0' M' K'' hs' => places_c g h2 (hi.tk_len g) w hs') hx
end
end Go.Proofs.YthnoaapghcadgaaDoor
