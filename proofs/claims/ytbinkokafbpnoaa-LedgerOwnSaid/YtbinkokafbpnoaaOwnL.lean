/- Walk: LedgerOwn. -/
import Derived.Test.YtbinkokafbpnoaaOwnC
import Derived.Test.YtbinkokafbpnoaaRef7
namespace Go.Proofs.Ytbinkokafbpnoaa
open Go.JW Go.RowKit
theorem own_set (n : Int) : isSet (setOf n) = true := by
  simp only [setOf, setN]
  by_cases h0 : bitOf n 0 = 1 <;> by_cases h1 : bitOf n 1 = 1 <;> by_cases h2 : bitOf n 2 = 1 <;> by_cases h3 : bitOf n 3 = 1 <;> simp only [h0, h1, h2, h3, if_true, if_false] <;> decide +kernel
theorem own_set_if (c : Prop) [Decidable c] (n : Int) : isSet (if c then setOf n else []) = true := by
  split
  · exact own_set n
  · decide
theorem own_name (a : Int) : isName (nameOf a) = true := by
  obtain ⟨h1, h2⟩ := wmod a 8 (by omega)
  have h : (a % 8).toNat < 8 := by omega
  have : ∀ i : Fin 8, isName (names8.getD i.val ⟨#[]⟩) = true := by decide +kernel
  exact this ⟨_, h⟩
theorem own_ok (a n : Int) : nodeErr (nodeOf a n) = 0 := by
  obtain ⟨a1, a2⟩ := wmod n 12 (by omega)
  obtain ⟨b1, b2⟩ := wmod (n.tdiv 12) 12 (by omega)
  have h : sizeOk (n % 12) (n.tdiv 12 % 12) = true := by simp only [sizeOk, size1, Bool.and_eq_true, decide_eq_true_eq]; omega
  simp only [nodeErr, nodeOf, own_name, h, own_set, own_set_if]; rfl
theorem rowD_rep {σ' : PH} {K K' : List HP} {w : World} {v : Value} {α : Type} {ri : Rep α} {e : Nat} {l : List α} {put : HP → List HP} {F : Nat → Prop} (hF : SepIn ⟨σ', hp w⟩ K F) (hi : PH.le σ' (hp w)) (hl : l.length ≤ 140737488355328) (hf : FindD v K α ri 0 e l put K') : RepL (hp w) v l := by
  obtain ⟨F1, h, _⟩ := hf.get hF
  obtain ⟨cs, hc, h1, _, a, cap, rfl, h2, _, h4⟩ := h
  refine ⟨hl, a, cap, rfl, h2, fun hn => ?_⟩
  rcases h4 with ⟨h8, _⟩ | ⟨b, c0, rfl, g1, g2, g3, g4⟩
  · exact absurd (List.eq_nil_of_length_eq_zero h8) hn
  · refine ⟨b, 0, rfl, (hc.mono (PH.le_trans (fromN_le _ _) hi)).rowAt fun j hj => ?_⟩
    rw [hc.len] at hj
    have g2' : w.heap[b]? = _ := g2
    have : (hp w).cell b (0 + j) = c0[j]? := by simp only [PH.cell, hp, g2', Nat.zero_add]; simp
    rw [this, ← g4, List.getElem?_take, if_pos hj]
theorem argNode {σ : PH} {K K' : List HP} {nd : NodeD} {vm vt : Value} {e : Nat} {put : HP → List HP} (h1 : nd.name.size ≤ 140737488355328) (h2 : I64 nd.cpu) (h3 : I64 nd.mem) (hm : nd.marks.length ≤ 140737488355328) (ht : RepL σ vt nd.taints) (hf : FindD vm K ByteArray inferInstance 0 e nd.marks put K') : ArgAt σ K (nodeC nd vm vt) nd :=
  fun _ _ hle hi ⟨_, hF⟩ => ⟨vm, vt, rfl, h1, h2, h3, rowD_rep hF hi hm hf, ht.mono (PH.le_trans hle hi)⟩
section
variable {q : Bool} {ops : Array Oper} {f : FuncId} {R : Ending → World → Prop} {k : List Item} {n : Nat} {fr : Nat → Value} {w0 : World} {M : Nat → Prop} {σ : PH} {K K' : List HP}
variable {rest : List Oper} {d : Nat} {ty : TypeId} {pos : String} {aft : Array Edge} {xs : Array Operand} {ts : Array TypeId} {bl : Nat} {S : LedD} {put : HP → List HP}
theorem SepIn.pull {g : VH} {A B : HP} {K K' : List HP} {F : Nat → Prop} {bl : Nat} {S : LedD} {put : HP → List HP} (hf : FindL bl K S put K') (h : SepIn g (A :: B :: K') F) : SepIn g (A :: put B) F := SepIn.cons_sub (fun _ => hf.set) h
theorem placesOL (g : Int) {kk : Nat} (hi : LedInv S kk)
    (h : ∀ v σ', PH.le σ σ' → LS Try.prog false ops f R k rest n (upd fr d v) w0 M σ' (rowD 0 43 v (tk S.taken g) :: put (ledHP bl S)))
    (hx : xs.toList.map (ev n fr) = [.pointer (some ⟨bl, 0, none⟩), .int .i64 g] := by rfl) (hf : FindL bl K S put K' := by infer_instance) :
    LS Try.prog false ops f R k (⟨some d, .call ⟨.value (.func 22), xs, ts⟩, ty, pos, aft, none⟩ :: rest) n fr w0 M σ K :=
  LS.enterW rfl rfl (fun w _ => exec_call Fun.eq hx w) fun w hw => by
    obtain ⟨b1, b2, es1, c1, es2, c2, h1, h2, hs⟩ := openLed (hw.weak fun _ => hf.get)
    exact (placesO_c g h2 (hi.tk_len g) w hs).mono fun _ _ ⟨v, σ', hle, he, hs⟩ => ⟨v, σ', _, he, (closeLed (K := rowD 0 43 v (tk S.taken g) :: K') (h1.mono hle) (h2.mono hle) (hs.front [rowD 0 43 v (tk S.taken g)] (LK bl b1 b2 es1 c1 es2 c2))).weak fun _ h => SepIn.pull hf h.swap, h v σ' hle⟩
theorem nodesOL {nm : ByteArray} {nd : NodeD} {kk : Nat} (hi : LedInv S kk) (hS : S.nodes = [(nm, nd)])
    (h : ∀ (x : Value × Value × Value) σ', PH.le σ σ' → RepL σ' x.1 [(⟨nd, x.2.1, x.2.2⟩ : NodeRaw)] → RepL σ' x.2.2 nd.taints → LS Try.prog false ops f R k rest n (upd fr d x.1) w0 M σ' (rowD 0 9 x.2.1 nd.marks :: put (ledHP bl S)))
    (hx : xs.toList.map (ev n fr) = [.pointer (some ⟨bl, 0, none⟩)] := by rfl) (hf : FindL bl K S put K' := by infer_instance) :
    LS Try.prog false ops f R k (⟨some d, .call ⟨.value (.func 21), xs, ts⟩, ty, pos, aft, none⟩ :: rest) n fr w0 M σ K :=
  LS.enterW rfl rfl (fun w _ => exec_call Fun.eq hx w) fun w hw => by
    obtain ⟨b1, b2, es1, c1, es2, c2, h1, h2, hs⟩ := openLed (hw.weak fun _ => hf.get)
    have hok := hi.nodes
    rw [hS] at hok
    exact (nodes1_c (hS ▸ h1) hok w hs).mono fun _ _ ⟨x, σ', hle, hr1, hr2, he, hs⟩ => ⟨x.1, σ', _, he, (closeLed (K := rowD 0 9 x.2.1 nd.marks :: K') (h1.mono hle) (h2.mono hle) (hs.front [rowD 0 9 x.2.1 nd.marks] (LK bl b1 b2 es1 c1 es2 c2))).weak fun _ h => SepIn.pull hf h.swap, h x σ' hle hr1 hr2⟩
end
theorem strSet {σ : PH} {c0 : List Value} {l : List ByteArray} {m : Nat} {s : ByteArray} (hm : l.length = m) (h : CellsL σ (c0.take (m * 1)) l) (hl : m * 1 ≤ c0.length) (i : Nat) (hi : i < m) (hs : s.size ≤ 140737488355328) : CellsL σ ((setAt c0 (0 + i * 1) [.string s]).take (m * 1)) (l.set i s) := by
  rw [take_setAt _ _ _ _ (by simp; omega) hl, Nat.zero_add]
  exact h.write i (by omega) 0 [.string s] (Nat.le_refl 1) s fun c hc => by obtain ⟨rfl, _⟩ := hc; exact ⟨rfl, hs⟩
def zP : ByteArray := ⟨#[112]⟩
def ownT (nd : NodeD) : LedD := ⟨[(nd.name, nd)], [(3, [placeP nmP nd.name 0 0])]⟩
theorem own_put {nd : NodeD} (hE : nodeErr nd = 0) : putE ⟨[], []⟩ nd = 0 ∧ (⟨putN ⟨[], []⟩ nd, []⟩ : LedD) = ⟨[(nd.name, nd)], []⟩ := by
  have e : putE ⟨[], []⟩ nd = 0 := by rw [putE, if_neg (by rw [hE]; simp)]; rfl
  exact ⟨e, by rw [putN, if_pos e]; rfl⟩
theorem own_take {nd : NodeD} (hE : nodeErr nd = 0) : takeE ⟨[(nd.name, nd)], []⟩ 3 [placeP nmP nd.name 0 0] = 0 ∧ (⟨[(nd.name, nd)], takeT ⟨[(nd.name, nd)], []⟩ 3 [placeP nmP nd.name 0 0]⟩ : LedD) = ownT nd := by
  have hc := fine_cap hE
  have e : takeE ⟨[(nd.name, nd)], []⟩ 3 [placeP nmP nd.name 0 0] = 0 := by
    rw [takeE_one (n := nd) rfl (by simp [asg, placeP, eqb_self]) ⟨by simp [placeP], by simp [placeP]⟩]
    simp only [placeP, usedC, usedM, List.map_nil, List.sum_nil]
    rw [if_pos ⟨by omega, by omega⟩]
  exact ⟨e, by rw [takeT, if_pos e]; rfl⟩
theorem ledOwn_c (ns : List Int) (n name : Int) (hn : I64 n) (vn : Value) (w : World) (hr : RepL (hp w) vn ns) : Calls Try.prog 5 #[vn, .int .i64 n, .int .i64 name] w fun e w' => e = .returned (.bool true) ∧ Below w.heap.size w w' := by
  obtain ⟨an, cn, rfl⟩ := hr.form
  obtain ⟨nd, hnd⟩ : ∃ nd, nd = nodeOf name n := ⟨_, rfl⟩
  have hE : nodeErr nd = 0 := by rw [hnd]; exact own_ok _ _
  obtain ⟨hml, htl⟩ := fine_small hE
  have hcap := fine_cap hE
  have hns : nd.name.size ≤ 1000 := by rw [hnd]; show (nameOf name).size ≤ _; have := nameOf_size name; omega
  obtain ⟨p1, p2⟩ := own_put hE
  obtain ⟨t1, t2⟩ := own_take hE
  have hi1 := (LedInv.empty 0).put' nd p2
  have hi2 := hi1.take' 3 [placeP nmP nd.name 0 0] 1 t2 (by simp) (by simp)
  refine RS.enter Try.func5 Try.ntmps5 rfl rfl ?_
  (repeat (first | refine RS.seq ?_ | refine RS.region ?_ | refine RS.regionQ ?_ (by kernel_rfl) (by kernel_rfl) | refine RS.skip ?_ | refine RS.inBlock ?_ | refine RS.block ?_ | refine RS.exit ?_)); refine asB ?_; refine LS.done ?_
  (repeat (first | refine RS.seq ?_ | refine RS.region ?_ | refine RS.regionQ ?_ (by kernel_rfl) (by kernel_rfl) | refine RS.skip ?_ | refine RS.inBlock ?_ | refine RS.block ?_ | refine RS.exit ?_)); skip
  refine callP ?_ (hc := fun w _ => known7_c w)
  refine not_ ?_; refine LS.done ?_
  (repeat (first | refine RS.seq ?_ | refine RS.region ?_ | refine RS.regionQ ?_ (by kernel_rfl) (by kernel_rfl) | refine RS.skip ?_ | refine RS.inBlock ?_ | refine RS.block ?_ | refine RS.exit ?_)); refine RS.condF ?_
  (repeat (first | refine RS.seq ?_ | refine RS.region ?_ | refine RS.regionQ ?_ (by kernel_rfl) (by kernel_rfl) | refine RS.skip ?_ | refine RS.inBlock ?_ | refine RS.block ?_ | refine RS.exit ?_)); skip
  refine newL (fun bl => ?_)
  refine asP ?_; refine LS.done ?_
  (repeat (first | refine RS.seq ?_ | refine RS.region ?_ | refine RS.regionQ ?_ (by kernel_rfl) (by kernel_rfl) | refine RS.skip ?_ | refine RS.inBlock ?_ | refine RS.block ?_ | refine RS.exit ?_)); refine mvP ?_; refine bin_eql_P ?_; refine LS.done ?_
  (repeat (first | refine RS.seq ?_ | refine RS.region ?_ | refine RS.regionQ ?_ (by kernel_rfl) (by kernel_rfl) | refine RS.skip ?_ | refine RS.inBlock ?_ | refine RS.block ?_ | refine RS.exit ?_)); refine RS.condF ?_
  (repeat (first | refine RS.seq ?_ | refine RS.region ?_ | refine RS.regionQ ?_ (by kernel_rfl) (by kernel_rfl) | refine RS.skip ?_ | refine RS.inBlock ?_ | refine RS.block ?_ | refine RS.exit ?_)); refine mvI ?_; refine mvI ?_
  refine callO (X := Value × Value) (fun x => .agg (List.toArray (nodeC nd x.1 x.2))) (fun x => [rowD 0 9 x.1 nd.marks]) (fun x τ => RepL τ x.2 nd.taints) (fun x τ1 σ1 hq1 hN1 hle1 hτ1 => ?_) (fun w _ => by rw [hnd]; exact (lnodeO_c name n hn w).mono fun _ _ ⟨x, τ, he, h, hq⟩ => ⟨x, τ, he, h, hq⟩)
  obtain ⟨vm, vt⟩ := x
  simp only at hq1 ⊢
  refine LS.to (K' := rowD 0 9 vm nd.marks :: [ledHP bl ⟨[], []⟩]) ?_ ⟨fun h => h⟩
  refine LS.formD (l := nd.marks) vm (fun am cm em _ => ?_); subst em
  obtain ⟨at_, ct, rfl⟩ := hq1.form
  refine mvI ?_; refine mvI ?_
  refine callT (fun v τ => RepA τ v nd) (fun v τ2 σ2 hq2 hN2 hle2 hτ2 => ?_) (fun w' hw => by rw [hnd]; exact lnode_c _ _ hn w')
  obtain ⟨cs, rfl, hrp⟩ := hq2
  have hry := Rep.mono hrp hτ2
  obtain ⟨v1, v2, rfl, _, _, _, hv1, hv2⟩ := hrp
  obtain ⟨a1, c1, rfl⟩ := hv1.form
  obtain ⟨a2, c2, rfl⟩ := hv2.form
  refine alloc_ (fun b8 => ?_); refine alloc_ (fun b9 => ?_); refine st (.agg _) _ ?_; refine st (.agg _) _ ?_; refine LS.done ?_
  (repeat (first | refine RS.seq ?_ | refine RS.region ?_ | refine RS.regionQ ?_ (by kernel_rfl) (by kernel_rfl) | refine RS.skip ?_ | refine RS.inBlock ?_ | refine RS.block ?_ | refine RS.exit ?_)); refine mvP ?_; refine ldA [_, _, _, _, _, _] ?_
  refine putL' nd 0 ⟨[(nd.name, nd)], []⟩ am at_ cm ct (LedInv.empty 0) (by omega) p1 p2 (argNode (by omega) (by show I64 nd.cpu; omega) (by show I64 nd.mem; omega) (by omega) (hq1.mono (PH.le_trans hτ1 hle2)) inferInstance) (fun σ3 hle3 => ?_)
  refine neI ?_; refine LS.done ?_
  (repeat (first | refine RS.seq ?_ | refine RS.region ?_ | refine RS.regionQ ?_ (by kernel_rfl) (by kernel_rfl) | refine RS.skip ?_ | refine RS.inBlock ?_ | refine RS.block ?_ | refine RS.exit ?_)); refine RS.condF ?_
  (repeat (first | refine RS.seq ?_ | refine RS.region ?_ | refine RS.regionQ ?_ (by kernel_rfl) (by kernel_rfl) | refine RS.skip ?_ | refine RS.inBlock ?_ | refine RS.block ?_ | refine RS.exit ?_)); refine asI ?_; refine LS.done ?_
  (repeat (first | refine RS.seq ?_ | refine RS.region ?_ | refine RS.regionQ ?_ (by kernel_rfl) (by kernel_rfl) | refine RS.skip ?_ | refine RS.inBlock ?_ | refine RS.block ?_ | refine RS.exit ?_))
  refine RS.loopF (X := Nat × List ByteArray) 10 125 (fun x => x.1 ≤ nd.marks.length ∧ x.2.length = nd.marks.length) (fun x => [(10, .int .i64 x.1)]) (fun _ => σ3) (fun x => [blk b9 (.cells (List.toArray (nodeC nd (.slice a1 nd.marks.length c1) (.slice a2 nd.taints.length c2))) 33 (0, 0)), blk b8 (.cells (List.toArray (nodeC nd (.slice am nd.marks.length cm) (.slice at_ nd.taints.length ct))) 33 (0, 0)), rowD 0 9 (.slice am nd.marks.length cm) x.2, ledHP bl ⟨[(nd.name, nd)], []⟩]) (fun x => nd.marks.length - x.1) (0, nd.marks) ⟨Nat.zero_le _, rfl⟩ ⟨rfl, trivial⟩ rfl ⟨fun h => h⟩ ?_
  rintro ⟨i, l⟩ gg ⟨(hi10 : i ≤ nd.marks.length), (hll : l.length = nd.marks.length)⟩ ih
  dsimp only
  (repeat (first | refine RS.seq ?_ | refine RS.region ?_ | refine RS.regionQ ?_ (by kernel_rfl) (by kernel_rfl) | refine RS.skip ?_ | refine RS.inBlock ?_ | refine RS.block ?_ | refine RS.exit ?_)); refine mvI ?_; refine fld ?_; refine ld1 (v := .slice _ _ _) ?_; refine lenL ?_; refine ltI ?_; refine LS.done ?_
  (repeat (first | refine RS.seq ?_ | refine RS.region ?_ | refine RS.regionQ ?_ (by kernel_rfl) (by kernel_rfl) | refine RS.skip ?_ | refine RS.inBlock ?_ | refine RS.block ?_ | refine RS.exit ?_))
  by_cases hlt : i < nd.marks.length
  · refine RS.condT ?_ (h := by simp; omega)
    refine RS.openRowD (l := l) (.slice am nd.marks.length cm) (fun bM c0 cap eR hcR hcM hlR htR => ?_)
    injection eR with eR1 _ eR2
    subst eR1; subst eR2
    have hlR : cm * 1 ≤ c0.length := hlR
    rw [hll] at hcR htR
    (repeat (first | refine RS.seq ?_ | refine RS.region ?_ | refine RS.regionQ ?_ (by kernel_rfl) (by kernel_rfl) | refine RS.skip ?_ | refine RS.inBlock ?_ | refine RS.block ?_ | refine RS.exit ?_)); refine fld ?_; refine ld1 (v := .slice _ _ _) ?_; refine mvI ?_; refine idx (i := i) ?_; refine st (.string ⟨#[113]⟩) (setAt c0 (0 + i * 1) [.string ⟨#[113]⟩]) ?_ (hr := Nat.ble_eq_true_of_le (by omega)); refine LS.done ?_
    refine RS.closeRowD 0 (l.set i ⟨#[113]⟩) (b := bM) (c0 := setAt c0 (0 + i * 1) [.string ⟨#[113]⟩]) (m := nd.marks.length) (s := 1) hcR hcM (by rw [setAt_len]; exact hlR) (strSet hll htR (by omega) i hlt (by decide)) ?_ (hml := by rw [List.length_set, hll])
    (repeat (first | refine RS.seq ?_ | refine RS.region ?_ | refine RS.regionQ ?_ (by kernel_rfl) (by kernel_rfl) | refine RS.skip ?_ | refine RS.inBlock ?_ | refine RS.block ?_ | refine RS.exit ?_)); refine mvI ?_; (first | refine addN ?_ | refine addI ?_); refine asI ?_; refine LS.done ?_; (repeat (first | refine RS.seq ?_ | refine RS.region ?_ | refine RS.regionQ ?_ (by kernel_rfl) (by kernel_rfl) | refine RS.skip ?_ | refine RS.inBlock ?_ | refine RS.block ?_ | refine RS.exit ?_))
    exact ih (i + 1, l.set i ⟨#[113]⟩) ⟨hlt, by (try dsimp only); rw [List.length_set, hll]⟩ (by (try dsimp only); omega) ⟨rfl, trivial⟩ (by repeat (first | with_reducible exact Out.refl _ _ _ | exact Out.hv | refine Out.upd ?_ | refine Out.hvIn ?_)) ⟨fun h => SepIn.cons_sub (fun _ h => h.swap) h.swap⟩ rfl
  refine RS.condF ?_ (h := by simp; omega)
  clear ih
  (repeat (first | refine RS.seq ?_ | refine RS.region ?_ | refine RS.regionQ ?_ (by kernel_rfl) (by kernel_rfl) | refine RS.skip ?_ | refine RS.inBlock ?_ | refine RS.block ?_ | refine RS.exit ?_)); refine fld ?_; refine ld1 (v := .string _) ?_; refine bld (vals := [(0, .string _), (1, .string _)]) [_, _, _, _, _] ?_; refine bldS [.agg (List.toArray (placeC (placeP nmP nd.name 0 0)))] (placeC (placeP nmP nd.name 0 0)) (fun b46 => ?_); refine asL ?_; refine LS.done ?_
  (repeat (first | refine RS.seq ?_ | refine RS.region ?_ | refine RS.regionQ ?_ (by kernel_rfl) (by kernel_rfl) | refine RS.skip ?_ | refine RS.inBlock ?_ | refine RS.block ?_ | refine RS.exit ?_)); refine mvP ?_; refine mvL ?_
  refine takeL' 3 _ [placeP nmP nd.name 0 0] 0 (ownT nd) hi1 (by omega) t1 t2 (by simp) (argP (by decide) (by omega) (by omega) (by omega) inferInstance) (fun σ4 hle4 => ?_)
  refine neI ?_; refine LS.done ?_
  (repeat (first | refine RS.seq ?_ | refine RS.region ?_ | refine RS.regionQ ?_ (by kernel_rfl) (by kernel_rfl) | refine RS.skip ?_ | refine RS.inBlock ?_ | refine RS.block ?_ | refine RS.exit ?_)); refine RS.condF ?_
  (repeat (first | refine RS.seq ?_ | refine RS.region ?_ | refine RS.regionQ ?_ (by kernel_rfl) (by kernel_rfl) | refine RS.skip ?_ | refine RS.inBlock ?_ | refine RS.block ?_ | refine RS.exit ?_)); refine mvL ?_; refine idx (i := 0) ?_; refine fld ?_; refine st (.string _) _ ?_; refine LS.done ?_
  (repeat (first | refine RS.seq ?_ | refine RS.region ?_ | refine RS.regionQ ?_ (by kernel_rfl) (by kernel_rfl) | refine RS.skip ?_ | refine RS.inBlock ?_ | refine RS.block ?_ | refine RS.exit ?_)); refine mvP ?_
  refine placesOL 3 hi2 (fun v12 σ5 hle5 => ?_)
  refine LS.formD (l := tk (ownT nd).taken 3) v12 (fun a12 c12 e12 _ => ?_); subst e12
  refine asL ?_; refine LS.done ?_
  (repeat (first | refine RS.seq ?_ | refine RS.region ?_ | refine RS.regionQ ?_ (by kernel_rfl) (by kernel_rfl) | refine RS.skip ?_ | refine RS.inBlock ?_ | refine RS.block ?_ | refine RS.exit ?_)); refine mvP ?_
  refine nodesOL hi2 rfl (fun x σ6 hle6 hr1 hr2 => ?_)
  obtain ⟨v13, vm2, vt2⟩ := x
  simp only at hr1 hr2 ⊢
  refine LS.formD (l := nd.marks) vm2 (fun am2 cm2 em2 _ => ?_); subst em2
  obtain ⟨at2, ct2, rfl⟩ := hr2.form
  obtain ⟨a13, c13, rfl⟩ := hr1.form
  obtain ⟨b13, o13, rfl, hrow13⟩ := hr1.addr (by simp)
  obtain ⟨vs13, hc13, hvs13, _⟩ := hrow13 0 (by simp)
  have hc13 : ∀ j, j < 6 → σ6.cell b13 (o13 + 0 * 6 + j) = (nodeC nd (.slice am2 nd.marks.length cm2) (.slice at2 nd.taints.length ct2))[j]? := fun j hj => (hc13 j hj).trans (by rw [hvs13]; rfl)
  refine asL ?_; refine LS.done ?_
  refine RS.openRowD (l := tk (ownT nd).taken 3) (.slice a12 (tk (ownT nd).taken 3).length c12) (fun bQ c0 capQ eQ hcQ hcMQ hlQ htQ => ?_) (hn := by show 0 < 1; omega)
  injection eQ with eQ1 _ eQ2
  subst eQ1; subst eQ2
  have hlQ : c12 * 5 ≤ c0.length := hlQ
  have hcQ : 1 ≤ c12 := hcQ
  have hq0 : nth c0 (0 + 0 * 5 + 0) = some (.string nmP) := by
    obtain ⟨c, ⟨rfl, _⟩, h2⟩ := htQ.at_ 0 (by show 0 < 1; omega)
    have := h2 0 (by show 0 < 5; omega)
    rw [List.getElem?_take, if_pos (by show 0 < 5; omega)] at this
    rw [nth_eq]; exact this
  (repeat (first | refine RS.seq ?_ | refine RS.region ?_ | refine RS.regionQ ?_ (by kernel_rfl) (by kernel_rfl) | refine RS.skip ?_ | refine RS.inBlock ?_ | refine RS.block ?_ | refine RS.exit ?_)); refine mvL ?_; refine lenL ?_; refine neI ?_; rw [decide_eq_true (show (((tk (ownT nd).taken 3).length : Nat) : Int) = 1 from rfl)]; refine mvB ?_; refine LS.on ?_; refine mvL ?_; refine LS.on ?_; refine idx (i := 0) ?_ (hi := by show 0 < 1; omega); refine LS.on ?_; refine fld ?_; refine LS.on ?_; refine ld1 (v := .string nmP) ?_ (hv := hq0); refine LS.on ?_; refine neS ?_; rw [decide_eq_true (show nmP = ⟨#[112]⟩ from rfl)]; refine pk (v := .bool _) ?_; refine mvB ?_; refine LS.on ?_; refine mvL ?_; refine LS.on ?_; refine lenL ?_; refine LS.on ?_; refine neI ?_; refine pk (v := .bool _) ?_; refine mvB ?_; refine LS.on ?_; refine mvL ?_; refine LS.on ?_; refine idx (i := 0) ?_ (hi := by show 0 < 1; omega); refine LS.on ?_; refine ldSA (vs := nodeC nd (.slice am2 nd.marks.length cm2) (.slice at2 nd.taints.length ct2)) rfl hc13 ?_; refine LS.on ?_; refine ldA [_, _, _, _, _, _] ?_; refine LS.on ?_
  refine callP ?_ (hc := fun w' hw => nsame3_c nd _ _ _ _ _ _ _ _ w' ⟨_, _, rfl, by omega, by show I64 nd.cpu; omega, by show I64 nd.mem; omega, hw.rowRepD (v := .slice am2 nd.marks.length cm2) (by omega) inferInstance, hr2.mono hw.imm⟩ (Rep.mono hry (PH.le_trans hle3 (PH.le_trans hle4 (PH.le_trans hle5 (PH.le_trans hle6 hw.imm))))))
  refine LS.on ?_; refine not_ ?_; refine pk (v := .bool _) ?_; refine LS.done ?_
  (repeat (first | refine RS.seq ?_ | refine RS.region ?_ | refine RS.regionQ ?_ (by kernel_rfl) (by kernel_rfl) | refine RS.skip ?_ | refine RS.inBlock ?_ | refine RS.block ?_ | refine RS.exit ?_)); refine RS.condF ?_
  (repeat (first | refine RS.seq ?_ | refine RS.region ?_ | refine RS.regionQ ?_ (by kernel_rfl) (by kernel_rfl) | refine RS.skip ?_ | refine RS.inBlock ?_ | refine RS.block ?_ | refine RS.exit ?_)); refine mvL ?_; refine idx (i := 0) ?_ (hi := by show 0 < 1; omega); refine fld ?_; refine st (.string ⟨#[121]⟩) (setAt c0 (0 + 0 * 5 + 0) [.string ⟨#[121]⟩]) ?_ (hr := Nat.ble_eq_true_of_le (by omega)); refine LS.done ?_
  (repeat (first | refine RS.seq ?_ | refine RS.region ?_ | refine RS.regionQ ?_ (by kernel_rfl) (by kernel_rfl) | refine RS.skip ?_ | refine RS.inBlock ?_ | refine RS.block ?_ | refine RS.exit ?_)); refine asI ?_; refine LS.done ?_
  (repeat (first | refine RS.seq ?_ | refine RS.region ?_ | refine RS.regionQ ?_ (by kernel_rfl) (by kernel_rfl) | refine RS.skip ?_ | refine RS.inBlock ?_ | refine RS.block ?_ | refine RS.exit ?_))
  refine RS.loopF (X := Nat × List ByteArray) 14 125 (fun x => x.1 ≤ nd.marks.length ∧ x.2.length = nd.marks.length) (fun x => [(14, .int .i64 x.1)]) (fun _ => σ6) (fun x => [rowD 0 9 (.slice am2 nd.marks.length cm2) x.2, blk b9 (.cells (List.toArray (nodeC nd (.slice a1 nd.marks.length c1) (.slice a2 nd.taints.length c2))) 33 (0, 0)), ledHP bl (ownT nd)]) (fun x => nd.marks.length - x.1) (0, nd.marks) ⟨Nat.zero_le _, rfl⟩ ⟨rfl, trivial⟩ rfl inferInstance ?_
  rintro ⟨i, l⟩ gg ⟨(hi10 : i ≤ nd.marks.length), (hll : l.length = nd.marks.length)⟩ ih
  dsimp only
  (repeat (first | refine RS.seq ?_ | refine RS.region ?_ | refine RS.regionQ ?_ (by kernel_rfl) (by kernel_rfl) | refine RS.skip ?_ | refine RS.inBlock ?_ | refine RS.block ?_ | refine RS.exit ?_)); refine mvI ?_; refine mvL ?_; refine idx (i := 0) ?_ (hi := by show 0 < 1; omega); refine fld ?_; refine ldS (hc13 3 (by decide)) ?_; refine lenL ?_; refine ltI ?_; refine LS.done ?_
  (repeat (first | refine RS.seq ?_ | refine RS.region ?_ | refine RS.regionQ ?_ (by kernel_rfl) (by kernel_rfl) | refine RS.skip ?_ | refine RS.inBlock ?_ | refine RS.block ?_ | refine RS.exit ?_))
  by_cases hlt : i < nd.marks.length
  · refine RS.condT ?_ (h := by simp; omega)
    refine RS.openRowD (l := l) (.slice am2 nd.marks.length cm2) (fun bM c9 cap eR hcR hcM hlR htR => ?_)
    injection eR with eR1 _ eR2
    subst eR1; subst eR2
    have hlR : cm2 * 1 ≤ c9.length := hlR
    rw [hll] at hcR htR
    (repeat (first | refine RS.seq ?_ | refine RS.region ?_ | refine RS.regionQ ?_ (by kernel_rfl) (by kernel_rfl) | refine RS.skip ?_ | refine RS.inBlock ?_ | refine RS.block ?_ | refine RS.exit ?_)); refine mvL ?_; refine idx (i := 0) ?_ (hi := by show 0 < 1; omega); refine fld ?_; refine ldS (hc13 3 (by decide)) ?_; refine mvI ?_; refine idx (i := i) ?_; refine st (.string ⟨#[114]⟩) (setAt c9 (0 + i * 1) [.string ⟨#[114]⟩]) ?_ (hr := Nat.ble_eq_true_of_le (by omega)); refine LS.done ?_
    refine RS.closeRowD 0 (l.set i ⟨#[114]⟩) (b := bM) (c0 := setAt c9 (0 + i * 1) [.string ⟨#[114]⟩]) (m := nd.marks.length) (s := 1) hcR hcM (by rw [setAt_len]; exact hlR) (strSet hll htR (by omega) i hlt (by decide)) ?_ (hml := by rw [List.length_set, hll])
    (repeat (first | refine RS.seq ?_ | refine RS.region ?_ | refine RS.regionQ ?_ (by kernel_rfl) (by kernel_rfl) | refine RS.skip ?_ | refine RS.inBlock ?_ | refine RS.block ?_ | refine RS.exit ?_)); refine mvI ?_; (first | refine addN ?_ | refine addI ?_); refine asI ?_; refine LS.done ?_; (repeat (first | refine RS.seq ?_ | refine RS.region ?_ | refine RS.regionQ ?_ (by kernel_rfl) (by kernel_rfl) | refine RS.skip ?_ | refine RS.inBlock ?_ | refine RS.block ?_ | refine RS.exit ?_))
    exact ih (i + 1, l.set i ⟨#[114]⟩) ⟨hlt, by (try dsimp only); rw [List.length_set, hll]⟩ (by (try dsimp only); omega) ⟨rfl, trivial⟩ (by repeat (first | with_reducible exact Out.refl _ _ _ | exact Out.hv | refine Out.upd ?_ | refine Out.hvIn ?_)) ⟨fun h => h⟩ rfl
  refine RS.condF ?_ (h := by simp; omega)
  clear ih
  have hry6 := Rep.mono hry (PH.le_trans hle3 (PH.le_trans hle4 (PH.le_trans hle5 hle6)))
  (repeat (first | refine RS.seq ?_ | refine RS.region ?_ | refine RS.regionQ ?_ (by kernel_rfl) (by kernel_rfl) | refine RS.skip ?_ | refine RS.inBlock ?_ | refine RS.block ?_ | refine RS.exit ?_)); refine mvP ?_
  refine nodesL hi2 (fun v15 σ7 hle7 hr15 => ?_)
  rw [show nodesOf (ownT nd) = [nd] by simp [nodesOf, ownT, sortK_one]] at hr15
  obtain ⟨a15, c15, rfl⟩ := hr15.form
  refine mvP ?_
  refine placesL 3 hi2 (fun v16 σ8 hle8 hr16 => ?_)
  rw [show tk (ownT nd).taken 3 = [placeP nmP nd.name 0 0] from rfl] at hr16
  obtain ⟨a16, c16, rfl⟩ := hr16.form
  refine asL ?_; refine asL ?_; refine LS.done ?_
  obtain ⟨b15, o15, rfl, hrow15⟩ := hr15.addr (by simp)
  obtain ⟨vs15, hc15, hvs15⟩ := hrow15 0 (by simp)
  obtain ⟨b16, o16, rfl, hrow16⟩ := hr16.addr (by simp)
  obtain ⟨hc16, _⟩ := RowAt.place hrow16 0 (by simp)
  have hc16 : σ8.cell b16 (o16 + 0 * 5 + 0) = some (.string nmP) := hc16 0 (by decide)
  have hvs15 : Rep.rep σ7 vs15 nd := hvs15
  have hvs0 := hvs15
  obtain ⟨v5, v6, rfl, _, _, _, hv5, hv6⟩ := hvs15
  obtain ⟨a5, c5, rfl⟩ := hv5.form
  obtain ⟨a6, c6, rfl⟩ := hv6.form
  have hc15 : ∀ j, j < 6 → σ7.cell b15 (o15 + 0 * 6 + j) = (nodeC nd (.slice a5 nd.marks.length c5) (.slice a6 nd.taints.length c6))[j]? := hc15
  (repeat (first | refine RS.seq ?_ | refine RS.region ?_ | refine RS.regionQ ?_ (by kernel_rfl) (by kernel_rfl) | refine RS.skip ?_ | refine RS.inBlock ?_ | refine RS.block ?_ | refine RS.exit ?_)); refine mvL ?_; refine lenL ?_; refine eqI ?_; rw [decide_eq_true (show ((([placeP nmP nd.name 0 0] : List PlaceD).length : Nat) : Int) = 1 from rfl)]; refine mvB ?_; refine LS.on ?_; refine mvL ?_; refine LS.on ?_; refine idx (i := 0) ?_ (hi := by show 0 < 1; omega); refine LS.on ?_; refine fld ?_; refine LS.on ?_; refine ldS hc16 ?_; refine LS.on ?_; refine eqS ?_; rw [decide_eq_true (show nmP = ⟨#[112]⟩ from rfl)]; refine pk (v := .bool _) ?_; refine mvB ?_; refine LS.on ?_; refine mvL ?_; refine LS.on ?_; refine lenL ?_; refine LS.on ?_; refine eqI ?_; rw [decide_eq_true (show ((([nd] : List NodeD).length : Nat) : Int) = 1 from rfl)]; refine pk (v := .bool _) ?_; refine mvB ?_; refine LS.on ?_; refine mvL ?_; refine LS.on ?_; refine idx (i := 0) ?_ (hi := by show 0 < 1; omega); refine LS.on ?_; refine ldSA (vs := nodeC nd (.slice a5 nd.marks.length c5) (.slice a6 nd.taints.length c6)) rfl (PH.cells_mono hle8 rfl hc15) ?_; refine LS.on ?_; refine ldA [_, _, _, _, _, _] ?_; refine LS.on ?_
  refine callP ?_ (hc := fun w' hw => nsame3_c nd _ _ _ _ _ _ _ _ w' (Rep.mono hvs0 (PH.le_trans hle8 hw.imm)) (Rep.mono hry6 (PH.le_trans hle7 (PH.le_trans hle8 hw.imm))))
  refine pk (v := .bool _) ?_; refine asB ?_; refine LS.done ?_
  (repeat (first | refine RS.seq ?_ | refine RS.region ?_ | refine RS.regionQ ?_ (by kernel_rfl) (by kernel_rfl) | refine RS.skip ?_ | refine RS.inBlock ?_ | refine RS.block ?_ | refine RS.exit ?_)); refine RS.ret1 (v := .bool _) Try.func5 fun w hw => ?_
  exact ⟨rfl, hw.below⟩
end Go.Proofs.Ytbinkokafbpnoaa
