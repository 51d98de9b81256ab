/- The base of the walks: rules, contracts, plain laws, part 4. -/
import Derived.Test.YtaokfeonmgpjcaaGreatDoorS3
namespace Go.JW
section
variable {P : Program} {f : FuncId} {R : Ending → World → Prop} {k : List Item} {n : Nat} {fr : Nat → Value} {w0 : World} {M : Nat → Prop} {σ : PH}
variable {rest : List Oper} {d : Nat} {ty : TypeId} {pos : String} {aft : Array Edge} {x : Operand} {t : TypeId}
variable {H : HS} {O : List (Nat × Obj)} {Kf : Us → List HP} {Kb K0 : List HP} {E : List Nat} {tags : List Tag}
theorem D.boxU (s : Nat) (h : LD P f R k n w0 M σ Kb rest tags ⟨fr, (d, fun _ _ => True) :: H, O, fun us => ownHP (us d) (.cells (cellsL (us s)).toArray t (0, 0)) :: K0, d :: ((Stg.mk fr H O (fun _ => K0) E false).seen ⟨some d, .box t x, ty, pos, aft, none⟩ ++ E), false⟩)
    (hx : ∀ us, ev n (fill fr H us) x = us s := by intro _; rfl) (hsd : Nat.beq s d = false := by rfl) (hL : ∀ us : Us, Less (ownHP (us d) (.cells (cellsL (us s)).toArray t (0, 0)) :: K0) Kb := by intro _; infer_instance)
    (hE : ∀ us : Us, (fun us : Us => ownHP (us d) (.cells (cellsL (us s)).toArray t (0, 0)) :: K0) (resE (d :: ((Stg.mk fr H O (fun _ => K0) E false).seen ⟨some d, .box t x, ty, pos, aft, none⟩ ++ E)) us) = (fun us : Us => ownHP (us d) (.cells (cellsL (us s)).toArray t (0, 0)) :: K0) us := by intro _; rfl) :
    LD P f R k n w0 M σ Kb (⟨some d, .box t x, ty, pos, aft, none⟩ :: rest) (.eff :: tags) ⟨fr, H, O, fun _ => K0, E, false⟩ :=
  D.eff (fun _ _ => True) (fun us => ownHP (us d) (.cells (cellsL (us s)).toArray t (0, 0)) :: K0) _ (fun _ _ _ _ _ => trivial) hL h (fun us σ' w X hle hfs hw => by
    have hne : s ≠ d := fun e => by subst e; simp at hsd
    have hc : (us s).cells = (cellsL (us s)).toArray := by rw [← cells_toList]
    refine .inl ⟨.pointer (some ⟨w.heap.size, 0, none⟩), w.alloc (.cells (cellsL (us s)).toArray t (0, 0)), by simp [execOp, hx us, Instr.box, newVar, newRow, hc], σ', PH.le_refl _, ?_, trivial⟩
    have ha := hw.alloc (.cells (cellsL (us s)).toArray t (0, 0))
    rw [upd_eq, upd_ne hne]
    refine ha.weak fun F h => SepIn.swap ?_
    obtain ⟨F1, h1, h2, h3⟩ := h
    exact ⟨F1, ⟨_, rfl, h1.1, h1.2⟩, h2, h3⟩) hE
theorem D.mvG (sl : Nat) (Kf' : Us → List HP) (h : LD P f R k n w0 M σ Kb rest tags ⟨fr, (d, fun _ _ => True) :: H, O, Kf', d :: ((Stg.mk fr H O Kf E false).seen ⟨some d, .assign x, ty, pos, aft, none⟩ ++ E), false⟩)
    (hx : ∀ us, ev n (fill fr H us) x = us sl := by intro _; rfl) (hK : ∀ us, Kf us = Kf' (upd us d (us sl)) := by intro _; rfl) (hL : ∀ us, Less (Kf' us) Kb := by intro _; infer_instance)
    (hE : ∀ us, Kf' (resE (d :: ((Stg.mk fr H O Kf E false).seen ⟨some d, .assign x, ty, pos, aft, none⟩ ++ E)) us) = Kf' us := by intro _; rfl) :
    LD P f R k n w0 M σ Kb (⟨some d, .assign x, ty, pos, aft, none⟩ :: rest) (.eff :: tags) ⟨fr, H, O, Kf, E, false⟩ :=
  D.eff (fun _ _ => True) Kf' _ (fun _ _ _ _ _ => trivial) hL h (fun us σ' w X _ _ hw => .inl ⟨us sl, w, by simp [execOp, hx us], σ', PH.le_refl _, by rw [← hK]; exact hw, trivial⟩) hE
theorem D.callWU {g : FuncId} {xs : Array Operand} {ts : Array TypeId} (args : Us → List Value) (Q : Value → PH → Prop) (hQ : MonoT Q) (K1 : List HP) [i : Fun P g]
    (h : LD P f R k n w0 M σ Kb rest tags ⟨fr, (d, Q) :: H, O, fun _ => K1, d :: ((Stg.mk fr H O (fun _ => K0) E false).seen ⟨some d, .call ⟨.value (.func g), xs, ts⟩, ty, pos, aft, none⟩ ++ E), false⟩)
    (hc : ∀ us σ' w X, PH.le σ σ' → Facts H (readsTmp ⟨some d, .call ⟨.value (.func g), xs, ts⟩, ty, pos, aft, none⟩) us σ' → Sat w0 M σ' (X :: K0) w → Calls P g (args us).toArray w fun e w' => ∃ v σ'', PH.le σ' σ'' ∧ Q v σ'' ∧ e = .returned v ∧ Sat w0 M σ'' (X :: K1) w')
    (hx : ∀ us, xs.toList.map (ev n (fill fr H us)) = args us := by intro _; rfl) (hL : Less K1 Kb := by infer_instance) :
    LD P f R k n w0 M σ Kb (⟨some d, .call ⟨.value (.func g), xs, ts⟩, ty, pos, aft, none⟩ :: rest) (.eff :: tags) ⟨fr, H, O, fun _ => K0, E, false⟩ := by
  refine D.eff Q (fun _ => K1) _ hQ (fun _ => hL) h fun us σ' w X hle hfs hw => ?_
  exact .inr ⟨_, _, exec_call i.eq (hx us) w, (hc us σ' w X hle hfs hw).mono fun _ _ ⟨v, σ'', h1, h2, h3, h4⟩ => ⟨_, h3, σ'', h1, h4, h2⟩⟩
end
end Go.JW
namespace Go.Proofs.YtaokfeonmgpjcaaGreatDoor
open Go.JW Go.RowKit
section
variable {n : Int} {c : CoD} {g : GangD}
theorem submit_bad (h : gangErr g n ≠ 0) : submitP n c g = (c, [], gangErr g n) := if_pos h
theorem submit_twice (h : ¬ gangErr g n ≠ 0) (h2 : (findP c.gs g.id).isSome = true) : submitP n c g = (c, [], 4) := by unfold submitP; rw [if_neg h, if_pos h2]
def madeG (g : GangD) : GgD := ⟨g.id, 1, 0, g.pods, shardsOf g.pods, shardsOf g.pods⟩
theorem submit_yes (h : ¬ gangErr g n ≠ 0) (h2 : ¬ (findP c.gs g.id).isSome = true) : submitP n c g = (⟨putP c.gs (madeG g), c.rs ++ [recP 7 g.id (shardsOf g.pods)]⟩, allP (madeG g), 0) := by unfold submitP; rw [if_neg h, if_neg h2]; rfl
end
theorem recQ_rep {σ : PH} {k id : Int} {l : List Int} {v : Value} (hid : I64 id) (h : RepL σ v l) (hk : I64 k := by exact ⟨by decide, by decide⟩) : Rep.rep σ (recC (recP k id l) v nilV nilV nilV) (recP k id l) :=
  have z : I64 0 := ⟨by decide, by decide⟩
  ⟨_, _, _, _, rfl, hk, hid, h, RepL.nil _ _ _, Nat.zero_le _, z, z, RepL.nil _ _ _, RepL.nil _ _ _⟩
section
variable {w0 : World} {M : Nat → Prop} {σ : PH} {K : List HP} {bc tb : Nat} {sh : Int} {c : CoD}
abbrev gxB (b : Nat) (id : Int) (v : Value) : HP := blk b (.cells (List.toArray [.int .i64 id, v]) 28 (0, 0))
theorem submit_s (g : GangD) (vp : Value) (hid : I64 g.id) (hvp : RepL σ vp g.pods) (hsh : sh ≤ 4) (hc : CoOk c) (ho : Oks c.rs) (hl : c.rs.length ≤ 900) (hL : LibAt σ) (w : World) (hw : Sat w0 M σ (coHP bc sh tb c.gs :: tapHP tb c.rs c.rs.length :: K) w) :
    Calls Tryz.prog 18 #[.pointer (some ⟨bc, 0, none⟩), .agg (List.toArray [.int .i64 g.id, vp])] w fun e w' => ∃ v σ', PH.le σ σ' ∧ AnsM (submitP sh c g).2.1 (submitP sh c g).2.2 v σ' ∧ e = .returned v ∧ Sat w0 M σ' (coHP bc sh tb (submitP sh c g).1.gs :: tapHP tb (submitP sh c g).1.rs (submitP sh c g).1.rs.length :: K) w' := by
  obtain ⟨ap, cp, rfl⟩ := hvp.form
  have hgr : ∀ τ, PH.le σ τ → Rep.rep τ [.int .i64 g.id, .slice ap g.pods.length cp] g := fun τ ht => ⟨_, rfl, hid, hvp.mono ht⟩
  obtain ⟨gs, rs⟩ := c
  have hi := hc.ids
  have hok := hc.gs
  dsimp only at hi hok ho hl hw
  refine RS.enterK Tryz.func18 Tryz.ntmps18 rfl rfl hw ?_
  refine zN ?_; refine box_ (v := .agg _) (cs := [_, _]) (fun b3 => ?_); refine asL ?_; refine asI ?_; refine LS.done ?_
  refine zD ?_
  refine RS.ar (tapHP tb rs rs.length :: gxB b3 g.id (.slice ap g.pods.length cp) :: coHP bc sh tb gs :: K) ?_
  refine RS.openCoL [tapHP tb rs rs.length, gxB b3 g.id (.slice ap g.pods.length cp)] (fun mb es ck l xs hxs hp hm => ?_)
  subst hxs
  obtain ⟨L0, L1⟩ := look_g hm hp hi g.id
  refine RS.to (K' := coB bc sh tb mb :: blk mb (.map es ck) :: tapHP tb rs rs.length :: gxB b3 g.id (.slice ap g.pods.length cp) :: (gas xs ++ K)) ?_ ⟨fun h => h⟩
  refine zD ?_; refine RS.draw [.ex, .free, .free, .free, .ex, .ex, .free] [coB bc sh tb mb, gxB b3 g.id (.slice ap g.pods.length cp)] ?_ (by kernel_rfl) (by kernel_rfl) (by infer_instance); refine D.ldA [.int .i64 g.id, .slice ap g.pods.length cp] ?_; refine D.mvP ?_; refine D.nilck ?_; refine D.fld ?_; refine D.ld1 (v := .int _ _) ?_
  refine D.callP ?_ (hc := fun _ σ' w hle _ hw => gang_c _ g sh w (hgr _ (PH.le_trans hle hw.imm)))
  refine D.asI ?_; refine D.done (fun us σ1 hle1 hfs => ?_)
  refine RS.ow ?_
  have k1 := hle1
  refine zN ?_; refine mvI ?_; refine neI ?_; refine LS.done ?_
  refine zN ?_
  by_cases hge : gangErr g sh ≠ 0
  · refine RS.condT ?_ (h := by simpa using hge)
    refine zN ?_; refine mvI ?_; refine asL ?_; refine asI ?_; refine LS.done ?_
    refine zN ?_; refine RS.ret2 (v := .slice _ _ _) (v' := .int _ _) Tryz.func18 fun w hw => ?_
    rw [submit_bad hge]
    exact ⟨_, _, k1, ⟨_, _, rfl, RepL.nil _ _ _⟩, rfl, (closeCoL (K := K) [tapHP tb rs rs.length, gxB b3 g.id (.slice ap g.pods.length cp)] rfl hp (hm.mono k1) hw).weak fun _ h => SepIn.cons_sub (fun _ h => SepIn.cons_sub (fun _ h => h.tail) h) h⟩
  refine RS.condF ?_ (h := by simpa using hge)
  have hgo := GgOk.of (g := g) (Decidable.not_not.1 hge) hsh
  by_cases hsome : (findP (fsts xs) g.id).isSome = true
  · obtain ⟨g1, hf⟩ := Option.isSome_iff_exists.1 hsome
    obtain ⟨x1, b, x2, rfl, e2, e3⟩ := L1 g1 hf
    refine zD ?_; refine RS.draw [.free, .free, .free, .ex, .free, .ex, .ex, .free] [coB bc sh tb mb, blk mb (.map es ck), gxB b3 g.id (.slice ap g.pods.length cp)] ?_ (by kernel_rfl) (by kernel_rfl) (by infer_instance); refine D.mvP ?_; refine D.nilck ?_; refine D.fld ?_; refine D.ld1 (v := .map _) ?_; refine D.fld ?_; refine D.ld1 (v := .int _ _) ?_; refine D.lk (bm := mb) g.id hm ?_; rw [e3]; refine D.bin_neq_P ?_; refine D.done (fun us σ1 hle1 hfs => ?_)
    refine RS.ow ?_
    have k2 := PH.le_trans k1 hle1
    refine zN ?_; refine RS.condT ?_
    refine zN ?_; refine asL ?_; refine asI ?_; refine LS.done ?_
    refine zN ?_; refine RS.ret2 (v := .slice _ _ _) (v' := .int _ _) Tryz.func18 fun w hw => ?_
    rw [submit_twice hge hsome]
    exact ⟨_, _, k2, ⟨_, _, rfl, RepL.nil _ _ _⟩, rfl, (closeCoL (K := K) [tapHP tb rs rs.length, gxB b3 g.id (.slice ap g.pods.length cp)] rfl hp (hm.mono k2) hw).weak fun _ h => SepIn.cons_sub (fun _ h => SepIn.cons_sub (fun _ h => h.tail) h) h⟩
  have hf : findP (fsts xs) g.id = none := by cases h : findP (fsts xs) g.id with
    | none => rfl
    | some y => rw [h] at hsome; simp at hsome
  refine zD ?_; refine RS.draw [.free, .free, .free, .ex, .free, .ex, .ex, .free] [coB bc sh tb mb, blk mb (.map es ck), gxB b3 g.id (.slice ap g.pods.length cp)] ?_ (by kernel_rfl) (by kernel_rfl) (by infer_instance); refine D.mvP ?_; refine D.nilck ?_; refine D.fld ?_; refine D.ld1 (v := .map _) ?_; refine D.fld ?_; refine D.ld1 (v := .int _ _) ?_; refine D.lk (bm := mb) g.id hm ?_; rw [L0 hf]; refine D.bin_neq_P ?_; refine D.done (fun us σ1 hle1 hfs => ?_)
  refine RS.ow ?_
  have k2 := PH.le_trans k1 hle1
  refine zN ?_; refine RS.condF ?_
  have hsl := shards_len g.pods
  have hpl := hgo.pods
  dsimp only at hpl
  obtain ⟨sh9, hsh9⟩ : ∃ l, l = shardsOf g.pods := ⟨_, rfl⟩
  refine RS.to (K' := coB bc sh tb mb :: blk mb (.map es ck) :: tapHP tb rs rs.length :: gxB b3 g.id (.slice ap g.pods.length cp) :: (gas xs ++ K)) ?_ ⟨fun h => h⟩
  refine zD ?_; refine RS.draw [.free, .ex, .free, .ex, .free, .ex, .ex, .ex, .eff, .eff] [gxB b3 g.id (.slice ap g.pods.length cp)] ?_ (by kernel_rfl) (by kernel_rfl) (by infer_instance); refine D.fld ?_; refine D.ld1 (v := .int _ _) ?_; refine D.fld ?_; refine D.ld1 (v := .int _ _) ?_; refine D.bld (vals := [(0, .int _ _)]) [_, _] ?_; refine D.ldA [.int .i64 g.id, .slice ap g.pods.length cp] ?_
  refine D.callN (fun v τ => RepL τ v sh9) ?_ (hc := fun _ σ' w hle _ hw => by rw [hsh9]; exact shards_c _ g w (hgr _ (PH.le_trans k2 (PH.le_trans hle hw.imm))) (by omega))
  refine D.bldU (fun v τ => ∃ a c, v = .agg (List.toArray [.int .i64 g.id, .int .i64 g.id, nilV, .slice a sh9.length c, .nilIface, .map none]) ∧ RepL τ (.slice a sh9.length c) sh9) (fun _ _ _ ⟨a, c, e, h⟩ hs => ⟨a, c, e, h.mono hs⟩) ?_ (fun us σ' hle hf => ?_)
  rotate_left
  · obtain ⟨⟨τ, h1, h2, _⟩, _⟩ := hf
    obtain ⟨a, c, e⟩ := h1.form
    have h3 := h1.mono h2
    rw [e] at h3
    refine ⟨_, ?_, a, c, rfl, h3⟩
    show fillL _ _ [(0, _), (1, _), (2, us 33)] = _
    rw [e]; rfl
  refine D.boxU 34 ?_
  refine D.mvG 35 (fun us => ownHP (us 7) (.cells (cellsL (us 34)).toArray 88 (0, 0)) :: coB bc sh tb mb :: blk mb (.map es ck) :: tapHP tb rs rs.length :: gxB b3 g.id (.slice ap g.pods.length cp) :: (gas xs ++ K)) ?_
  refine D.done (fun us σ1 hle3 hfs => ?_)
  obtain ⟨_, _, ⟨a34, c34, e34, hq34⟩, _⟩ := hfs
  have k3 := PH.le_trans k2 hle3
  rw [e34]
  refine RS.ow ?_
  refine RS.openOwn (fun b7 h7 => ?_); refine RS.as 7 (.pointer (some ⟨b7, 0, none⟩)) h7 ?_
  refine RS.to (K' := rwB b7 g.id g.id nilV (.slice a34 sh9.length c34) .nilIface (.map none) :: coB bc sh tb mb :: blk mb (.map es ck) :: tapHP tb rs rs.length :: gxB b3 g.id (.slice ap g.pods.length cp) :: (gas xs ++ K)) ?_ ⟨fun h => h⟩
  refine zN ?_; refine mvP ?_; refine nilck ?_; refine fld ?_; refine ld1 (v := .slice _ _ _) ?_; refine lenL ?_; refine mvI ?_; refine LS.done ?_
  refine zN ?_
  refine RS.nilD 0 PodD 35 ?_
  refine RS.loopF (X := Nat × Value × PH) 8 59 (fun x => x.1 ≤ sh9.length ∧ PH.le σ1 x.2.2) (fun x => [(39, .slice a34 sh9.length c34), (40, .int .i64 sh9.length), (41, .int .i64 x.1)]) (fun x => x.2.2) (fun x => rowD 0 35 x.2.1 ((sh9.take x.1).flatMap (sliceOf g.pods)) :: rwB b7 g.id g.id x.2.1 (.slice a34 sh9.length c34) .nilIface (.map none) :: coB bc sh tb mb :: blk mb (.map es ck) :: tapHP tb rs rs.length :: gxB b3 g.id (.slice ap g.pods.length cp) :: (gas xs ++ K)) (fun x => sh9.length - x.1) (0, nilV, σ1) ⟨Nat.zero_le _, PH.le_refl _⟩ ⟨rfl, rfl, rfl, trivial⟩ rfl ⟨fun h => h⟩ ?_
  rintro ⟨i, v, σ2⟩ fr ⟨hx, k4⟩ ih
  dsimp only at hx k4
  have hsz : ∀ j, ((sh9.take j).flatMap (sliceOf g.pods)).length ≤ j * 8 := fun j => by
    have h1 : ∀ qs : List Int, (qs.flatMap (sliceOf g.pods)).length ≤ qs.length * 8 := fun qs => by
      induction qs with
      | nil => simp
      | cons q qs ih =>
        rw [List.flatMap_cons, List.length_append, List.length_cons]
        have : (sliceOf g.pods q).length ≤ g.pods.length := List.length_filter_le _ _
        omega
    have := h1 (sh9.take j)
    rw [List.length_take] at this
    omega
  have hszi := hsz i
  have hs8 : sh9.length ≤ 8 := by rw [hsh9]; omega
  refine zN ?_; refine ltI ?_; refine LS.done ?_
  refine zN ?_
  refine RS.cond (fun c => ?_) (fun c => ?_)
  · have c := of_decide_eq_true c
    have hlt : i < sh9.length := by omega
    obtain ⟨b1, o1, rfl, hrow⟩ := hq34.addr (fun h => by simp [h] at hlt)
    obtain ⟨hcell, h64⟩ := (hrow.mono k4).int i hlt
    have hsu : (sh9.take i).flatMap (sliceOf g.pods) ++ sliceOf g.pods sh9[i] = (sh9.take (i + 1)).flatMap (sliceOf g.pods) := by rw [List.take_succ_eq_append_getElem hlt, List.flatMap_append]; simp
    obtain ⟨dd, hdd⟩ : ∃ dd, dd = sh9[i] := ⟨_, rfl⟩
    rw [← hdd] at hsu hcell h64
    have hs1 : (sliceOf g.pods dd).length ≤ g.pods.length := List.length_filter_le _ _
    refine zN ?_; refine idx (i := i) ?_; refine ldS hcell ?_; refine asI ?_; refine LS.done ?_
    refine zD ?_; refine RS.draw [.free, .free, .free, .free, .free, .ex, .ex, .free, .ex, .eff, .free, .free, .free, .st] [rwB b7 g.id g.id v (.slice (some ⟨b1, o1, none⟩) sh9.length c34) .nilIface (.map none), gxB b3 g.id (.slice ap g.pods.length cp)] ?_ (by kernel_rfl) (by kernel_rfl) (by infer_instance); refine D.mvP ?_; refine D.mvP ?_; refine D.nilck ?_; refine D.fld ?_; refine D.fld ?_; refine D.ld1 (v := v) ?_; refine D.ldA [.int .i64 g.id, .slice ap g.pods.length cp] ?_; refine D.mvI ?_
    refine D.callN (fun v τ => RepL τ v (sliceOf g.pods dd)) ?_ (hc := fun _ σ' w hle _ hw => slice_w _ g dd w (hgr _ (PH.le_trans k3 (PH.le_trans k4 (PH.le_trans hle hw.imm)))) (by omega) hgo.few)
    refine D.appD v (sliceOf g.pods dd) (vy := fun us => us 53) ?_ (fun us σ' _ ⟨⟨τ, g1, g2, _⟩, _⟩ => ⟨τ, g1, by rw [fromN_zero]; exact g2⟩) (hb := by dsimp only; omega) (hm := by dsimp only; omega)
    refine D.nilck ?_; refine D.fld ?_; refine D.fld ?_
    refine D.stU 54 (fun us => [.int .i64 g.id, .int .i64 g.id, us 54, .slice (some ⟨b1, o1, none⟩) sh9.length c34, .nilIface, .map none]) ?_
    refine D.done (fun us σ3 hle3 hfs => ?_)
    rw [hsu]
    refine RS.ow ?_
    refine zN ?_; (first | refine addN ?_ | refine addI ?_); refine mvI ?_; refine LS.done ?_; refine zN ?_
    exact ih (i + 1, us 54, σ3) ⟨by (try dsimp only); omega, PH.le_trans k4 hle3⟩ (by (try dsimp only); omega) ⟨rfl, rfl, rfl, trivial⟩ (by repeat (first | with_reducible exact Out.refl _ _ _ | exact Out.hv | refine Out.upd ?_ | refine Out.hvIn ?_)) ⟨fun h => h⟩ rfl
  · have c := of_decide_eq_false c
    obtain rfl : i = sh9.length := by omega
    refine RS.exit ?_
    refine RS.to (K' := rowD 0 35 v (podsW (madeG g)) :: rwB b7 g.id g.id v (.slice a34 sh9.length c34) .nilIface (.map none) :: coB bc sh tb mb :: blk mb (.map es ck) :: tapHP tb rs rs.length :: gxB b3 g.id (.slice ap g.pods.length cp) :: (gas xs ++ K)) ?_ ⟨fun h => by rw [List.take_length] at h; unfold podsW madeG; rw [← hsh9]; exact h⟩
    have hpw : (podsW (madeG g)).length ≤ 64 := (pods_len hgo).1
    refine RS.freeze0 (l := podsW (madeG g)) v (fun σ3 k5 hrv => ?_) (hl := by omega)
    obtain ⟨av, cv, rfl⟩ := hrv.form
    have k45 := PH.le_trans k4 k5
    have k6 := PH.le_trans k3 k45
    have hq3 := hq34.mono k45
    refine zD ?_; refine RS.draw [.free, .free, .ex, .free, .free, .free, .ex, .ex, .ex, .eff] [coB bc sh tb mb, gxB b3 g.id (.slice ap g.pods.length cp), rwB b7 g.id g.id (.slice av (podsW (madeG g)).length cv) (.slice a34 sh9.length c34) .nilIface (.map none)] ?_ (by kernel_rfl) (by kernel_rfl) (by infer_instance); refine D.mvP ?_; refine D.fld ?_; refine D.ld1 (v := .int _ _) ?_; refine D.mvP ?_; refine D.nilck ?_; refine D.fld ?_; refine D.ld1 (v := .slice _ _ _) ?_
    refine D.callN (fun v τ => RepL τ v sh9) ?_ (hc := fun _ σ' w hle _ hw => cloneI_c sh9 _ w (hq3.mono (PH.le_trans hle hw.imm)) (by omega))
    refine D.bldU (fun v τ => RepA τ v (recP 7 g.id sh9)) (fun _ _ _ h hs => h.mono hs) ?_ (fun us σ' hle hf => ?_)
    rotate_left
    · obtain ⟨⟨τ, h1, h2, _⟩, _⟩ := hf
      obtain ⟨a, c, e⟩ := h1.form
      have h3 := h1.mono h2
      rw [e] at h3
      refine ⟨recC (recP 7 g.id sh9) (.slice a sh9.length c) nilV nilV nilV, ?_, _, rfl, recQ_rep hid h3⟩
      show fillL _ _ [(0, _), (1, _), (2, us 66)] = _
      rw [e]; rfl
    refine D.callWU (fun us => [.pointer (some ⟨bc, 0, none⟩), us 67]) (fun v _ => v = .tuple #[]) (fun _ _ _ h _ => h) (rwB b7 g.id g.id (.slice av (podsW (madeG g)).length cv) (.slice a34 sh9.length c34) .nilIface (.map none) :: coB bc sh tb mb :: blk mb (.map es ck) :: tapHP tb (rs ++ [recP 7 g.id sh9]) (rs ++ [recP 7 g.id sh9]).length :: gxB b3 g.id (.slice ap g.pods.length cp) :: (gas xs ++ K)) ?_ (hc := fun us σ' w' X hle hf hw => by
      obtain ⟨⟨cs, e, hrep⟩, _⟩ := hf
      rw [e]
      exact (force_s (bc := bc) (tb := tb) (mb := mb) (sh := sh) (n := rs.length) (K := X :: rwB b7 g.id g.id (.slice av (podsW (madeG g)).length cv) (.slice a34 sh9.length c34) .nilIface (.map none) :: blk mb (.map es ck) :: gxB b3 g.id (.slice ap g.pods.length cp) :: (gas xs ++ K)) (recP 7 g.id sh9) cs (by rw [hsh9]; exact rec_ok7 hgo) ho (by omega) (hL.mono (PH.le_trans k6 hle)) hrep w' (hw.ar _)).mono fun _ _ ⟨v, σ'', h1, h2, h3, h4⟩ => ⟨v, σ'', h1, h2, h3, h4.ar _⟩)
    refine D.done (fun us σ4 k7 hfs => ?_)
    have k8 := PH.le_trans k6 k7
    refine RS.ow ?_
    refine zD ?_; refine RS.draw [.free, .free, .free, .ex, .free, .ex, .free, .st] [coB bc sh tb mb, gxB b3 g.id (.slice ap g.pods.length cp)] ?_ (by kernel_rfl) (by kernel_rfl) (by infer_instance); refine D.mvP ?_; refine D.nilck ?_; refine D.fld ?_; refine D.ld1 (v := .map _) ?_; refine D.fld ?_; refine D.ld1 (v := .int _ _) ?_; refine D.mvP ?_
    refine D.mupd g.id (fun _ => ptV b7) hm ?_
    refine D.done (fun us σ5 k9 hfs => ?_)
    have k10 := PH.le_trans k8 k9
    refine RS.ow ?_
    have hup := (hm.mono k10).upd g.id (x := (⟨b7⟩ : PtrD)) (cs := [ptV b7]) rfl
    have hn : (l.map (·.1)).Nodup := (hp.map _).nodup_iff.2 (by rw [prs_keys]; exact ids_nodup hi)
    rw [aset_none (by rw [asg_perm hp hn]; exact prs_none hf)] at hup
    refine zN ?_; refine mvP ?_; refine bld (vals := []) [_] ?_; refine mkC (agV 0) ?_
    refine LS.ar (rwB b7 g.id g.id (.slice av (podsW (madeG g)).length cv) (.slice a34 sh9.length c34) .nilIface (.map none) :: coB bc sh tb mb :: blk mb (.map (updM (KeyT.kind Int) es ck (KeyT.enc g.id) (ptV b7)).1 (updM (KeyT.kind Int) es ck (KeyT.enc g.id) (ptV b7)).2) :: tapHP tb (rs ++ [recP 7 g.id sh9]) (rs ++ [recP 7 g.id sh9]).length :: gxB b3 g.id (.slice ap g.pods.length cp) :: (gas xs ++ K)) ?_
    refine callQ (fun v τ => RepL τ v (allP (madeG g))) (gaHP b7 (madeG g) :: coB bc sh tb mb :: blk mb (.map (updM (KeyT.kind Int) es ck (KeyT.enc g.id) (ptV b7)).1 (updM (KeyT.kind Int) es ck (KeyT.enc g.id) (ptV b7)).2) :: tapHP tb (rs ++ [recP 7 g.id sh9]) (rs ++ [recP 7 g.id sh9]).length :: gxB b3 g.id (.slice ap g.pods.length cp) :: (gas xs ++ K)) (fun v79 σ6 k11 h79 => ?_) (hc := fun w' hw => to_r (g := madeG g) 1 g.id _ _ _ _ hid (hrv.mono (PH.le_trans k7 k9)) (by show RepL _ _ (shardsOf g.pods); rw [← hsh9]; exact hq3.mono (PH.le_trans k7 k9)) _ _ (stV1 rfl) ⟨hgo.rise, hgo.few2⟩ hgo w' hw)
    obtain ⟨a79, c79, rfl⟩ := h79.form
    refine asL ?_; refine asI ?_; refine LS.done ?_
    refine zN ?_; refine RS.ret2 (v := .slice _ _ _) (v' := .int _ _) Tryz.func18 fun w hw => ?_
    rw [submit_yes hge hsome]
    refine ⟨_, σ6, PH.le_trans k10 k11, ⟨_, _, rfl, h79⟩, rfl, ?_⟩
    obtain ⟨ys, hy1, hy2⟩ := put_x xs (madeG g) b7
    rw [hsh9] at hw
    refine (closeCoL (K := K) [tapHP tb (rs ++ [recP 7 g.id (shardsOf g.pods)]) (rs ++ [recP 7 g.id (shardsOf g.pods)]).length, gxB b3 g.id (.slice ap g.pods.length cp)] (mb := mb) (xs := ys) hy1 ?_ (hup.mono k11) (hw.weak fun _ h => ?_)).weak fun _ h => SepIn.cons_sub (fun _ h => SepIn.cons_sub (fun _ h => h.tail) h) h
    · refine (List.perm_append_comm.trans ((hp.cons _).trans ?_))
      exact (hy2.map fun x : GX => (x.1.id, (⟨x.2⟩ : PtrD))).symm
    · have hP : (gaHP b7 (madeG g) :: (gas xs ++ K)).Perm (gas ys ++ K) := ((hy2.map fun x : GX => gaHP x.2 x.1).symm).append_right K
      exact SepIn.perm ((List.perm_middle (l₁ := [coB bc sh tb mb, blk mb _, tapHP tb _ _, gxB b3 g.id _])).symm.trans (hP.append_left [coB bc sh tb mb, blk mb _, tapHP tb _ _, gxB b3 g.id _])) h
end
end Go.Proofs.YtaokfeonmgpjcaaGreatDoor
namespace Go.Proofs.YtaokfeonmgpjcaaGreatDoor
open Go.JW Go.RowKit
section
variable {w0 : World} {M : Nat → Prop} {σ : PH} {K : List HP} {b n : Nat}
theorem all0_s (w : World) (hw : Sat w0 M σ (tapHP b [] n :: K) w) :
    Calls Tryz.prog 76 #[.pointer (some ⟨b, 0, none⟩)] w fun e w' => ∃ v σ', PH.le σ σ' ∧ RepL σ' v ([] : List RecD) ∧ e = .returned v ∧ Sat w0 M σ' (tapHP b [] n :: K) w' := by
  obtain ⟨vt, hw⟩ := openTp hw
  refine RS.enterK Tryz.func76 Tryz.ntmps76 rfl rfl hw ?_
  refine zN ?_; refine asL ?_; refine LS.done ?_
  refine zN ?_; refine mvP ?_; refine nilck ?_; refine fld ?_; refine ld1 (v := .int _ _) ?_; refine mkD0 (α := RecD) 0 (fun v3 => ?_) (hb := by simp) (hm := by simp); refine as_ (v := v3) ?_; refine LS.done ?_
  refine zN ?_; refine mvP ?_
  refine callT (fun v τ => RepL τ v ([] : List ByteArray)) (fun v14 τ1 σ1 hq hN hle hτ => ?_) (fun w' hw => lines_c [] (fun _ h => absurd h (List.not_mem_nil)) (by simp) (fun _ h => absurd h (List.not_mem_nil)) vt [.int .i64 n] b w' (hw.get (b := b) (i := by infer_instance)) (hw.rowRepD (l := tapeL []) (Nat.zero_le _)))
  obtain ⟨a14, c14, rfl⟩ := hq.form
  refine lenL ?_; refine mvI ?_; refine LS.done ?_
  refine zN ?_
  refine RS.loopF (X := Unit) 4 32 (fun _ => True) (fun _ => [(15, .int .i64 0), (16, .int .i64 0)]) (fun _ => σ1) (fun _ => rowD 0 95 v3 ([] : List RecD) :: rowD 0 21 vt (tapeL []) :: tpB b vt 0 n :: K) (fun _ => 0) () trivial ⟨rfl, rfl, trivial⟩ rfl ⟨fun h => h⟩ ?_
  rintro _ g _ ih
  refine zN ?_; refine ltI ?_; refine LS.done ?_
  refine zN ?_
  refine RS.condF ?_
  refine RS.exit ?_
  refine RS.formD (l := ([] : List RecD)) v3 (fun a7 c7 e7 hc7 => ?_); subst e7
  refine RS.freeze0 (l := ([] : List RecD)) (.slice a7 0 c7) (fun σ3 k3 hr7 => ?_) (hl := by simp)
  refine zN ?_; refine mvL ?_
  refine callP ?_ (hc := fun w' hw => clip_c a7 0 c7 (Nat.zero_le _) w')
  refine asL ?_; refine LS.done ?_
  refine zN ?_; refine RS.ret1 (v := .slice _ _ _) Tryz.func76 fun w hw => ?_
  exact ⟨_, σ3, PH.le_trans hle k3, hr7.recap (Nat.le_refl _), rfl, closeTp hw⟩
theorem all0_x (w : World) (hw : Sat w0 M σ (refHP b [] n :: K) w) :
    Calls Tryz.prog 78 #[.pointer (some ⟨b, 0, none⟩)] w fun e w' => ∃ v, (∃ a c, v = .slice a 0 c) ∧ e = .returned v ∧ Sat w0 M σ (refHP b [] n :: K) w' := by
  obtain ⟨vt, hw⟩ := openRf hw
  refine RS.enterK Tryz.func78 Tryz.ntmps78 rfl rfl hw ?_
  refine RS.formD (l := refL []) vt (fun at_ ct et _ => ?_); subst et
  refine zN ?_; refine asL ?_; refine LS.done ?_
  refine zN ?_; refine asL ?_; refine LS.done ?_
  refine zN ?_; refine asI ?_; refine LS.done ?_
  refine zN ?_
  refine RS.loopF (X := Unit) 4 31 (fun _ => True) (fun _ => [(4, .int .i64 0)]) (fun _ => σ) (fun _ => rowD 0 9 (.slice at_ (refL []).length ct) (refL []) :: rfB b (.slice at_ (refL []).length ct) n :: K) (fun _ => 0) () trivial ⟨rfl, trivial⟩ rfl ⟨fun h => h⟩ ?_
  rintro _ g _ ih
  refine zN ?_; refine mvI ?_; refine mvP ?_; refine nilck ?_; refine fld ?_; refine ld1 (v := .slice _ _ _) ?_; refine lenL ?_; refine ltI ?_; refine LS.done ?_
  refine zN ?_
  refine RS.condF ?_
  refine RS.exit ?_
  refine zN ?_; refine mvL ?_; refine asL ?_; refine LS.done ?_
  refine zN ?_; refine RS.ret1 (v := .slice _ _ _) Tryz.func78 fun w hw => ?_
  exact ⟨_, ⟨_, _, rfl⟩, rfl, closeRf hw⟩
theorem new0_s (sh : Int) (w : World) (hw : Sat w0 M σ (tapHP b [] n :: K) w) :
    Calls Tryz.prog 36 #[.int .i64 sh, .pointer (some ⟨b, 0, none⟩)] w fun e w' => ∃ x : Nat × PH, e = .returned (ptV x.1) ∧ Sat w0 M x.2 (coHP x.1 sh b [] :: tapHP b [] n :: K) w' ∧ PH.le σ x.2 := by
  refine RS.enterK Tryz.func36 Tryz.ntmps36 rfl rfl hw ?_
  refine zN ?_; refine asP ?_; refine LS.done ?_
  refine zN ?_; refine mvI ?_; refine mvP ?_; refine mkM (fun b11 => ?_); refine bld (vals := [(0, .int _ _), (1, .pointer _), (2, .map _)]) [_, _, _] ?_; refine box_ (v := .agg _) (cs := [_, _, _]) (fun b13 => ?_); refine asP ?_; refine LS.done ?_
  refine zN ?_; refine mvP ?_
  refine LS.ar (tapHP b [] n :: coB b13 sh b b11 :: blk b11 (.map #[] 0) :: K) ?_
  refine callQ (fun v τ => RepL τ v ([] : List RecD)) (tapHP b [] n :: coB b13 sh b b11 :: blk b11 (.map #[] 0) :: K) (fun v15 σ1 k1 h15 => ?_) (hc := fun w' hw => all0_s w' hw)
  obtain ⟨a15, c15, rfl⟩ := h15.form
  refine lenL ?_; refine mvI ?_; refine LS.done ?_
  refine zN ?_
  refine RS.loopF (X := Unit) 7 78 (fun _ => True) (fun _ => [(16, .int .i64 0), (17, .int .i64 0)]) (fun _ => σ1) (fun _ => tapHP b [] n :: coB b13 sh b b11 :: blk b11 (.map #[] 0) :: K) (fun _ => 0) () trivial ⟨rfl, rfl, trivial⟩ rfl ⟨fun h => h⟩ ?_
  rintro _ g _ ih
  refine zN ?_; refine ltI ?_; refine LS.done ?_
  refine zN ?_
  refine RS.condF ?_
  refine RS.exit ?_
  refine zN ?_; refine mvP ?_; refine asP ?_; refine LS.done ?_
  refine zN ?_; refine RS.ret1 (v := .pointer _) Tryz.func36 fun w hw => ?_
  exact ⟨(b13, σ1), rfl, closeCo (mb := b11) (l := []) (xs := []) rfl (List.Perm.refl _) (MapOk.nil _) ((hw.ar (coB b13 sh b b11 :: blk b11 (.map #[] 0) :: tapHP b [] n :: K)).weak fun _ h => h), k1⟩
theorem rnew0_s (sh : Int) (w : World) (hw : Sat w0 M σ (refHP b [] n :: K) w) :
    Calls Tryz.prog 39 #[.int .i64 sh, .pointer (some ⟨b, 0, none⟩)] w fun e w' => ∃ x : Nat, e = .returned (ptV x) ∧ Sat w0 M σ (refHP b [] n :: K) w' := by
  refine RS.enterK Tryz.func39 Tryz.ntmps39 rfl rfl hw ?_
  refine zN ?_; refine asP ?_; refine LS.done ?_
  refine zN ?_; refine mvI ?_; refine mvP ?_; refine bld (vals := [(0, .int _ _), (1, .pointer _)]) [_, _, _] ?_; refine box_ (v := .agg _) (cs := [_, _, _]) (fun b13 => ?_); refine asP ?_; refine LS.done ?_
  refine zN ?_; refine mvP ?_
  refine callX (X := Option Addr × Nat) (fun x => .slice x.1 0 x.2) (fun _ => σ) (fun _ => refHP b [] n :: K) (fun _ => True) (fun x _ => ?_) (fun w' hw => (all0_x w' (hw.weak fun _ h => h.tail)).mono fun _ _ ⟨v, ⟨a, c, e⟩, h2, h3⟩ => ⟨(a, c), by rw [h2, e], h3, trivial⟩)
  obtain ⟨a15, c15⟩ := x
  refine asL ?_; refine LS.done ?_
  refine zN ?_; refine asI ?_; refine LS.done ?_
  refine zN ?_
  refine RS.loopF (X := Unit) 7 56 (fun _ => True) (fun _ => [(7, .int .i64 0)]) (fun _ => σ) (fun _ => refHP b [] n :: K) (fun _ => 0) () trivial ⟨rfl, trivial⟩ rfl ⟨fun h => h⟩ ?_
  rintro _ g _ ih
  refine zN ?_; refine mvI ?_; refine mvL ?_; refine lenL ?_; refine ltI ?_; refine LS.done ?_
  refine zN ?_
  refine RS.condF ?_
  refine RS.exit ?_
  refine zN ?_; refine mvP ?_; refine asP ?_; refine LS.done ?_
  refine zN ?_; refine RS.ret1 (v := .pointer _) Tryz.func39 fun w hw => ?_
  exact ⟨_, rfl, hw⟩
end
end Go.Proofs.YtaokfeonmgpjcaaGreatDoor
namespace Go.JW
section
variable {P : Program} {f : FuncId} {R : Ending → World → Prop} {k : List Item} {n : Nat} {fr : Nat → Value} {w0 : World} {M : Nat → Prop} {σ : PH} {K : List HP}
variable {rest : List Oper} {d : Nat} {ty : TypeId} {pos : String} {aft : Array Edge} {x y : Operand} {t : TypeId}
variable {H : HS} {O : List (Nat × Obj)} {Kf : Us → List HP} {Kb K0 : List HP} {E : List Nat} {tags : List Tag}
theorem D.callK {g : FuncId} {xs : Array Operand} {ts : Array TypeId} (args : List Value) (Q : Value → PH → Prop) (hQ : MonoT Q) (KV : Value → List HP) [i : Fun P g]
    (h : LD P f R k n w0 M σ Kb rest tags ⟨fr, (d, Q) :: H, O, fun us => KV (us d), d :: ((Stg.mk fr H O (fun _ => K0) E false).seen ⟨some d, .call ⟨.value (.func g), xs, ts⟩, ty, pos, aft, none⟩ ++ E), false⟩)
    (hc : ∀ σ' w X, PH.le σ σ' → Sat w0 M σ' (X :: K0) w → Calls P g args.toArray w fun e w' => ∃ v σ'', PH.le σ' σ'' ∧ Q v σ'' ∧ e = .returned v ∧ Sat w0 M σ'' (X :: KV v) w')
    (hx : ∀ us, xs.toList.map (ev n (fill fr H us)) = args := by intro _; rfl) (hL : ∀ v, Less (KV v) Kb := by intro _; infer_instance) :
    LD P f R k n w0 M σ Kb (⟨some d, .call ⟨.value (.func g), xs, ts⟩, ty, pos, aft, none⟩ :: rest) (.eff :: tags) ⟨fr, H, O, fun _ => K0, E, false⟩ := by
  refine D.eff Q (fun us => KV (us d)) _ hQ (fun us => hL (us d)) h (fun us σ' w X hle hfs hw => ?_) (fun us => by rw [resE_mem (by simp)])
  exact .inr ⟨_, _, exec_call i.eq (hx us) w, (hc σ' w X hle hw).mono fun _ _ ⟨v, σ'', h1, h2, h3, h4⟩ => ⟨_, h3, σ'', h1, by rw [upd_eq]; exact h4, h2⟩⟩
theorem D.callS {g : FuncId} {xs : Array Operand} {ts : Array TypeId} (args : List Value) (Q : Value → PH → Prop) (hQ : MonoT Q) [i : Fun P g]
    (h : LD P f R k n w0 M σ Kb rest tags ⟨fr, (d, Q) :: H, O, Kf, d :: ((Stg.mk fr H O Kf E false).seen ⟨some d, .call ⟨.value (.func g), xs, ts⟩, ty, pos, aft, none⟩ ++ E), false⟩)
    (hc : ∀ us σ' w X, PH.le σ σ' → Sat w0 M σ' (X :: Kf us) w → Calls P g args.toArray w fun e w' => ∃ v σ'', PH.le σ' σ'' ∧ Q v σ'' ∧ e = .returned v ∧ Sat w0 M σ'' (X :: Kf us) w')
    (hx : ∀ us, xs.toList.map (ev n (fill fr H us)) = args := by intro _; rfl) (hL : ∀ us, Less (Kf us) Kb := by intro _; infer_instance) (hK : ∀ us u, Kf (upd us d u) = Kf us := by intro _ _; rfl)
    (hE : ∀ us, Kf (resE (d :: ((Stg.mk fr H O Kf E false).seen ⟨some d, .call ⟨.value (.func g), xs, ts⟩, ty, pos, aft, none⟩ ++ E)) us) = Kf us := by intro _; rfl) :
    LD P f R k n w0 M σ Kb (⟨some d, .call ⟨.value (.func g), xs, ts⟩, ty, pos, aft, none⟩ :: rest) (.eff :: tags) ⟨fr, H, O, Kf, E, false⟩ := by
  refine D.eff Q Kf _ hQ hL h (fun us σ' w X hle hfs hw => ?_) hE
  exact .inr ⟨_, _, exec_call i.eq (hx us) w, (hc us σ' w X hle hw).mono fun _ _ ⟨v, σ'', h1, h2, h3, h4⟩ => ⟨_, h3, σ'', h1, by rw [hK]; exact h4, h2⟩⟩
theorem D.stP (s : Nat) (cs cs' : Us → List Value) {b off sz : Nat} {T : TypeId} {sg : Bool} {put : Us → HP → List HP} {K' : Us → List HP} [hs : TSz P t sz]
    (h : LD P f R k n w0 M σ Kb rest tags ⟨fr, H, [], fun us => put us (blk b (.cells (cs' us).toArray T (0, 0))), (Stg.mk fr H [] Kf E sg).seen ⟨none, .store t x y, ty, pos, aft, none⟩ ++ E, true⟩)
    (hform : ∀ us σ', Facts H (readsTmp ⟨none, .store t x y, ty, pos, aft, none⟩) us σ' → ∃ p, us s = .pointer p)
    (hx : ∀ us, ev n (fill fr H us) x = .pointer (some ⟨b, off, none⟩) := by intro _; rfl) (hy : ∀ us, ev n (fill fr H us) y = us s := by intro _; rfl) (hf : ∀ us, FindB b (Kf us) (.cells (cs us).toArray T (0, 0)) (put us) (K' us) := by intro _; infer_instance)
    (hsz : sz = 1 := by rfl) (hr : ∀ us, off + 1 ≤ (cs us).length := by intro _; exact Nat.le_of_ble_eq_true rfl) (hc : ∀ us, setAt (cs us) off [us s] = cs' us := by intro _; rfl)
    (hE : ∀ us, (fun us => put us (blk b (.cells (cs' us).toArray T (0, 0)))) (resE (([] : List (Nat × Obj)).map (·.1) ++ ((Stg.mk fr H [] Kf E sg).seen ⟨none, .store t x y, ty, pos, aft, none⟩ ++ E)) us) = put us (blk b (.cells (cs' us).toArray T (0, 0))) := by intro _; rfl) :
    LD P f R k n w0 M σ Kb (⟨none, .store t x y, ty, pos, aft, none⟩ :: rest) (.st :: tags) ⟨fr, H, [], Kf, E, sg⟩ :=
  D.st (fun us => put us (blk b (.cells (cs' us).toArray T (0, 0)))) (fun us => put us (blk b (.cells (cs' us).toArray T (0, 0)))) h (fun us σ' w hle hfs hw => by
    have hw : Sat w0 M σ' (Kf us) w := hw
    obtain ⟨p, e⟩ := hform us σ' hfs
    have hb := hw.get (i := hf us)
    subst hsz
    have hcl : cellsL (us s) = [us s] := by rw [e]; rfl
    have := run_storeVarL (P := P) (t := t) (v := us s) hb hs.eq off (by rw [hcl]; rfl) (hr us) (by rw [e]; rfl)
    rw [hcl, hc us] at this
    exact ⟨_, by simp [execOp, hx us, hy us, Instr.storeAt, Instr.sureAddr, this], hw.put (i := hf us) _⟩) hE
end
end Go.JW
namespace Go.Proofs.YtaokfeonmgpjcaaGreatDoor
open Go.JW Go.RowKit
def coPV (v : Value) (n : Int) (tb : Nat) (gs : List GgD) : HP := ⟨fun g F => ∃ b, v = ptV b ∧ (coHP b n tb gs).h g F, fun ⟨b, h1, h2⟩ hg hi => ⟨b, h1, (coHP b n tb gs).loc h2 hg hi⟩⟩
abbrev woB (bw : Nat) (c t x y : Value) : HP := blk bw (.cells (List.toArray [c, t, x, y]) 44 (0, 0))
theorem coPV_of {g : VH} {b tb : Nat} {n : Int} {gs : List GgD} {K : List HP} {F : Nat → Prop} (h : SepIn g (coHP b n tb gs :: K) F) : SepIn g (coPV (ptV b) n tb gs :: K) F :=
  let ⟨F1, g1, g2⟩ := h; ⟨F1, ⟨_, rfl, g1⟩, g2⟩
theorem RS.openPV {f : FuncId} {R : Ending → World → Prop} {k : List Item} {nn : Nat} {fr : Nat → Value} {w0 : World} {M : Nat → Prop} {σ : PH} {K : List HP} {v : Value} {tb : Nat} {n : Int} {gs : List GgD}
    (h : ∀ b, v = ptV b → RS Tryz.prog f R k nn fr w0 M σ (coHP b n tb gs :: K)) : RS Tryz.prog f R k nn fr w0 M σ (coPV v n tb gs :: K) :=
  ⟨fun w hw => by
    obtain ⟨F1, ⟨b, h1, h2⟩, h4, h5⟩ := hw.sep
    exact (h b h1).out w ⟨hw.os, hw.tape, hw.output, hw.size, hw.keep, hw.imm, F1, h2, h4, h5⟩⟩
section
variable {w0 : World} {M : Nat → Prop} {σ : PH} {K : List HP}
structure W11 where
  w : Nat
  c : Nat
  t : Nat
  x : Nat
  y : Nat
abbrev woH (z : W11) : HP := woB z.w (ptV z.c) (ptV z.t) (ptV z.x) (ptV z.y)
theorem open_w (w : World) (hw : Sat w0 M σ K w) :
    Calls Tryz.prog 16 #[] w fun e w' => ∃ x : W11 × PH, e = .returned (ptV x.1.w) ∧ Sat w0 M x.2 (coHP x.1.c 3 x.1.t [] :: tapHP x.1.t [] 0 :: woH x.1 :: K) w' ∧ PH.le σ x.2 := by
  refine RS.enterK Tryz.func16 Tryz.ntmps16 rfl rfl hw ?_
  refine zN ?_; refine asP ?_; refine LS.done ?_
  refine zN ?_; skip
  refine callX (fun b : Nat => ptV b) (fun _ => σ) (fun b => tapHP b [] 0 :: K) (fun _ => True) (fun bt _ => ?_) (fun w' hw => (tnew_s w' hw).mono fun _ _ ⟨b, h1, h2⟩ => ⟨b, h1, h2, trivial⟩)
  refine bld (vals := []) [_, _] ?_; refine box_ (v := .agg _) (cs := [_, _]) (fun b4 => ?_); refine bld (vals := [(1, .pointer _), (3, .pointer _)]) [_, _, _, _] ?_; refine box_ (v := .agg _) (cs := [_, _, _, _]) (fun b6 => ?_); refine asP ?_; refine LS.done ?_
  refine zN ?_; refine mvP ?_; refine nilck ?_; refine fld ?_; refine ld1 (v := .pointer _) ?_; refine bin_eql_P ?_; refine LS.done ?_
  refine zN ?_; refine RS.condF ?_
  refine RS.to (K' := refHP b4 [] 0 :: tapHP bt [] 0 :: woB b6 (.pointer none) (ptV bt) (.pointer none) (ptV b4) :: K) ?_ ⟨fun h => ?_⟩
  rotate_left
  · obtain ⟨F1, h3, h4, h5⟩ := SepIn.group (A := [rowD 0 9 (.slice none 0 0) (refL []), rfB b4 (.slice none 0 0) 0]) (insNil (SepIn.swap h))
    exact SepIn.cons_sub (fun _ h => SepIn.swap h) (show SepIn _ (refHP b4 [] 0 :: woB b6 (.pointer none) (ptV bt) (.pointer none) (ptV b4) :: tapHP bt [] 0 :: K) _ from ⟨F1, ⟨_, h3⟩, h4, h5⟩)
  refine zD ?_; refine RS.draw [.free, .free, .free, .free, .free, .ex, .eff, .free, .free, .free, .ex, .eff, .free, .free, .st, .free, .free, .st] [woB b6 (.pointer none) (ptV bt) (.pointer none) (ptV b4)] ?_ (by kernel_rfl) (by kernel_rfl) (by infer_instance); refine D.mvP ?_; refine D.mvP ?_; refine D.mvP ?_; refine D.nilck ?_; refine D.fld ?_; refine D.ld1 (v := .pointer _) ?_
  refine D.callK [.int .i64 3, ptV bt] (fun v _ => ∃ b, v = ptV b) (fun _ _ _ h _ => h) (fun v => coPV v 3 bt [] :: refHP b4 [] 0 :: tapHP bt [] 0 :: woB b6 (.pointer none) (ptV bt) (.pointer none) (ptV b4) :: K) ?_ (hc := fun σ' w' X hle hw => (new0_s 3 w' (hw.ar (tapHP bt [] 0 :: X :: refHP b4 [] 0 :: woB b6 (.pointer none) (ptV bt) (.pointer none) (ptV b4) :: K))).mono fun _ _ ⟨x, h1, h2, h3⟩ => ⟨ptV x.1, x.2, h3, ⟨_, rfl⟩, h1, (h2.ar (X :: coHP x.1 3 bt [] :: refHP b4 [] 0 :: tapHP bt [] 0 :: woB b6 (.pointer none) (ptV bt) (.pointer none) (ptV b4) :: K)).weak fun _ h => SepIn.cons_sub (fun _ h => coPV_of h) h⟩)
  refine D.mvP ?_; refine D.nilck ?_; refine D.fld ?_; refine D.ld1 (v := .pointer _) ?_
  refine D.callS [.int .i64 3, ptV b4] (fun v _ => ∃ b, v = ptV b) (fun _ _ _ h _ => h) ?_ (hc := fun us σ' w' X hle hw => (rnew0_s 3 w' (hw.ar (refHP b4 [] 0 :: X :: coPV (us 18) 3 bt [] :: tapHP bt [] 0 :: woB b6 (.pointer none) (ptV bt) (.pointer none) (ptV b4) :: K))).mono fun _ _ ⟨x, h1, h2⟩ => ⟨ptV x, σ', PH.le_refl _, ⟨_, rfl⟩, h1, h2.ar _⟩)
  refine D.nilck ?_; refine D.fld ?_
  refine D.stP 18 (fun _ => [.pointer none, ptV bt, .pointer none, ptV b4]) (fun us => [us 18, ptV bt, .pointer none, ptV b4]) ?_ (fun us σ' hf => ?_)
  rotate_left
  · first | (obtain ⟨⟨b, e⟩, _⟩ := hf; exact ⟨_, e⟩) | (obtain ⟨_, ⟨b, e⟩, _⟩ := hf; exact ⟨_, e⟩)
  refine D.nilck ?_; refine D.fld ?_
  refine D.stP 23 (fun us => [us 18, ptV bt, .pointer none, ptV b4]) (fun us => [us 18, ptV bt, us 23, ptV b4]) ?_ (fun us σ' hf => ?_)
  rotate_left
  · first | (obtain ⟨⟨b, e⟩, _⟩ := hf; exact ⟨_, e⟩) | (obtain ⟨_, ⟨b, e⟩, _⟩ := hf; exact ⟨_, e⟩)
  refine D.done (fun us σ1 k1 hfs => ?_)
  obtain ⟨⟨bx, e23⟩, _⟩ := hfs
  rw [e23]
  refine RS.ow ?_
  refine RS.openPV (fun bc hbc => ?_)
  rw [hbc]
  refine RS.ar (coHP bc 3 bt [] :: tapHP bt [] 0 :: woB b6 (ptV bc) (ptV bt) (ptV bx) (ptV b4) :: K) ?_
  refine zN ?_; refine mvP ?_; refine nilck ?_; refine fld ?_; refine ld1 (v := .pointer _) ?_; refine bin_eql_P ?_; refine LS.done ?_
  refine zN ?_; refine RS.condF ?_
  refine zN ?_; refine mvP ?_; refine asP ?_; refine LS.done ?_
  refine zN ?_; refine RS.ret1 (v := .pointer _) Tryz.func16 fun w hw => ?_
  exact ⟨(⟨b6, bc, bt, bx, b4⟩, σ1), rfl, hw, k1⟩
end
end Go.Proofs.YtaokfeonmgpjcaaGreatDoor
namespace Go.Proofs.YtaokfeonmgpjcaaGreatDoor
open Go.JW Go.RowKit
def nameK (s : Int) : ByteArray := (⟨#[112]⟩ : ByteArray) ++ (List.foldl (fun (r : ByteArray) (n : Int) => r.push (UInt8.ofNat n.toNat)) ByteArray.empty [IntKind.u8.wrap (48 + s)])
def podK (s : Int) : PodD := ⟨nameK s, s, 0, 0, [], [], false⟩
def podsK (n : Nat) : List PodD := (List.range n).map fun (i : Nat) => podK ((i : Int) + 1)
def AllP (l : List MsgD) (kd : Int) (n : Nat) (y : Bool) : Prop := l.length = n ∧ ∀ i (h : i < l.length), l[i].kind = kd ∧ l[i].frm = 0 ∧ l[i].dst = (i : Int) + 1 ∧ l[i].yes = y
end Go.Proofs.YtaokfeonmgpjcaaGreatDoor
namespace Go.Proofs.YtaokfeonmgpjcaaGreatDoor
open Go.JW Go.RowKit
def upTo (n : Nat) : List Int := (List.range n).map fun (i : Nat) => (i : Int) + 1
def ggK (id : Int) (n : Nat) : GgD := ⟨id, 1, 0, podsK n, upTo n, upTo n⟩
end Go.Proofs.YtaokfeonmgpjcaaGreatDoor
namespace Go.JW
section
variable {P : Program} {f : FuncId} {R : Ending → World → Prop} {k : List Item} {n : Nat} {fr : Nat → Value} {w0 : World} {M : Nat → Prop} {σ : PH} {K K' : List HP} {ops : Array Oper}
theorem LS.frozenL {α : Type} [Rep α] {L : List Oper} (l : List α) (b : Nat) {e : Nat} {cs : List Value} {put : HP → List HP} (hc : CellsL σ cs l) (h : ∀ σ', PH.le σ σ' → RepL σ' (.slice (some ⟨b, 0, none⟩) l.length l.length) l → LS P false ops f R k L n fr w0 M σ' K')
    (hf : FindB b K (.cells (List.toArray cs) e (0, 0)) put K' := by infer_instance) (hl : l.length ≤ 140737488355328 := by first | decide | (simp; done) | (simp; omega)) : LS P false ops f R k L n fr w0 M σ K := by
  have h1 : LS P false ops f R k L n fr w0 M σ (rowD 0 e (.slice (some ⟨b, 0, none⟩) l.length l.length) l :: K') := LS.freeze0 (l := l) _ h (hl := hl) (hf := FindD.head)
  refine ⟨fun w hw => h1.out w (hw.weak fun F hF => ?_)⟩
  obtain ⟨F1, ⟨g1, g2⟩, g3, g4⟩ := hf.get hF
  exact ⟨F1, ⟨cs, by rw [fromN_zero]; exact hc, by rw [hc.len], hc.one, _, _, rfl, Nat.le_refl _, by omega, .inr ⟨b, cs, rfl, g1, g2, by rw [hc.len]; exact Nat.le_refl _, by rw [← hc.len]; simp⟩⟩, g3, g4⟩
end
end Go.JW
namespace Go.Proofs.YtaokfeonmgpjcaaGreatDoor
open Go.JW Go.RowKit
def podN : PodD := ⟨⟨#[112]⟩, 2, 0, 0, [], [], false⟩
def gangN : GangD := ⟨4, [podN]⟩
def ggN : GgD := ⟨4, 1, 0, [podN], [2], [2]⟩
theorem podN_rep (σ : PH) : Rep.rep σ (podC podN nilV nilV) podN :=
  ⟨_, _, rfl, by decide, by decide, by decide, by decide, RepL.nil _ _ _, RepL.nil _ _ _⟩
theorem gangN_err : gangErr gangN 2 = 0 := by
  have h1 : podErr podN 2 = 0 := by decide +kernel
  unfold gangErr
  rw [if_neg (by decide), if_neg (by decide), if_neg (by simp [gangN, firstErr, h1]), if_neg]
  rintro ⟨i, j, h1, h2, _⟩
  simp only [gangN, List.length_cons, List.length_nil] at h2
  omega
theorem submitN : submitP 2 ⟨[], []⟩ gangN = (⟨[ggN], [recP 7 4 [2]]⟩, [⟨1, 0, 2, 4, [podN], [], false⟩], 0) := by
  have hs : shardsOf gangN.pods = [2] := Rising.ext (shards_rising _) (by simp [Rising]) fun x => by rw [mem_shards]; simp [shardL, gangN, podN]
  rw [submit_yes (by rw [gangN_err]; simp) (by simp [findP])]
  unfold madeG
  rw [hs]
  rfl
section
variable {w0 : World} {M : Nat → Prop} {σ : PH} {K : List HP}
theorem known11_s (hL : LibAt σ) (w : World) (hw : Sat w0 M σ K w) :
    Calls Tryz.prog 15 #[] w fun e w' => ∃ v σ', PH.le σ σ' ∧ v = .bool true ∧ e = .returned v ∧ Sat w0 M σ' K w' := by
  refine RS.enterK Tryz.func15 Tryz.ntmps15 rfl rfl hw ?_
  refine zN ?_; refine asB ?_; refine LS.done ?_
  refine zN ?_; skip
  refine callX (fun b : Nat => ptV b) (fun _ => σ) (fun b => tapHP b [] 0 :: K) (fun _ => True) (fun bt _ => ?_) (fun w' hw => (tnew_s w' hw).mono fun _ _ ⟨b, h1, h2⟩ => ⟨b, h1, h2, trivial⟩)
  refine asP ?_; refine LS.done ?_
  refine zN ?_; refine mvP ?_; refine bin_eql_P ?_; refine LS.done ?_
  refine zN ?_; refine RS.condF ?_
  refine zN ?_; refine mvP ?_
  refine callX (fun x : Nat × PH => ptV x.1) (fun x => x.2) (fun x => coHP x.1 2 bt [] :: tapHP bt [] 0 :: K) (fun x => PH.le σ x.2) (fun x hx => ?_) (fun w' hw => new0_s 2 w' hw)
  obtain ⟨bc, σ1⟩ := x
  dsimp only at hx ⊢
  have k1 : PH.le σ σ1 := hx
  refine asP ?_; refine LS.done ?_
  refine zN ?_; refine mvP ?_; refine bin_eql_P ?_; refine mvB ?_; refine LS.on ?_; refine mvP ?_; refine LS.on ?_
  refine callS _ (coHP bc 2 bt [] :: tapHP bt [] 0 :: K) ?_ (hc := fun w' hw => state_s 4 List.Pairwise.nil (fun _ h => absurd h (List.not_mem_nil)) w' hw)
  refine LS.on ?_; refine neI ?_; refine pk (v := .bool _) ?_; refine LS.done ?_
  refine zN ?_; refine RS.condF ?_
  refine zN ?_; refine mvP ?_; refine bld (vals := [(0, .string _), (1, .int _ _)]) [_, _, _, _, _, _, _] ?_; refine bldS [.agg (List.toArray (podC podN nilV nilV))] (podC podN nilV nilV) (fun b20 => ?_); refine LS.frozenL [podN] b20 (CellsL.one_ (podN_rep _)) (fun σ2 k2 h20 => ?_); refine bld (vals := [(0, .int _ _), (1, .slice _ _ _)]) [_, _] ?_
  have hsub := submitN
  refine callQ (fun v σ' => AnsM [⟨1, 0, 2, 4, [podN], [], false⟩] 0 v σ') (coHP bc 2 bt [ggN] :: tapHP bt [recP 7 4 [2]] 1 :: K) (fun v22 σ3 k3 h22 => ?_) (hc := fun w' hw => by
    have h := submit_s (sh := 2) (bc := bc) (tb := bt) (K := K) (c := ⟨[], []⟩) gangN _ ⟨by decide, by decide⟩ h20 (by omega) CoOk.nil oks_nil (by simp) (hL.mono (PH.le_trans k1 k2)) w' hw
    rw [hsub] at h
    exact h)
  obtain ⟨a22, c22, rfl, hr22⟩ := h22
  obtain ⟨b1, o1, rfl, hrow⟩ := hr22.addr (by simp)
  obtain ⟨vs, hcs, vp, vq, rfl, _⟩ := hrow 0 (by simp)
  have sz7 : Rep.sz MsgD = 7 := rfl
  have c0 : σ3.cell b1 (o1 + 0 * 7 + 0) = some (.int .i64 1) := hcs 0 (by omega)
  have c2 : σ3.cell b1 (o1 + 0 * 7 + 2) = some (.int .i64 2) := hcs 2 (by omega)
  refine mvT ?_; refine extr (v := .slice _ _ _) ?_; refine extr (v := .int _ _) ?_; refine asL ?_; refine asI ?_; refine LS.done ?_
  have hokN : CoOk ⟨[ggN], [recP 7 4 [2]]⟩ := by
    have h := CoOk.nil.submit (n := 2) (by omega) gangN
    rw [hsub] at h; exact h
  refine zN ?_; refine mvI ?_; refine eqI ?_; refine mvB ?_; refine LS.on ?_; refine mvL ?_; refine LS.on ?_; refine lenL ?_; refine LS.on ?_; refine eqI ?_; refine pk (v := .bool _) ?_; refine mvB ?_; refine LS.on ?_; refine mvL ?_; refine LS.on ?_; refine idx (i := 0) ?_ (hi := by simp); refine LS.on ?_; refine fld ?_; refine LS.on ?_; refine ldS c0 ?_; refine LS.on ?_; refine eqI ?_; refine pk (v := .bool _) ?_; refine mvB ?_; refine LS.on ?_; refine mvL ?_; refine LS.on ?_; refine idx (i := 0) ?_ (hi := by simp); refine LS.on ?_; refine fld ?_; refine LS.on ?_; refine ldS c2 ?_; refine LS.on ?_; refine eqI ?_; refine pk (v := .bool _) ?_; refine mvB ?_; refine LS.on ?_; refine mvP ?_; refine LS.on ?_
  refine callS _ (coHP bc 2 bt [ggN] :: tapHP bt [recP 7 4 [2]] 1 :: K) ?_ (hc := fun w' hw => state_s 4 hokN.ids hokN.gs w' hw)
  refine LS.on ?_; refine eqI ?_; refine pk (v := .bool _) ?_; refine mvB ?_; refine LS.on ?_; refine mvP ?_; refine LS.on ?_
  refine callS _ (coHP bc 2 bt [ggN] :: tapHP bt [recP 7 4 [2]] 1 :: K) ?_ (hc := fun w' hw => (lasting_s (b := bt) (rs := [recP 7 4 [2]]) (n := 1) (K := coHP bc 2 bt [ggN] :: K) w' (hw.ar _)).mono fun _ _ h => ⟨h.1, h.2.ar _⟩)
  refine LS.on ?_; refine eqI ?_; refine pk (v := .bool _) ?_; refine asB ?_; refine LS.done ?_
  refine zN ?_; refine RS.ret1 (v := .bool _) Tryz.func15 fun w hw => ?_
  exact ⟨_, σ3, PH.le_trans k1 (PH.le_trans k2 k3), rfl, rfl, hw.weak fun F h => h.tail.tail⟩
end
end Go.Proofs.YtaokfeonmgpjcaaGreatDoor
namespace Go.Proofs.YtaokfeonmgpjcaaGreatDoor
open Go.JW Go.RowKit
structure Inv (c : CoD) (k : Nat) : Prop where
  ok : CoOk c
  recs : Oks c.rs
  len : c.rs.length ≤ k
theorem getG_rec {g : GgD} (m : MsgD) : (getG g m).2.1 = [] ∨ (getG g m).2.1 = [recP 4 g.id []] := (get_back g m).elim (fun h => .inl h.1) fun h => .inr h.1
theorem Inv.get {c : CoD} {k : Nat} (h : Inv c k) (m : MsgD) : Inv (getP c m).1 (k + 1) := by
  have hl := h.len
  refine ⟨h.ok.get m, ?_, ?_⟩
  all_goals unfold getP
  all_goals split
  · exact h.recs
  · cases hf : findP c.gs m.gang with
    | none => exact h.recs
    | some g =>
      dsimp only
      split
      · rcases getG_rec (g := g) m with e | e
        · dsimp only; rw [e, List.append_nil]; exact h.recs
        · dsimp only; rw [e]; exact oks_app h.recs (rec_ok46 4 (.inl rfl) _ (h.ok.gs g (find_mem hf).1).id)
      · exact h.recs
  · show c.rs.length ≤ k + 1; omega
  · cases hf : findP c.gs m.gang with
    | none => show c.rs.length ≤ k + 1; omega
    | some g =>
      dsimp only
      split
      · rcases getG_rec (g := g) m with e | e
        · dsimp only; rw [e, List.append_nil]; omega
        · dsimp only; rw [e, List.length_append]; simp; omega
      · show c.rs.length ≤ k + 1; omega
theorem Inv.tick {c : CoD} {k : Nat} (h : Inv c k) : Inv (tickP c).1 k := ⟨h.ok.tick, h.recs, h.len⟩
theorem Inv.submit {c : CoD} {k : Nat} {n : Int} (h : Inv c k) (hn : n ≤ 4) (g : GangD) : Inv (submitP n c g).1 (k + 1) := by
  have hl := h.len
  have h1 := h.ok.submit hn g
  by_cases hg : gangErr g n ≠ 0
  · rw [submit_bad hg]; exact ⟨h.ok, h.recs, by show c.rs.length ≤ k + 1; omega⟩
  · by_cases hs : (findP c.gs g.id).isSome = true
    · rw [submit_twice hg hs]; exact ⟨h.ok, h.recs, by show c.rs.length ≤ k + 1; omega⟩
    · rw [submit_yes hg hs] at h1 ⊢
      exact ⟨h1, oks_app h.recs (rec_ok7 (GgOk.of (Decidable.not_not.1 hg) hn)), by show (c.rs ++ [_]).length ≤ k + 1; rw [List.length_append]; simp; omega⟩
theorem gs_len {c : CoD} (h : CoOk c) : c.gs.length ≤ c.rs.length := by
  have h1 : ∀ (rs : List RecD) (gs : List GgD), (rs.foldl newS gs).length ≤ gs.length + rs.length := by
    intro rs
    induction rs with
    | nil => intro gs; simp
    | cons r rs ih =>
      intro gs
      rw [List.foldl_cons, List.length_cons]
      have := ih (newS gs r)
      have h2 : (newS gs r).length ≤ gs.length + 1 := by
        unfold newS
        split
        · rw [(put_perm _ _).length_eq]; simp
        · split
          · simp [modP]
          · split <;> simp [modP]
      omega
  have := h1 c.rs []
  have e := congrArg List.length h.back
  rw [List.length_map] at e
  unfold newP at e
  simp at this
  omega
abbrev CS (z : W11) (c : CoD) (K : List HP) : List HP := coHP z.c 3 z.t c.gs :: tapHP z.t c.rs c.rs.length :: woH z :: K
abbrev sgM (m : MsgD) : Int × Int × Int × Bool := (m.kind, m.frm, m.dst, m.yes)
theorem AllP.of {l : List MsgD} {kd : Int} {n : Nat} {y : Bool} (h : l.map sgM = (List.range n).map fun (i : Nat) => (kd, 0, (i : Int) + 1, y)) : AllP l kd n y := by
  have hl := congrArg List.length h
  simp only [List.length_map, List.length_range] at hl
  refine ⟨hl, fun i hi => ?_⟩
  have := congrArg (fun q => q[i]?) h
  simp only [List.getElem?_map, List.getElem?_eq_getElem hi, List.getElem?_range (show i < n by omega), Option.map_some, Option.some.injEq, Prod.mk.injEq] at this
  exact ⟨this.1, this.2.1, this.2.2.1, this.2.2.2⟩
section
variable {f : FuncId} {R : Ending → World → Prop} {k : List Item} {nn : Nat} {fr : Nat → Value} {w0 : World} {M : Nat → Prop} {σ : PH} {K : List HP} {ops : Array Oper}
variable {rest : List Oper} {d : Nat} {ty : TypeId} {pos : String} {aft : Array Edge} {xs : Array Operand} {ts : Array TypeId} {z : W11} {c : CoD} {q : Nat}
theorem tickL (hi : Inv c q) (hL : LibAt σ)
    (h : ∀ a cp σ', PH.le σ σ' → LibAt σ' → RepL σ' (.slice a (tickP c).2.length cp) (tickP c).2 → LS Tryz.prog false ops f R k rest nn (upd fr d (.slice a (tickP c).2.length cp)) w0 M σ' (CS z (tickP c).1 K))
    (hq : q ≤ 900 := by omega) (hx : xs.toList.map (ev nn fr) = [ptV z.c] := by rfl) :
    LS Tryz.prog false ops f R k (⟨some d, .call ⟨.value (.func 20), xs, ts⟩, ty, pos, aft, none⟩ :: rest) nn fr w0 M σ (CS z c K) :=
  callQ (fun v σ' => RepL σ' v (tickP c).2) (CS z (tickP c).1 K) (fun v σ' hle hr => by obtain ⟨a, cp, rfl⟩ := hr.form; exact h a cp σ' hle (hL.mono hle) hr)
    (fun w hw => tick_s (K := tapHP z.t c.rs c.rs.length :: woH z :: K) hi.ok.ids hi.ok.gs (by have := gs_len hi.ok; have := hi.len; omega) w hw) hx
theorem stateL11 (hi : Inv c q) (id : Int) (h : LS Tryz.prog false ops f R k rest nn (upd fr d (.int .i64 (stateP c.gs id))) w0 M σ (CS z c K)) (hx : xs.toList.map (ev nn fr) = [ptV z.c, .int .i64 id] := by rfl) :
    LS Tryz.prog false ops f R k (⟨some d, .call ⟨.value (.func 22), xs, ts⟩, ty, pos, aft, none⟩ :: rest) nn fr w0 M σ (CS z c K) :=
  callS _ (CS z c K) h (hc := fun w hw => state_s (K := tapHP z.t c.rs c.rs.length :: woH z :: K) id hi.ok.ids hi.ok.gs w hw) (hx := hx)
theorem linesL (hi : Inv c q) (hL : LibAt σ)
    (h : ∀ a cp σ', PH.le σ σ' → LibAt σ' → RepL σ' (.slice a (refL c.rs).length cp) (refL c.rs) → LS Tryz.prog false ops f R k rest nn (upd fr d (.slice a (refL c.rs).length cp)) w0 M σ' (CS z c K))
    (hq : q ≤ 900 := by omega) (hx : xs.toList.map (ev nn fr) = [ptV z.t] := by rfl) :
    LS Tryz.prog false ops f R k (⟨some d, .call ⟨.value (.func 19), xs, ts⟩, ty, pos, aft, none⟩ :: rest) nn fr w0 M σ (CS z c K) :=
  callQ (fun v σ' => RepL σ' v (refL c.rs)) (CS z c K) (fun v σ' hle hr => by obtain ⟨a, cp, rfl⟩ := hr.form; exact h a cp σ' hle (hL.mono hle) hr)
    (fun w hw => (lines_s (b := z.t) (n := c.rs.length) (K := coHP z.c 3 z.t c.gs :: woH z :: K) hi.recs (by have := hi.len; omega) w (hw.ar _)).mono fun _ _ ⟨v, σ', g1, g2, g3, g4⟩ => ⟨v, σ', g1, g2, g3, g4.ar _⟩) hx
end
end Go.Proofs.YtaokfeonmgpjcaaGreatDoor
namespace Go.Proofs.YtaokfeonmgpjcaaGreatDoor
open Go.JW Go.RowKit
def c0 : CoD := ⟨[], []⟩
def c1 (n : Nat) : CoD := ⟨[ggK 5 n], [recP 7 5 (upTo n)]⟩
theorem inv0 : Inv c0 0 := ⟨CoOk.nil, oks_nil, Nat.le_refl _⟩
theorem ansM_mono (l : List MsgD) (e : Int) : MonoT (AnsM l e) := fun _ _ _ ⟨a, c, h1, h2⟩ hs => ⟨a, c, h1, h2.mono hs⟩
theorem submitA {w0 w : World} {M : Nat → Prop} {σ : PH} {K : List HP} {X : HP} {z : W11} {c : CoD} {q : Nat} {v : Value} {g : GangD} (hi : Inv c q) (hq : q ≤ 900) (hL : LibAt σ) (hv : RepA σ v g) (hw : Sat w0 M σ (X :: CS z c K) w) :
    Calls Tryz.prog 18 #[ptV z.c, v] w fun e w' => ∃ v σ', PH.le σ σ' ∧ AnsM (submitP 3 c g).2.1 (submitP 3 c g).2.2 v σ' ∧ e = .returned v ∧ Sat w0 M σ' (X :: CS z (submitP 3 c g).1 K) w' := by
  obtain ⟨cs, rfl, vp, rfl, hid, hp⟩ := hv
  exact (submit_s (bc := z.c) (tb := z.t) (sh := 3) (K := X :: woH z :: K) g vp hid hp (by omega) hi.ok hi.recs (Nat.le_trans hi.len hq) hL w (hw.ar (coHP z.c 3 z.t c.gs :: tapHP z.t c.rs c.rs.length :: X :: woH z :: K))).mono fun _ _ ⟨v, σ', h1, h2, h3, h4⟩ => ⟨v, σ', h1, h2, h3, h4.ar (X :: coHP z.c 3 z.t (submitP 3 c g).1.gs :: tapHP z.t (submitP 3 c g).1.rs (submitP 3 c g).1.rs.length :: woH z :: K)⟩
end Go.Proofs.YtaokfeonmgpjcaaGreatDoor
namespace Go.JW
section
variable {P : Program} {f : FuncId} {R : Ending → World → Prop} {k : List Item} {n : Nat} {fr : Nat → Value} {w0 : World} {M : Nat → Prop} {σ : PH}
variable {rest : List Oper} {d : Nat} {ty : TypeId} {pos : String} {aft : Array Edge} {x : Operand} {H : HS} {O : List (Nat × Obj)} {Kf : Us → List HP} {Kb : List HP} {E : List Nat} {tags : List Tag}
theorem Out.fill {lo hi : Nat} {fr' : Nat → Value} {us : Us} : ∀ {H : HS}, Out lo hi fr' fr → H.all (fun p => Nat.ble lo p.1 && Nat.blt p.1 hi) = true → Out lo hi (JW.fill fr' H us) fr
  | [], h, _ => h
  | (s, _) :: H, h, ha => by
    rw [List.all_cons, Bool.and_eq_true] at ha
    exact Out.upd (Out.fill h ha.2) ha.1
theorem D.asFT (T : Value → PH → Prop) (hT : MonoT T) (h : LD P f R k n w0 M σ Kb rest tags ⟨fr, (d, T) :: H, O, Kf, E, false⟩)
    (ho : ∀ us σ', PH.le σ σ' → Facts H (readsTmp ⟨some d, .assign x, ty, pos, aft, none⟩) us σ' → T (ev n (fill fr H us) x) σ') :
    LD P f R k n w0 M σ Kb (⟨some d, .assign x, ty, pos, aft, none⟩ :: rest) (.ex :: tags) ⟨fr, H, O, Kf, E, false⟩ :=
  D.gr T hT h fun us σ' w hle hf hw => .inl ⟨_, w, by simp [execOp], RowKit.Below.refl _ _, hT _ _ _ (ho us σ' hle hf) (grow_le hw)⟩
end
end Go.JW
namespace Go.Proofs.YtaokfeonmgpjcaaGreatDoor
open Go.JW Go.RowKit
theorem mono_L {α : Type} [Rep α] {l : List α} : MonoT fun v τ => RepL τ v l := fun _ _ _ h hs => h.mono hs
section
variable {f : FuncId} {R : Ending → World → Prop} {k : List Item} {nn : Nat} {fr : Nat → Value} {w0 : World} {M : Nat → Prop} {σ : PH} {K : List HP} {ops : Array Oper}
variable {rest : List Oper} {d : Nat} {ty : TypeId} {pos : String} {aft : Array Edge} {xs : Array Operand} {ts : Array TypeId} {z : W11} {c c' : CoD} {q : Nat} {l : List MsgD} {e : Int}
theorem tickE (hi : Inv c q) (hL : LibAt σ) (hr : tickP c = (c', l))
    (h : ∀ a cp σ', PH.le σ σ' → LibAt σ' → RepL σ' (.slice a l.length cp) l → LS Tryz.prog false ops f R k rest nn (upd fr d (.slice a l.length cp)) w0 M σ' (CS z c' K))
    (hq : q ≤ 900 := by omega) (hx : xs.toList.map (ev nn fr) = [ptV z.c] := by rfl) :
    LS Tryz.prog false ops f R k (⟨some d, .call ⟨.value (.func 20), xs, ts⟩, ty, pos, aft, none⟩ :: rest) nn fr w0 M σ (CS z c K) :=
  tickL hi hL (by rw [hr]; exact h) hq hx
theorem stateE (hi : Inv c q) (id : Int) (hr : stateP c.gs id = e) (h : LS Tryz.prog false ops f R k rest nn (upd fr d (.int .i64 e)) w0 M σ (CS z c K)) (hx : xs.toList.map (ev nn fr) = [ptV z.c, .int .i64 id] := by rfl) :
    LS Tryz.prog false ops f R k (⟨some d, .call ⟨.value (.func 22), xs, ts⟩, ty, pos, aft, none⟩ :: rest) nn fr w0 M σ (CS z c K) :=
  stateL11 hi id (by rw [hr]; exact h) hx
end
section
variable {w0 w : World} {M : Nat → Prop} {σ : PH} {K : List HP} {X : HP} {z : W11} {c c' : CoD} {q : Nat} {l : List MsgD} {e : Int}
theorem submitB {v : Value} {g : GangD} (hi : Inv c q) (hq : q ≤ 900) (hL : LibAt σ) (hv : RepA σ v g) (hr : submitP 3 c g = (c', l, e)) (hw : Sat w0 M σ (X :: CS z c K) w) :
    Calls Tryz.prog 18 #[ptV z.c, v] w fun en w' => ∃ v σ', PH.le σ σ' ∧ AnsM l e v σ' ∧ en = .returned v ∧ Sat w0 M σ' (X :: CS z c' K) w' := by
  have h := submitA hi hq hL hv hw
  rw [hr] at h
  exact h
end
section
variable {f : FuncId} {R : Ending → World → Prop} {k : List Item} {nn : Nat} {fr : Nat → Value} {w0 : World} {M : Nat → Prop} {σ : PH} {K : List HP} {ops : Array Oper}
variable {rest : List Oper} {d : Nat} {ty : TypeId} {pos : String} {aft : Array Edge} {xs : Array Operand} {ts : Array TypeId} {z : W11} {c c' : CoD} {q : Nat} {l : List MsgD} {e : Int}
end
end Go.Proofs.YtaokfeonmgpjcaaGreatDoor
namespace Go.Proofs.YtaokfeonmgpjcaaGreatDoor
open Go.JW Go.RowKit
noncomputable def laid7 : List (String × DataW Unit) := Rows.coordFreesRow.laid
theorem tabAt_of {W : World} {g : Nat} {name : String} {k : IntKind} {zs : List Int} (h : Lib.TabIs Tryz.prog W name k zs) (hg : Tryz.prog.globalNamed name = some g) : TabAt (hp W) g (zs.map fun z => Value.int k z).toArray := by
  unfold Lib.TabIs World.var? at h
  rw [hg, Option.bind_some] at h
  split at h
  · rename_i cs T r hb
    injection h with h
    subst h
    exact ⟨T, r, hb⟩
  · cases h
theorem gSpc : Tryz.prog.globalNamed "strings.asciiSpace" = some 0 := by kernel_rfl
theorem gPow : Tryz.prog.globalNamed "internal/strconv.uint64pow10" = some 2 := by kernel_rfl
theorem tSpc : (Tryz.prog.globals[0]?).map (·.type) = some 230 := by kernel_rfl
theorem tPow : (Tryz.prog.globals[2]?).map (·.type) = some 301 := by kernel_rfl
theorem cSpc : Tryz.prog.cellsOf 230 = 256 := by kernel_rfl
theorem cPow : Tryz.prog.cellsOf 301 = 20 := by kernel_rfl
theorem cU8 : Tryz.prog.cellsOf 5 = 1 := by kernel_rfl
theorem cU64 : Tryz.prog.cellsOf 200 = 1 := by kernel_rfl
theorem all_plain : laid7.filter (fun x => x.2.handleName?.isNone) = laid7 := by kernel_rfl
theorem plain7 {W : World} (h : laidMetH Tryz.prog laid7 W) : laidMet Tryz.prog laid7 W := by
  have h1 := (laidMetH_iff.1 h).1
  rwa [all_plain] at h1
theorem only_pow : laid7.filter (fun x => x.1 == "internal/strconv.uint64pow10") = [("internal/strconv.uint64pow10", Lib.tabData .u64 Lib.pow10Tab)] := by kernel_rfl
theorem only_spc : laid7.filter (fun x => x.1 == "strings.asciiSpace") = [("strings.asciiSpace", Lib.tabData .u8 Lib.asciiSpaceTab)] := by kernel_rfl
theorem lib_of {W : World} (h : laidMetH Tryz.prog laid7 W) (hs : W.ShapedOpen Tryz.prog) : LibAt (hp W) := by
  have h := plain7 h
  have h1 := h.filter fun x => x.1 == "internal/strconv.uint64pow10"
  have h2 := h.filter fun x => x.1 == "strings.asciiSpace"
  rw [only_pow] at h1
  rw [only_spc] at h2
  obtain ⟨m, hm⟩ := cell_of_shapedOpen_int (P := Tryz.prog) (g := 3) (k := .i64) hs (of_decide_eq_true (by kernel_rfl)) (t := 3) (zero := #[.int .i64 0]) (by kernel_rfl) rfl (by kernel_rfl) (by kernel_rfl) TInt.eq
  exact ⟨tabAt_of (Lib.tabIs_of_head (rest := []) gSpc tSpc Tryz.underlying230 Tryz.underlying5 cU8 cSpc h2) gSpc,
    tabAt_of (Lib.tabIs_of_head (rest := []) gPow tPow Tryz.underlying301 Tryz.underlying200 cU64 cPow h1) gPow, m, PH.cell_world.trans hm⟩
theorem laid_met7 (os : Os) (args : Array Value) : laidMet Tryz.prog laid7 ((World.laidAll Tryz.prog os laid7).forCall (fun _ _ => 0) ⟨#[], args, []⟩).memory := laidMet_laidAll args (by kernel_rfl) (by kernel_rfl)
theorem shaped7 (os : Os) (args : Array Value) : ((World.laidAll Tryz.prog os laid7).forCall (fun _ _ => 0) ⟨#[], args, []⟩).Shaped Tryz.prog := World.shaped_of_ZipB (by kernel_rfl) (by kernel_rfl)
theorem witness7 {H : Type} {enc : TypeId × Value → H} {f : FuncId} {fn : Func} {s : OpenSpec} {conds : List PathCond} {apart : Bool} (os : Os) (args : Array Value)
    (hok : Input.okWideB Tryz.prog ((World.laidAll Tryz.prog os laid7).forCall (fun _ _ => 0) ⟨#[], args, []⟩) f ⟨#[], args, []⟩ = true)
    (hrow : s.preRow enc Tryz.prog fn conds apart laid7 ((World.laidAll Tryz.prog os laid7).forCall (fun _ _ => 0) ⟨#[], args, []⟩).memory args) :
    ∃ (w : World) (tape : Tape) (i : Input), w.os = os ∧ (w.forCall tape i).Shaped Tryz.prog ∧ i.vars = [] ∧ Input.okWide Tryz.prog (w.forCall tape i) .any w.heap.size f i ∧
      s.preRow enc Tryz.prog fn conds apart laid7 (w.forCall tape i).memory i.args ∧ ({} : Assume).holds Tryz.prog (lone (Frame.enter Tryz.prog f i.args .normal) [] (w.forCall tape i)) :=
  ⟨World.laidAll Tryz.prog os laid7, fun _ _ => 0, ⟨#[], args, []⟩, World.laidAll_os _ _ _, shaped7 os args, (Input.okWide_of_okWideB (base := 0) hok).1, (Input.okWide_of_okWideB hok).2, hrow, by
    simp only [Assume.holds]
    exact ⟨by simp, by simp, fun _ => Modest.zero, by simp, by simp⟩⟩
end Go.Proofs.YtaokfeonmgpjcaaGreatDoor
namespace Go.JW

abbrev Sized (l : List Nat) : Prop := ∀ n ∈ l, n ≤ 140737488351232
class OpenT (P : Program) (t : TypeId) (α : Type) [Rep α] : Prop where
  open_ : ∀ {H : Type} {enc : TypeId × Value → H} {w : World} {base : Nat} {sp : Nat → Bool} {held : Bool} {fuel : Nat} {cs : List Value} {x : DataW H × List MemPlace},
    DataW.trod enc P w base sp held fuel t cs = some x → Sized (x.1.weights P t) → ∃ a : α, Rep.rep (hp w) cs a
section
variable {P : Program} {t e : TypeId}
theorem wfI64 {n : Int} (h : (Lit.int .i64 n).wf = true) : I64 n := by
  simp only [Lit.wf, Bool.and_eq_true, decide_eq_true_eq] at h
  exact h
instance OpenT.int [ht : TInt P t .i64] : OpenT P t Int where
  open_ h _ := by
    obtain ⟨n, rfl, _, hw⟩ := DataW.trod_int ht.eq h
    exact ⟨n, rfl, wfI64 hw⟩
instance OpenT.bool [ht : TBool P t] : OpenT P t Bool where
  open_ h _ := by
    obtain ⟨n, rfl, _⟩ := DataW.trod_bool ht.eq h
    exact ⟨n, rfl⟩
instance OpenT.str [ht : TStr P t] : OpenT P t ByteArray where
  open_ h hs := by
    obtain ⟨s, rfl, rfl, hw⟩ := DataW.trod_string ht.eq h
    refine ⟨s, rfl, ?_⟩
    have h1 : s.data.toList.length ≤ 140737488351232 := hs _ (by rw [DataW.weights]; exact List.mem_singleton.2 rfl)
    have e : s.data.toList.length = s.size := Array.length_toList
    omega
theorem mem_weightsAll {H : Type} {d : DataW H} : ∀ {ds : List (DataW H)}, d ∈ ds → ∀ n ∈ d.weights P e, n ∈ DataW.weightsAll P e ds := by
  intro ds
  induction ds with
  | nil => intro h; cases h
  | cons x ds ih =>
    intro h n hn
    rw [DataW.weightsAll, List.mem_append]
    rcases List.mem_cons.1 h with h | h
    · subst h; exact .inl hn
    · exact .inr (ih h n hn)
theorem cellsOf_sz {s : Nat} (h : szOf P t = some s) : P.cellsOf t = s := by unfold szOf at h; unfold Program.cellsOf; rw [h]; rfl
theorem OpenT.slice {α : Type} [Rep α] {s by_ : Nat} [ht : TSlice P t e] [it : OpenT P e α] [hs0 : TSz P e s] [hb0 : TBytes P e by_] (hz0 : Nat.beq s (Rep.sz α) = true := by rfl) (hpos : 0 < Rep.sz α := by decide) (hby : 0 < by_ := by decide) : OpenT P t (List α) where
  open_ := by
    have hz : P.cellsOf e = Rep.sz α := (cellsOf_sz hs0.eq).trans (Nat.eq_of_beq_eq_true hz0)
    have hb : 0 < P.bytesOf e := by unfold Program.bytesOf; rw [hb0.eq]; exact hby
    intro H enc w base sp held fuel cs x h hs
    rcases DataW.trod_slice ht.eq h with ⟨rfl, _⟩ | ⟨a, len, cap, elems, rest, n, _, rfl, hx, hbase, hl, hm, hlen, hel, _⟩
    · exact ⟨[], _, rfl, RepL.nil _ _ _⟩
    · subst hx
      rw [DataW.weights, ht.eq] at hs
      simp only [List.length_map] at hs
      have hw0 : (elems.length + rest.length) * P.bytesOf e ≤ 140737488351232 := hs _ (by simp)
      have hlen47 : len ≤ 140737488355328 := by
        have : len * 1 ≤ (elems.length + rest.length) * P.bytesOf e := Nat.mul_le_mul (by omega) hb
        omega
      have each : ∀ i, i < len → ∃ (vs : List Value) (d : α), (∀ j, j < Rep.sz α → w.cell? ((a.add (i * Rep.sz α)).add j) = vs[j]?) ∧ vs.length = Rep.sz α ∧ Rep.rep (hp w) vs d := by
        intro i hi
        have h1 := hel i hi
        rw [hz] at h1
        have hi' : i < elems.length := by omega
        rw [List.getElem?_eq_getElem hi', Option.bind_eq_some_iff] at h1
        obtain ⟨vs, h2, h3⟩ := h1
        obtain ⟨_, h4, h5⟩ := World.cells?_some h2
        obtain ⟨d, hd⟩ := it.open_ h3 (fun m hm => hs m (by
          simp only [List.mem_cons, List.mem_append]
          right; left
          exact mem_weightsAll (List.mem_map.2 ⟨elems[i], List.getElem_mem _, rfl⟩) m hm))
        exact ⟨vs, d, h5, h4, hd⟩
      have key : ∀ m, m ≤ len → ∃ l : List α, l.length = m ∧ ∀ i (h : i < l.length), ∃ vs : List Value, (∀ j, j < Rep.sz α → w.cell? ((a.add (i * Rep.sz α)).add j) = vs[j]?) ∧ vs.length = Rep.sz α ∧ Rep.rep (hp w) vs l[i] := by
        intro m
        induction m with
        | zero => intro _; exact ⟨[], rfl, fun i h => by simp at h⟩
        | succ m ih =>
          intro hm'
          obtain ⟨l, h1, h2⟩ := ih (by omega)
          obtain ⟨vs, d, g1, g2, g3⟩ := each m (by omega)
          refine ⟨l ++ [d], by simp [h1], fun i hi => ?_⟩
          by_cases e : i < l.length
          · obtain ⟨vs', k1, k2, k3⟩ := h2 i e
            exact ⟨vs', k1, k2, by rw [List.getElem_append_left e]; exact k3⟩
          · have : i = m := by simp at hi; omega
            subst this
            refine ⟨vs, g1, g2, ?_⟩
            have e2 : (l ++ [d])[i]'hi = d := by rw [List.getElem_append_right (by omega)]; simp
            rw [e2]; exact g3
      obtain ⟨l, h1, h2⟩ := key len (Nat.le_refl _)
      refine ⟨l, _, rfl, by omega, some a, cap, by rw [h1], by omega, fun hn => ?_⟩
      have h0 : 0 < l.length := List.length_pos_iff.2 hn
      have hspot : a.spot = none := by
        obtain ⟨vs, k1, k2, _⟩ := h2 0 h0
        have := k1 0 hpos
        rw [Nat.zero_mul] at this
        simp only [Addr.add, if_true] at this
        unfold World.cell? at this
        rw [List.getElem?_eq_getElem (by omega)] at this
        cases hsp : a.spot with
        | none => rfl
        | some s => rw [hsp] at this; cases hb : w.heap[a.block]? with
          | none => rw [hb] at this; simp at this
          | some o => rw [hb] at this; cases o <;> simp at this
      obtain ⟨b, o, spot⟩ := a
      simp only at hspot
      subst hspot
      refine ⟨b, o, rfl, fun i hi => ?_⟩
      obtain ⟨vs, k1, k2, k3⟩ := h2 i hi
      refine ⟨vs, fun j hj => ?_, k3⟩
      rw [PH.cell_world, ← k1 j hj, add_off, add_off]
theorem OpenT.fields {H : Type} {enc : TypeId × Value → H} {w : World} {base : Nat} {sp : Nat → Bool} {held : Bool} {fuel : Nat} {cs : List Value} {x : DataW H × List MemPlace} {fs : Array Field} (ht : P.underlying t = some (.struct fs))
    (h : DataW.trod enc P w base sp held fuel t cs = some x) (hs : Sized (x.1.weights P t)) :
    cs.length = P.cellsOf t ∧ ∀ (i τ off s : Nat) (α : Type) [Rep α] [OpenT P τ α] [TSz P τ s], (fs[i]?).map (fun f => (f.type, f.offset)) = some (τ, off) → ∃ a : α, Rep.rep (hp w) ((cs.drop off).take s) a := by
  obtain ⟨xs, n, _, rfl, hl, hxs, hf⟩ := DataW.trod_struct ht h
  refine ⟨hl, fun i τ off s α _ ho hsz hfi0 => ?_⟩
  rw [Option.map_eq_some_iff] at hfi0
  obtain ⟨f, hfi, e⟩ := hfi0
  injection e with e1 e2
  subst e1; subst e2
  have h1 := hf i f hfi
  rw [cellsOf_sz hsz.eq] at h1
  have hi : i < xs.length := by rw [hxs]; exact (Array.getElem?_eq_some_iff.1 hfi).1
  rw [List.getElem?_eq_getElem hi] at h1
  refine ho.open_ h1 fun m hm => hs m ?_
  rw [DataW.weights, ht]
  exact DataW.weights_mem_each (j := i) (t := f.type) (d := xs[i].1) (by rw [List.getElem?_map]; simp [hfi]) (by rw [List.getElem?_map, List.getElem?_eq_getElem hi]; rfl) m hm
theorem OpenT.arg {α : Type} [Rep α] {H : Type} {enc : TypeId × Value → H} {w : World} {base : Nat} {sp : Nat → Bool} {held : Bool} {v : Value} {d : DataW H} {ps : List MemPlace} {ts : List TypeId} {ds : List (DataW H)} {j : Nat} (o : OpenT P t α)
    (h : DataW.Trod enc P w base sp held t v d ps) (hs : (DataW.weightsEach P ts ds).all (· ≤ reachBytes) = true) (ht : ts[j]? = some t) (hd : ds[j]? = some d) : ∃ a : α, Rep.rep (hp w) v.cells.toList a := by
  obtain ⟨fuel, hf⟩ := h
  refine o.open_ hf fun n hn => ?_
  have := List.all_eq_true.1 hs n (DataW.weights_mem_each ht hd n hn)
  exact of_decide_eq_true this
end
end Go.JW
namespace Go.Proofs.YtaokfeonmgpjcaaGreatDoor
open Go.JW Go.RowKit

instance : OpenT Tryz.prog 33 (List ByteArray) := OpenT.slice
instance : OpenT Tryz.prog 22 (List Int) := OpenT.slice
structure VecD where
  cpu : Int
  mem : Int
instance : Rep VecD where
  sz := 2
  rep _ cs p := cs = [.int .i64 p.cpu, .int .i64 p.mem] ∧ I64 p.cpu ∧ I64 p.mem
  len h := by obtain ⟨rfl, _⟩ := h; rfl
  one h := by obtain ⟨rfl, _⟩ := h; rfl
  mono h _ := h
theorem len2 {l : List Value} (h : l.length = 2) : ∃ a b, l = [a, b] := by
  match l, h with
  | [a, b], _ => exact ⟨a, b, rfl⟩
instance : OpenT Tryz.prog 32 VecD where
  open_ h hs := by
    obtain ⟨hl, hf⟩ := OpenT.fields Tryz.underlying32 h hs
    rw [show Tryz.prog.cellsOf 32 = 2 by kernel_rfl] at hl
    obtain ⟨c0, c1, rfl⟩ := len2 hl
    obtain ⟨a0, h0, i0⟩ := hf 0 3 0 _ Int rfl
    obtain ⟨a1, h1, i1⟩ := hf 1 3 1 _ Int rfl
    simp at h0 h1
    subst h0; subst h1
    exact ⟨⟨a0, a1⟩, rfl, i0, i1⟩
theorem len7 {l : List Value} (h : l.length = 7) : ∃ a b c d e f g, l = [a, b, c, d, e, f, g] := by
  match l, h with
  | [a, b, c, d, e, f, g], _ => exact ⟨a, b, c, d, e, f, g, rfl⟩
theorem len6 {l : List Value} (h : l.length = 6) : ∃ a b c d e f, l = [a, b, c, d, e, f] := by
  match l, h with
  | [a, b, c, d, e, f], _ => exact ⟨a, b, c, d, e, f, rfl⟩
instance : OpenT Tryz.prog 35 PodD where
  open_ h hs := by
    obtain ⟨hl, hf⟩ := OpenT.fields Tryz.underlying35 h hs
    rw [show Tryz.prog.cellsOf 35 = 7 by kernel_rfl] at hl
    obtain ⟨c0, c1, c2, c3, c4, c5, c6, rfl⟩ := len7 hl
    obtain ⟨a0, h0, i0⟩ := hf 0 9 0 _ ByteArray rfl
    obtain ⟨a1, h1, i1⟩ := hf 1 3 1 _ Int rfl
    obtain ⟨a2, h2, i2⟩ := hf 2 32 2 _ VecD rfl
    obtain ⟨a3, v3, h3, i3⟩ := hf 3 33 4 _ (List ByteArray) rfl
    obtain ⟨a4, v4, h4, i4⟩ := hf 4 33 5 _ (List ByteArray) rfl
    obtain ⟨a5, h5⟩ := hf 5 4 6 _ Bool rfl
    have h5' : _ = _ := h5
    simp at h0 h1 h2 h3 h4 h5'
    obtain ⟨h2, h2'⟩ := h2
    subst h0; subst h1; subst h2; subst h2'; subst h3; subst h4; subst h5'
    exact ⟨⟨a0, a1, a2.cpu, a2.mem, a3, a4, a5⟩, _, _, rfl, i0, i1, i2.1, i2.2, i3, i4⟩
instance : OpenT Tryz.prog 93 NodeD where
  open_ h hs := by
    obtain ⟨hl, hf⟩ := OpenT.fields Tryz.underlying93 h hs
    rw [show Tryz.prog.cellsOf 93 = 6 by kernel_rfl] at hl
    obtain ⟨c0, c2, c3, c4, c5, c6, rfl⟩ := len6 hl
    obtain ⟨a0, h0, i0⟩ := hf 0 9 0 _ ByteArray rfl
    obtain ⟨a2, h2, i2⟩ := hf 1 32 1 _ VecD rfl
    obtain ⟨a3, v3, h3, i3⟩ := hf 2 33 3 _ (List ByteArray) rfl
    obtain ⟨a4, v4, h4, i4⟩ := hf 3 33 4 _ (List ByteArray) rfl
    obtain ⟨a5, h5⟩ := hf 4 4 5 _ Bool rfl
    have h5' : _ = _ := h5
    simp at h0 h2 h3 h4 h5'
    obtain ⟨h2, h2'⟩ := h2
    subst h0; subst h2; subst h2'; subst h3; subst h4; subst h5'
    exact ⟨⟨a0, a2.cpu, a2.mem, a3, a4, a5⟩, _, _, rfl, i0, i2.1, i2.2, i3, i4⟩
instance : OpenT Tryz.prog 26 (List PodD) := OpenT.slice
instance : OpenT Tryz.prog 28 GangD where
  open_ h hs := by
    obtain ⟨hl, hf⟩ := OpenT.fields Tryz.underlying28 h hs
    rw [show Tryz.prog.cellsOf 28 = 2 by kernel_rfl] at hl
    obtain ⟨c0, c1, rfl⟩ := len2 hl
    obtain ⟨a0, h0, i0⟩ := hf 0 3 0 _ Int rfl
    obtain ⟨a1, v1, h1, i1⟩ := hf 1 26 1 _ (List PodD) rfl
    simp at h0 h1
    subst h0; subst h1
    exact ⟨⟨a0, a1⟩, _, rfl, i0, i1⟩
end Go.Proofs.YtaokfeonmgpjcaaGreatDoor
