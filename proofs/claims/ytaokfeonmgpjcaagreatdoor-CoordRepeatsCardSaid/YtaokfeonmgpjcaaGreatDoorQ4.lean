/- The base of the walks: rules, contracts, plain laws, part 4. -/
import Derived.Test.YtaokfeonmgpjcaaGreatDoorQ3
namespace Go.Proofs.YtaokfeonmgpjcaaGreatDoor
open Go.JW Go.RowKit
theorem contI_c (l : List Int) (v : Value) (x : Int) (w : World) (h : RepL (hp w) v l) : Calls Tryz.prog 56 #[v, .int .i64 x] w fun e w' => e = .returned (.bool (decide (x ∈ l))) ∧ Below w.heap.size w w' := by
  have hl := h.1
  obtain ⟨a, c, rfl⟩ := h.form
  by_cases hn : l = []
  · subst hn
    exact (Tryz.slices_Contains_int_empty a c x w).mono fun e w' ⟨h1, h2⟩ => ⟨by rw [h1]; simp, by rw [h2]; exact Below.refl _ _⟩
  · obtain ⟨b, o, rfl, hr⟩ := h.addr hn
    refine (Tryz.slices_Contains_int b o l.length c l x w (Nat.le_refl _) (by omega) fun j hj => ?_).mono fun e w' ⟨h1, h2⟩ => ⟨by rw [h1, List.take_length]; simp, by rw [h2]; exact Below.refl _ _⟩
    have := (hr.int j hj).1
    rw [← PH.cell_world, List.getD_eq_getElem?_getD, List.getElem?_eq_getElem hj]; simpa using this
section
variable {c : CoD} {g : GgD} {m : MsgD}
theorem get_ask (h : m.kind = 7) : getP c m = (c, askP c m) := if_pos h
theorem get_none (h : ¬ m.kind = 7) (hf : findP c.gs m.gang = none) : getP c m = (c, []) := by unfold getP; rw [if_neg h, hf]
theorem get_not (h : ¬ m.kind = 7) (hf : findP c.gs m.gang = some g) (hm : m.frm ∉ g.peers) : getP c m = (c, []) := by unfold getP; rw [if_neg h, hf]; exact if_neg hm
theorem get_some (h : ¬ m.kind = 7) (hf : findP c.gs m.gang = some g) (hm : m.frm ∈ g.peers) : getP c m = (⟨modP c.gs m.gang fun g => (getG g m).1, c.rs ++ (getG g m).2.1⟩, (getG g m).2.2) := by unfold getP; rw [if_neg h, hf]; exact if_pos hm
theorem get_held (h : m.kind = 2) : getG g m = (if g.at_ = 1 then (answeredP g m).1 else g, [], if g.at_ = 1 then (answeredP g m).2.2 else []) := by
  unfold getG
  rw [if_pos h]
  split
  · rename_i e
    unfold answeredP
    rw [if_pos e]
    split
    · rfl
    · split <;> rfl
  · rfl
theorem get_vote (h : m.kind = 4) : getG g m = (voteG g m, (if g.at_ = 2 then (answeredP g m).2.1 else []), voteM g m) := by
  unfold getG voteG voteM
  rw [if_neg (by omega), if_pos h]
  split
  · rfl
  · split <;> rfl
theorem get_done (h : m.kind = 6 ∨ m.kind = 10) : getG g m = (doneG m g, [], []) := by
  unfold getG doneG
  rw [if_neg (by omega), if_neg (by omega)]
  by_cases e : g.at_ = 3 ∨ g.at_ = 4
  · have e5 : ¬ g.at_ = 5 := by omega
    rcases h with h | h
    · simp [h, e]
    · simp [h, e, e5]
  · by_cases e5 : g.at_ = 5
    · rcases h with h | h <;> simp [h, e5]
    · rcases h with h | h <;> simp [h, e, e5]
theorem get_other (h2 : ¬ m.kind = 2) (h4 : ¬ m.kind = 4) (h6 : ¬ m.kind = 6) (h10 : ¬ m.kind = 10) : getG g m = (g, [], []) := by
  unfold getG
  rw [if_neg h2, if_neg h4, if_neg h6, if_neg h10]
end
section
variable {f : FuncId} {R : Ending → World → Prop} {k : List Item} {nn : Nat} {fr : Nat → Value} {w0 : World} {M : Nat → Prop} {σ : PH} {K : List HP} {b tb : Nat} {n : Int} {gs : List GgD} {T : HP}
theorem RS.openCoL (L : List HP) (h : ∀ mb es ck l xs, fsts xs = gs → l.Perm (prs xs) → MapOk σ es ck l → RS Tryz.prog f R k nn fr w0 M σ (coB b n tb mb :: blk mb (.map es ck) :: (L ++ (gas xs ++ K)))) : RS Tryz.prog f R k nn fr w0 M σ (L ++ coHP b n tb gs :: K) :=
  ⟨fun w hw => by
    obtain ⟨mb, es, ck, l, xs, h1, h2, h3, h4⟩ := Go.Proofs.YtaokfeonmgpjcaaGreatDoor.openCo (K := L ++ K) (hw.weak fun _ h => SepIn.perm List.perm_middle h)
    exact (h mb es ck l xs h1 h2 h3).out w (h4.weak fun _ h => SepIn.cons_sub (fun _ h => SepIn.cons_sub (fun _ h => SepIn.perm (List.perm_append_comm_assoc _ _ _) h) h) h)⟩
theorem closeCoL (L : List HP) {w : World} {mb ck : Nat} {es : Array MapEntry} {l : List (Int × PtrD)} {xs : List GX} (h1 : fsts xs = gs) (h2 : l.Perm (prs xs)) (h3 : MapOk σ es ck l) (hw : Sat w0 M σ (coB b n tb mb :: blk mb (.map es ck) :: (L ++ (gas xs ++ K))) w) : Sat w0 M σ (coHP b n tb gs :: (L ++ K)) w :=
  closeCo h1 h2 h3 (hw.weak fun _ h => SepIn.cons_sub (fun _ h => SepIn.cons_sub (fun _ h => SepIn.perm (List.perm_append_comm_assoc _ _ _) h) h) h)
end
section
variable {w0 : World} {M : Nat → Prop} {σ : PH} {K : List HP} {bc tb : Nat} {sh : Int} {c : CoD} {m : MsgD}
theorem get_s (v1 v2 : Value) (h1 : RepL σ v1 m.pods) (h2 : RepL σ v2 m.peers) (h4 : I64 m.frm) (h5 : I64 m.gang) (hc : CoOk c) (ho : Oks c.rs) (hl : c.rs.length ≤ 900) (hL : LibAt σ) (w : World) (hw : Sat w0 M σ (coHP bc sh tb c.gs :: tapHP tb c.rs c.rs.length :: K) w) :
    Calls Tryz.prog 30 #[.pointer (some ⟨bc, 0, none⟩), .agg (List.toArray (msgC m v1 v2))] w fun e w' => ∃ v σ', PH.le σ σ' ∧ RepL σ' v (getP c m).2 ∧ e = .returned v ∧ Sat w0 M σ' (coHP bc sh tb (getP c m).1.gs :: tapHP tb (getP c m).1.rs (getP c m).1.rs.length :: K) w' := by
  obtain ⟨ap, cp, rfl⟩ := h1.form
  obtain ⟨aq, cq, rfl⟩ := h2.form
  obtain ⟨msg, hmsg⟩ : ∃ x, x = msgC m (.slice ap m.pods.length cp) (.slice aq m.peers.length cq) := ⟨_, rfl⟩
  refine RS.enterK Tryz.func30 Tryz.ntmps30 rfl rfl hw ?_
  refine zN ?_; refine box_ (v := .agg _) (cs := [_, _, _, _, _, _, _]) (fun b3 => ?_); refine asL ?_; refine LS.done ?_
  refine zN ?_; refine fld ?_; refine ld1 (v := .int _ _) ?_; refine eqI ?_; refine LS.done ?_
  refine zN ?_
  by_cases h7 : m.kind = 7
  · refine RS.condT ?_ (h := by simp [h7])
    refine zN ?_; refine mvP ?_; refine ldA (vs := msgC m (.slice ap m.pods.length cp) (.slice aq m.peers.length cq)) ?_
    refine callQ (fun v σ' => RepL σ' v (askP c m)) (coHP bc sh tb c.gs :: tapHP tb c.rs c.rs.length :: K) (fun v11 σ1 k1 h11 => ?_) (hc := fun w' hw => ask_s (c := c) _ _ h1 h2 h4 h5 hc w' (hw.ar _))
    obtain ⟨a11, c11, rfl⟩ := h11.form
    refine asL ?_; refine LS.done ?_
    refine zN ?_; refine RS.ret1 (v := .slice _ _ _) Tryz.func30 fun w hw => ?_
    rw [get_ask h7]
    exact ⟨_, σ1, k1, h11, rfl, hw⟩
  · refine RS.condF ?_ (h := by simp [h7])
    refine RS.ar (tapHP tb c.rs c.rs.length :: msB b3 m (.slice ap m.pods.length cp) (.slice aq m.peers.length cq) :: coHP bc sh tb c.gs :: K) ?_
    obtain ⟨gs, rs⟩ := c
    have hi := hc.ids
    have hok := hc.gs
    dsimp only at hi hok ho hl
    refine RS.openCoL [tapHP tb rs rs.length, msB b3 m (.slice ap m.pods.length cp) (.slice aq m.peers.length cq)] (fun mb es ck l xs hxs hp hm => ?_)
    dsimp only at hxs
    subst hxs
    obtain ⟨L0, L1⟩ := look_g hm hp hi m.gang
    refine RS.to (K' := coB bc sh tb mb :: blk mb (.map es ck) :: tapHP tb rs rs.length :: msB b3 m (.slice ap m.pods.length cp) (.slice aq m.peers.length cq) :: (gas xs ++ K)) ?_ ⟨fun h => h⟩
    cases hf : findP (fsts xs) m.gang with
    | none =>
      refine zD ?_; refine RS.draw [.free, .free, .free, .ex, .free, .ex, .ex, .free] [coB bc sh tb mb, blk mb (.map es ck), msB b3 m (.slice ap m.pods.length cp) (.slice aq m.peers.length cq)] ?_ (by kernel_rfl) (by kernel_rfl) (by infer_instance); refine D.mvP ?_; refine D.nilck ?_; refine D.fld ?_; refine D.ld1 (v := .map _) ?_; refine D.fld ?_; refine D.ld1 (v := .int _ _) ?_; refine D.lk (bm := mb) m.gang hm ?_; rw [L0 hf]; refine D.asP ?_; refine D.done (fun us σ1 hle1 hfs => ?_)
      refine RS.ow ?_
      have k1 := hle1
      refine zD ?_; refine RS.drawG [(21, some true)] [.free, .free, .free, .free, .free, .free, .free, .free, .free, .free, .free, .free] _ ?_ (by kernel_rfl) (by kernel_rfl) (by kernel_rfl) ⟨fun h => h⟩; simp only [ers, ersO, onOff, glook, nthO, List.map_cons, List.map_nil, Option.bind_some, Option.map_some, Nat.beq, cond_true, BEq.beq]; refine D.mvP ?_; refine D.bin_eql_P ?_; refine D.mvB ?_; refine D.as_ (v := undef) ?_; refine D.as_ (v := undef) ?_; refine D.as_ (v := undef) ?_; refine D.as_ (v := undef) ?_; refine D.as_ (v := undef) ?_; refine D.as_ (v := undef) ?_; refine D.as_ (v := undef) ?_; refine D.as_ (v := undef) ?_; refine D.pk (v := .bool _) ?_; refine D.doneG [(21, some true)] ⟨⟨rfl, rfl⟩, trivial⟩ (fun us σ1 hle1 hfs => ?_)
      refine RS.ow ?_
      have k2 := PH.le_trans k1 hle1
      refine zN ?_; refine RS.condT ?_
      refine zN ?_; refine asL ?_; refine LS.done ?_
      refine zN ?_; refine RS.ret1 (v := .slice _ _ _) Tryz.func30 fun w hw => ?_
      rw [get_none h7 hf]
      exact ⟨_, _, k2, RepL.nil _ _ _, rfl, (closeCoL (K := K) [tapHP tb rs rs.length, msB b3 m (.slice ap m.pods.length cp) (.slice aq m.peers.length cq)] rfl hp (hm.mono k2) hw).weak fun _ h => SepIn.cons_sub (fun _ h => SepIn.cons_sub (fun _ h => h.tail) h) h⟩
    | some g =>
      obtain ⟨x1, b, x2, rfl, e2, e3⟩ := L1 g hf
      have hg := hok g (by rw [fsts_mid]; simp)
      have hpl := hg.few2
      refine zD ?_; refine RS.draw [.free, .free, .free, .ex, .free, .ex, .ex, .free] [coB bc sh tb mb, blk mb (.map es ck), msB b3 m (.slice ap m.pods.length cp) (.slice aq m.peers.length cq)] ?_ (by kernel_rfl) (by kernel_rfl) (by infer_instance); refine D.mvP ?_; refine D.nilck ?_; refine D.fld ?_; refine D.ld1 (v := .map _) ?_; refine D.fld ?_; refine D.ld1 (v := .int _ _) ?_; refine D.lk (bm := mb) m.gang hm ?_; rw [e3]; refine D.asP ?_; refine D.done (fun us σ1 hle1 hfs => ?_)
      refine RS.ow ?_
      have k1 := hle1
      refine RS.to (K' := gaHP b g :: coB bc sh tb mb :: blk mb (.map es ck) :: tapHP tb rs rs.length :: msB b3 m (.slice ap m.pods.length cp) (.slice aq m.peers.length cq) :: (gas (x1 ++ x2) ++ K)) ?_ ⟨outGL [_, _, _, _]⟩
      refine RS.openGa (fun bm aid vp vq es2 ck2 wl hgf => ?_)
      obtain ⟨T, y, hst⟩ := stV_iface g
      rw [hst]
      have hvq := hgf.vq
      obtain ⟨aq2, cq2, rfl⟩ := hvq.form
      refine zD ?_; refine RS.drawG [(21, some false)] [.free, .free, .free, .free, .free, .free, .ex, .free, .ex, .ex, .free, .free] [gaB b bm g.id aid vp (.slice aq2 g.peers.length cq2) (.iface T y), msB b3 m (.slice ap m.pods.length cp) (.slice aq m.peers.length cq)] ?_ (by kernel_rfl) (by kernel_rfl) (by kernel_rfl) ⟨fun h => (inferInstance : Less _ _).get h⟩; simp only [ers, ersO, onOff, glook, nthO, List.map_cons, List.map_nil, Option.bind_some, Option.map_some, Nat.beq, cond_true, BEq.beq]; refine D.mvP ?_; refine D.bin_eql_P ?_; refine D.mvB ?_; refine D.mvP ?_; refine D.nilck ?_; refine D.fld ?_; refine D.ld1 (v := .slice _ _ _) ?_; refine D.fld ?_; refine D.ld1 (v := .int _ _) ?_
      refine D.callP ?_ (hc := fun _ σ' w hle _ hw => contI_c g.peers _ m.frm w (hvq.mono (PH.le_trans hle hw.imm)))
      refine D.not_ ?_; refine D.pk (v := .bool _) ?_; refine D.doneG [(21, some false)] ⟨⟨rfl, rfl⟩, trivial⟩ (fun us σ1 hle1 hfs => ?_)
      refine RS.ow ?_
      have k2 := PH.le_trans k1 hle1
      have hgf2 := hgf.mono hle1
      rw [← hst]
      refine RS.closeGa hgf2 ?_
      have hL2 := hL.mono k2
      refine zN ?_
      by_cases hmem : m.frm ∈ g.peers
      · refine RS.condF ?_ (h := by simp [hmem])
        refine zN ?_; refine fld ?_; refine ld1 (v := .int _ _) ?_; refine LS.done ?_
        refine zN ?_; refine eqI ?_; refine asB ?_; refine LS.done ?_
        refine zN ?_
        by_cases q2 : m.kind = 2
        · refine RS.condT ?_ (h := by simp [q2])
          refine zN ?_; refine mvP ?_; refine mvP ?_; refine ldA (vs := msgC m (.slice ap m.pods.length cp) (.slice aq m.peers.length cq)) ?_
          refine callQ (fun v σ' => RepL σ' v (if g.at_ = 1 then (answeredP g m).2.2 else [])) (gaHP b (if g.at_ = 1 then (answeredP g m).1 else g) :: coB bc sh tb mb :: blk mb (.map es ck) :: tapHP tb rs rs.length :: msB b3 m (.slice ap m.pods.length cp) (.slice aq m.peers.length cq) :: (gas (x1 ++ x2) ++ K)) (fun v38 σ1 k3 h38 => ?_) (hc := fun w' hw => held_s m _ _ bc (h1.mono k2) (h2.mono k2) hg w' hw)
          obtain ⟨a38, c38, rfl⟩ := h38.form
          refine asL ?_; refine LS.done ?_
          refine zN ?_; refine RS.ret1 (v := .slice _ _ _) Tryz.func30 fun w hw => ?_
          rw [get_some h7 hf hmem]
          refine ⟨_, σ1, PH.le_trans k2 k3, by rw [get_held q2]; exact h38, rfl, ?_⟩
          refine Sat.weak (closeCoL (K := K) [tapHP tb (rs ++ (getG g m).2.1) (rs ++ (getG g m).2.1).length, msB b3 m (.slice ap m.pods.length cp) (.slice aq m.peers.length cq)] (mb := mb) (l := l) (xs := x1 ++ ((getG g m).1, b) :: x2) (by rw [fsts_modP (f := fun g => (getG g m).1) hi, e2]) (by rw [prs_mod (g := g) (g' := (getG g m).1) (getG_id m g)]; exact hp) (hm.mono (PH.le_trans k2 k3)) ?_) (fun _ h => SepIn.cons_sub (fun _ h => SepIn.cons_sub (fun _ h => h.tail) h) h)
          refine Sat.weak (K := gaHP b (getG g m).1 :: coB bc sh tb mb :: blk mb (.map es ck) :: tapHP tb (rs ++ (getG g m).2.1) (rs ++ (getG g m).2.1).length :: msB b3 m (.slice ap m.pods.length cp) (.slice aq m.peers.length cq) :: (gas (x1 ++ x2) ++ K)) ?_ (fun _ h => inGL [_, _, _, _] h)
          rw [get_held q2]; simp only [List.append_nil]; exact hw
        · refine RS.condF ?_ (h := by simp [q2])
          refine zN ?_; refine eqI ?_; refine asB ?_; refine LS.done ?_
          refine zN ?_
          by_cases q4 : m.kind = 4
          · refine RS.condT ?_ (h := by simp [q4])
            refine zN ?_; refine mvP ?_; refine mvP ?_; refine ldA (vs := msgC m (.slice ap m.pods.length cp) (.slice aq m.peers.length cq)) ?_
            refine callQ (fun v σ' => RepL σ' v (voteM g m)) (gaHP b (voteG g m) :: coB bc sh tb mb :: blk mb (.map es ck) :: tapHP tb (voteR rs g m) (voteR rs g m).length :: msB b3 m (.slice ap m.pods.length cp) (.slice aq m.peers.length cq) :: (gas (x1 ++ x2) ++ K)) (fun v44 σ1 k3 h44 => ?_) (hc := fun w' hw => (vote_s (b := b) (tb := tb) (mb := mb) (sh := sh) (bc := bc) (K := blk mb (.map es ck) :: msB b3 m (.slice ap m.pods.length cp) (.slice aq m.peers.length cq) :: (gas (x1 ++ x2) ++ K)) m _ _ (h1.mono k2) (h2.mono k2) h4 hg ho (by omega) hL2 w' (hw.ar _)).mono fun _ _ ⟨v, σ', g1, g2, g3, g4⟩ => ⟨v, σ', g1, g2, g3, g4.ar _⟩)
            obtain ⟨a44, c44, rfl⟩ := h44.form
            refine asL ?_; refine LS.done ?_
            refine zN ?_; refine RS.ret1 (v := .slice _ _ _) Tryz.func30 fun w hw => ?_
            rw [get_some h7 hf hmem]
            refine ⟨_, σ1, PH.le_trans k2 k3, by rw [get_vote q4]; exact h44, rfl, ?_⟩
            refine Sat.weak (closeCoL (K := K) [tapHP tb (rs ++ (getG g m).2.1) (rs ++ (getG g m).2.1).length, msB b3 m (.slice ap m.pods.length cp) (.slice aq m.peers.length cq)] (mb := mb) (l := l) (xs := x1 ++ ((getG g m).1, b) :: x2) (by rw [fsts_modP (f := fun g => (getG g m).1) hi, e2]) (by rw [prs_mod (g := g) (g' := (getG g m).1) (getG_id m g)]; exact hp) (hm.mono (PH.le_trans k2 k3)) ?_) (fun _ h => SepIn.cons_sub (fun _ h => SepIn.cons_sub (fun _ h => h.tail) h) h)
            refine Sat.weak (K := gaHP b (getG g m).1 :: coB bc sh tb mb :: blk mb (.map es ck) :: tapHP tb (rs ++ (getG g m).2.1) (rs ++ (getG g m).2.1).length :: msB b3 m (.slice ap m.pods.length cp) (.slice aq m.peers.length cq) :: (gas (x1 ++ x2) ++ K)) ?_ (fun _ h => inGL [_, _, _, _] h)
            rw [get_vote q4]; exact hw
          · refine RS.condF ?_ (h := by simp [q4])
            refine zN ?_; refine eqI ?_; refine asB ?_; refine LS.done ?_
            refine zN ?_
            by_cases q6 : m.kind = 6
            · refine RS.condT ?_ (h := by simp [q6])
              refine zN ?_; refine RS.condT ?_ (h := by simp [q6])
              refine zN ?_; refine mvP ?_; refine ldA (vs := msgC m (.slice ap m.pods.length cp) (.slice aq m.peers.length cq)) ?_
              refine callQ (fun v _ => v = .tuple #[]) (gaHP b (doneG m g) :: coB bc sh tb mb :: blk mb (.map es ck) :: tapHP tb rs rs.length :: msB b3 m (.slice ap m.pods.length cp) (.slice aq m.peers.length cq) :: (gas (x1 ++ x2) ++ K)) (fun v50 σ1 k3 h50 => ?_) (hc := fun w' hw => done_s m _ _ (h1.mono k2) (h2.mono k2) hg w' hw)
              subst h50
              refine LS.done ?_
              refine zN ?_; refine asL ?_; refine LS.done ?_
              refine zN ?_; refine RS.ret1 (v := .slice _ _ _) Tryz.func30 fun w hw => ?_
              rw [get_some h7 hf hmem]
              refine ⟨_, σ1, PH.le_trans k2 k3, by rw [get_done (.inl q6)]; exact RepL.nil _ _ _, rfl, ?_⟩
              refine Sat.weak (closeCoL (K := K) [tapHP tb (rs ++ (getG g m).2.1) (rs ++ (getG g m).2.1).length, msB b3 m (.slice ap m.pods.length cp) (.slice aq m.peers.length cq)] (mb := mb) (l := l) (xs := x1 ++ ((getG g m).1, b) :: x2) (by rw [fsts_modP (f := fun g => (getG g m).1) hi, e2]) (by rw [prs_mod (g := g) (g' := (getG g m).1) (getG_id m g)]; exact hp) (hm.mono (PH.le_trans k2 k3)) ?_) (fun _ h => SepIn.cons_sub (fun _ h => SepIn.cons_sub (fun _ h => h.tail) h) h)
              refine Sat.weak (K := gaHP b (getG g m).1 :: coB bc sh tb mb :: blk mb (.map es ck) :: tapHP tb (rs ++ (getG g m).2.1) (rs ++ (getG g m).2.1).length :: msB b3 m (.slice ap m.pods.length cp) (.slice aq m.peers.length cq) :: (gas (x1 ++ x2) ++ K)) ?_ (fun _ h => inGL [_, _, _, _] h)
              rw [get_done (.inl q6)]; simp only [List.append_nil]; exact hw
            · refine RS.condF ?_ (h := by simp [q6])
              refine zN ?_; refine eqI ?_; refine asB ?_; refine LS.done ?_
              refine zN ?_
              by_cases q10 : m.kind = 10
              · refine RS.condT ?_ (h := by simp [q10])
                refine zN ?_; refine mvP ?_; refine ldA (vs := msgC m (.slice ap m.pods.length cp) (.slice aq m.peers.length cq)) ?_
                refine callQ (fun v _ => v = .tuple #[]) (gaHP b (doneG m g) :: coB bc sh tb mb :: blk mb (.map es ck) :: tapHP tb rs rs.length :: msB b3 m (.slice ap m.pods.length cp) (.slice aq m.peers.length cq) :: (gas (x1 ++ x2) ++ K)) (fun v50 σ1 k3 h50 => ?_) (hc := fun w' hw => done_s m _ _ (h1.mono k2) (h2.mono k2) hg w' hw)
                subst h50
                refine LS.done ?_
                refine zN ?_; refine asL ?_; refine LS.done ?_
                refine zN ?_; refine RS.ret1 (v := .slice _ _ _) Tryz.func30 fun w hw => ?_
                rw [get_some h7 hf hmem]
                refine ⟨_, σ1, PH.le_trans k2 k3, by rw [get_done (.inr q10)]; exact RepL.nil _ _ _, rfl, ?_⟩
                refine Sat.weak (closeCoL (K := K) [tapHP tb (rs ++ (getG g m).2.1) (rs ++ (getG g m).2.1).length, msB b3 m (.slice ap m.pods.length cp) (.slice aq m.peers.length cq)] (mb := mb) (l := l) (xs := x1 ++ ((getG g m).1, b) :: x2) (by rw [fsts_modP (f := fun g => (getG g m).1) hi, e2]) (by rw [prs_mod (g := g) (g' := (getG g m).1) (getG_id m g)]; exact hp) (hm.mono (PH.le_trans k2 k3)) ?_) (fun _ h => SepIn.cons_sub (fun _ h => SepIn.cons_sub (fun _ h => h.tail) h) h)
                refine Sat.weak (K := gaHP b (getG g m).1 :: coB bc sh tb mb :: blk mb (.map es ck) :: tapHP tb (rs ++ (getG g m).2.1) (rs ++ (getG g m).2.1).length :: msB b3 m (.slice ap m.pods.length cp) (.slice aq m.peers.length cq) :: (gas (x1 ++ x2) ++ K)) ?_ (fun _ h => inGL [_, _, _, _] h)
                rw [get_done (.inr q10)]; simp only [List.append_nil]; exact hw
              · refine RS.condF ?_ (h := by simp [q10])
                refine zN ?_; refine asL ?_; refine LS.done ?_
                refine zN ?_; refine RS.ret1 (v := .slice _ _ _) Tryz.func30 fun w hw => ?_
                rw [get_some h7 hf hmem]
                refine ⟨_, _, k2, by rw [get_other q2 q4 q6 q10]; exact RepL.nil _ _ _, rfl, ?_⟩
                refine Sat.weak (closeCoL (K := K) [tapHP tb (rs ++ (getG g m).2.1) (rs ++ (getG g m).2.1).length, msB b3 m (.slice ap m.pods.length cp) (.slice aq m.peers.length cq)] (mb := mb) (l := l) (xs := x1 ++ ((getG g m).1, b) :: x2) (by rw [fsts_modP (f := fun g => (getG g m).1) hi, e2]) (by rw [prs_mod (g := g) (g' := (getG g m).1) (getG_id m g)]; exact hp) (hm.mono k2) ?_) (fun _ h => SepIn.cons_sub (fun _ h => SepIn.cons_sub (fun _ h => h.tail) h) h)
                refine Sat.weak (K := gaHP b (getG g m).1 :: coB bc sh tb mb :: blk mb (.map es ck) :: tapHP tb (rs ++ (getG g m).2.1) (rs ++ (getG g m).2.1).length :: msB b3 m (.slice ap m.pods.length cp) (.slice aq m.peers.length cq) :: (gas (x1 ++ x2) ++ K)) ?_ (fun _ h => inGL [_, _, _, _] h)
                rw [get_other q2 q4 q6 q10]; simp only [List.append_nil]; exact hw
      · refine RS.condT ?_ (h := by simp [hmem])
        refine zN ?_; refine asL ?_; refine LS.done ?_
        refine zN ?_; refine RS.ret1 (v := .slice _ _ _) Tryz.func30 fun w hw => ?_
        rw [get_not h7 hf hmem]
        refine ⟨_, _, k2, RepL.nil _ _ _, rfl, ?_⟩
        refine Sat.weak (closeCoL (K := K) [tapHP tb rs rs.length, msB b3 m (.slice ap m.pods.length cp) (.slice aq m.peers.length cq)] (mb := mb) (l := l) (xs := x1 ++ (g, b) :: x2) rfl hp (hm.mono k2) ?_) (fun _ h => SepIn.cons_sub (fun _ h => SepIn.cons_sub (fun _ h => h.tail) h) h)
        exact hw.weak fun _ h => inGL [_, _, _, _] h
end
end Go.Proofs.YtaokfeonmgpjcaaGreatDoor
namespace Go.Proofs.YtaokfeonmgpjcaaGreatDoor
open Go.JW Go.RowKit
section
variable {f : FuncId} {R : Ending → World → Prop} {k : List Item} {nn : Nat} {fr : Nat → Value} {w0 : World} {M : Nat → Prop} {σ : PH} {K : List HP} {b tb : Nat} {n : Int} {gs : List GgD}
theorem RS.closeCoL (L : List HP) {mb ck : Nat} {es : Array MapEntry} {l : List (Int × PtrD)} {xs : List GX} (h1 : fsts xs = gs) (h2 : l.Perm (prs xs)) (h3 : MapOk σ es ck l) (h : RS Tryz.prog f R k nn fr w0 M σ (coHP b n tb gs :: (L ++ K))) : RS Tryz.prog f R k nn fr w0 M σ (coB b n tb mb :: blk mb (.map es ck) :: (L ++ (gas xs ++ K))) :=
  ⟨fun w hw => h.out w (Go.Proofs.YtaokfeonmgpjcaaGreatDoor.closeCoL L h1 h2 h3 hw)⟩
end
def tickTo (gs : List GgD) (i : Nat) : List GgD := (gs.take i).map tickG ++ gs.drop i
theorem tickTo_at {gs : List GgD} {i : Nat} (h : i < gs.length) : tickTo gs i = (gs.take i).map tickG ++ gs[i] :: gs.drop (i + 1) := by unfold tickTo; rw [List.drop_eq_getElem_cons h]
theorem tickTo_next {gs : List GgD} {i : Nat} (h : i < gs.length) : tickTo gs (i + 1) = (gs.take i).map tickG ++ tickG gs[i] :: gs.drop (i + 1) := by unfold tickTo; rw [List.take_succ_eq_append_getElem h, List.map_append, List.append_assoc]; rfl
theorem tickTo_ids {gs : List GgD} (h : Ids gs) (i : Nat) : Ids (tickTo gs i) := by
  have e : (tickTo gs i).map (·.id) = gs.map (·.id) := by
    unfold tickTo
    rw [List.map_append, List.map_map, show (fun g : GgD => g.id) ∘ tickG = fun g => g.id from funext tick_id, ← List.map_append, List.take_append_drop]
  have h1 := ids_rise h
  rw [← e] at h1
  exact List.pairwise_map.1 h1
def tickM (gs : List GgD) (i : Nat) : List MsgD := ((gs.take i).map tickG).flatMap allP
theorem tickM_next {gs : List GgD} {i : Nat} (h : i < gs.length) : tickM gs (i + 1) = tickM gs i ++ allP (tickG gs[i]) := by unfold tickM; rw [List.take_succ_eq_append_getElem h, List.map_append, List.flatMap_append]; simp
theorem all_len {g : GgD} (h : GgOk g) : (allP g).length ≤ 8 := by unfold allP; rw [List.length_map]; exact waits_len h
theorem tickM_len {gs : List GgD} (h : ∀ g ∈ gs, GgOk g) : ∀ i, (tickM gs i).length ≤ i * 8
  | 0 => by simp [tickM]
  | i + 1 => by
    by_cases hi : i < gs.length
    · rw [tickM_next hi, List.length_append]
      have := tickM_len h i
      have := all_len (h gs[i] (List.getElem_mem hi)).tick
      omega
    · have e : tickM gs (i + 1) = tickM gs i := by unfold tickM; rw [List.take_of_length_le (by omega), List.take_of_length_le (by omega)]
      rw [e]; have := tickM_len h i; omega
theorem older_yes {g : GgD} (h : olderV g = true) : olderG g = tickG g := by
  unfold olderG tickG
  split
  · rename_i ho
    have h8 : g.age + 1 < 8 := by simpa [olderV, ho] using h
    rw [if_pos h8]
  · rfl
theorem older_no {g : GgD} (h : olderV g = false) : turnP 4 (olderG g) = tickG g := by
  unfold olderV at h
  simp only [Bool.or_eq_false_iff, Bool.not_eq_false', decide_eq_true_eq, decide_eq_false_iff_not] at h
  unfold olderG tickG
  rw [if_pos h.1, if_pos h.1, if_neg h.2]
theorem older_peers (g : GgD) : (olderG g).peers = g.peers := by unfold olderG; split <;> rfl
section
variable {w0 : World} {M : Nat → Prop} {σ : PH} {K : List HP} {bc tb : Nat} {sh : Int} {gs : List GgD}
theorem tick_s (hi : Ids gs) (hok : ∀ g ∈ gs, GgOk g) (hl : gs.length ≤ 900) (w : World) (hw : Sat w0 M σ (coHP bc sh tb gs :: K) w) :
    Calls Tryz.prog 20 #[.pointer (some ⟨bc, 0, none⟩)] w fun e w' => ∃ v σ', PH.le σ σ' ∧ RepL σ' v ((gs.map tickG).flatMap allP) ∧ e = .returned v ∧ Sat w0 M σ' (coHP bc sh tb (gs.map tickG) :: K) w' := by
  refine RS.enterK Tryz.func20 Tryz.ntmps20 rfl rfl hw ?_
  refine zN ?_; refine asL ?_; refine LS.done ?_
  refine zN ?_; refine asL ?_; refine LS.done ?_
  refine zN ?_; refine mvP ?_
  refine callQ (fun v τ => RepL τ v (gs.map (·.id))) (coHP bc sh tb gs :: K) (fun v8 σ1 k1 h8 => ?_) (hc := fun w' hw => gangs_s hi hok (by omega) w' hw)
  obtain ⟨a8, c8, rfl⟩ := h8.form
  have hml : (gs.map (·.id)).length = gs.length := List.length_map _
  refine lenL ?_; refine mvI ?_; refine LS.done ?_
  refine zN ?_
  refine RS.nilD 0 MsgD 51 ?_
  refine RS.loopF (X := Nat × Value × PH) 3 33 (fun x => x.1 ≤ gs.length ∧ PH.le σ1 x.2.2) (fun x => [(3, x.2.1), (8, .slice a8 (gs.map (·.id)).length c8), (9, .int .i64 (gs.map (·.id)).length), (10, .int .i64 x.1)]) (fun x => x.2.2) (fun x => rowD 0 51 x.2.1 (tickM gs x.1) :: coHP bc sh tb (tickTo gs x.1) :: K) (fun x => gs.length - x.1) (0, nilV, σ1) ⟨Nat.zero_le _, PH.le_refl _⟩ ⟨rfl, rfl, rfl, rfl, trivial⟩ rfl ⟨fun h => h⟩ ?_
  rintro ⟨i, v3, σ2⟩ fr ⟨hx, k2⟩ ih
  dsimp only at hx k2
  have htl := tickM_len hok i
  refine zN ?_; refine ltI ?_; refine LS.done ?_
  refine zN ?_
  refine RS.cond (fun c => ?_) (fun c => ?_)
  · have c := of_decide_eq_true c
    have hlt : i < gs.length := by omega
    obtain ⟨b1, o1, rfl, hrow⟩ := h8.addr (fun h => by rw [List.map_eq_nil_iff.1 h] at hlt; exact absurd hlt (Nat.not_lt_zero _))
    obtain ⟨hcell, h64⟩ := (hrow.mono k2).int i (by rw [hml]; exact hlt)
    rw [List.getElem_map] at hcell h64
    have hg := hok gs[i] (List.getElem_mem hlt)
    have e0 := tickTo_at hlt
    have e1 := tickTo_next hlt
    have em := tickM_next hlt
    have hids := tickTo_ids hi i
    obtain ⟨g, hgd⟩ : ∃ g, g = gs[i] := ⟨_, rfl⟩
    rw [← hgd] at hcell h64 hg e0 e1 em
    have hal := all_len hg.tick
    have hfind : findP (tickTo gs i) g.id = some g := by rw [e0] at hids ⊢; exact find_split hids
    have hmod : modP (tickTo gs i) g.id tickG = tickTo gs (i + 1) := by rw [e1]; rw [e0] at hids ⊢; exact mod_split hids
    refine zN ?_; refine idx (i := i) ?_; refine ldS hcell ?_; refine asI ?_; refine LS.done ?_
    refine RS.openCoL [rowD 0 51 v3 (tickM gs i)] (fun mb es ck l xs hxs hp hm => ?_)
    rw [← hxs] at hids hfind hmod
    obtain ⟨L0, L1⟩ := look_g hm hp hids g.id
    obtain ⟨x1, b, x2, rfl, e2, e3⟩ := L1 g hfind
    refine zN ?_; refine mvP ?_; refine nilck ?_; refine fld ?_; refine ld1 (v := .map _) ?_; refine mvI ?_; refine lk (bm := mb) g.id hm ?_; rw [e3]; refine asP ?_; refine LS.done ?_
    refine RS.to (K' := gaHP b g :: coB bc sh tb mb :: blk mb (.map es ck) :: rowD 0 51 v3 (tickM gs i) :: (gas (x1 ++ x2) ++ K)) ?_ ⟨outGL [_, _, _]⟩
    refine zN ?_; refine mvP ?_
    refine callS _ (gaHP b (olderG g) :: coB bc sh tb mb :: blk mb (.map es ck) :: rowD 0 51 v3 (tickM gs i) :: (gas (x1 ++ x2) ++ K)) ?_ (hc := fun w' hw => older_s hg w' hw)
    refine LS.done ?_
    refine zN ?_
    cases hv : olderV g with
    | true =>
      refine RS.condT ?_
      rw [older_yes hv]
      refine zN ?_; refine mv (v := v3) ?_; refine mvP ?_
      refine callQ (fun v τ => RepL τ v (allP (tickG g))) (gaHP b (tickG g) :: coB bc sh tb mb :: blk mb (.map es ck) :: rowD 0 51 v3 (tickM gs i) :: (gas (x1 ++ x2) ++ K)) (fun v24 σ3 k3 h24 => ?_) (hc := fun w' hw => words_s hg.tick w' hw)
      obtain ⟨a24, c24, rfl⟩ := h24.form
      refine appD (v := v3) (l' := allP (tickG g)) (vy := .slice a24 (allP (tickG g)).length c24) (fun w' hw => (srcD hw TSlice.eq h24 (PH.le_refl _)).imp fun news h => ⟨h.1, by rw [fromN_zero]; exact h.2⟩) (fun v25 => ?_) (hb := by omega) (hm := by omega); refine as_ (v := v25) ?_; refine LS.done ?_
      rw [← em]
      refine RS.to (K' := coB bc sh tb mb :: blk mb (.map es ck) :: rowD 0 51 v25 (tickM gs (i + 1)) :: (gas (x1 ++ (tickG g, b) :: x2) ++ K)) ?_ ⟨inGL [_, _, _]⟩
      refine RS.closeCoL (gs := tickTo gs (i + 1)) [rowD 0 51 v25 (tickM gs (i + 1))] (by rw [fsts_modP (f := tickG) hids, hmod]) (by rw [prs_mod (g := g) (g' := tickG g) (tick_id g)]; exact hp) (hm.mono k3) ?_
      refine zN ?_; (first | refine addN ?_ | refine addI ?_); refine mvI ?_; refine LS.done ?_
      refine zN ?_
      exact ih (i + 1, v25, σ3) ⟨by (try dsimp only); omega, PH.le_trans k2 k3⟩ (by (try dsimp only); omega) ⟨rfl, rfl, rfl, rfl, trivial⟩ (by repeat (first | with_reducible exact Out.refl _ _ _ | exact Out.hv | refine Out.upd ?_ | refine Out.hvIn ?_)) ⟨fun h => h.swap⟩ rfl
    | false =>
      refine RS.condF ?_
      have hpe := older_peers g
      refine zN ?_; refine mv (v := v3) ?_; refine mvP ?_; refine bld (vals := []) [] ?_; refine mkC nlV ?_
      refine callQ (fun v τ => RepL τ v (allP (turnP 4 (olderG g)))) (gaHP b (turnP 4 (olderG g)) :: coB bc sh tb mb :: blk mb (.map es ck) :: rowD 0 51 v3 (tickM gs i) :: (gas (x1 ++ x2) ++ K)) (fun v30 σ3 k3 h30 => ?_) (hc := fun w' hw => to_s 4 _ _ (stV4 rfl) (by rw [hpe]; exact ⟨hg.rise, hg.few2⟩) (by rw [older_no hv]; exact hg.tick) w' hw)
      rw [older_no hv] at h30 ⊢
      obtain ⟨a30, c30, rfl⟩ := h30.form
      refine appD (v := v3) (l' := allP (tickG g)) (vy := .slice a30 (allP (tickG g)).length c30) (fun w' hw => (srcD hw TSlice.eq h30 (PH.le_refl _)).imp fun news h => ⟨h.1, by rw [fromN_zero]; exact h.2⟩) (fun v31 => ?_) (hb := by omega) (hm := by omega); refine as_ (v := v31) ?_; refine LS.done ?_
      rw [← em]
      refine RS.to (K' := coB bc sh tb mb :: blk mb (.map es ck) :: rowD 0 51 v31 (tickM gs (i + 1)) :: (gas (x1 ++ (tickG g, b) :: x2) ++ K)) ?_ ⟨inGL [_, _, _]⟩
      refine RS.closeCoL (gs := tickTo gs (i + 1)) [rowD 0 51 v31 (tickM gs (i + 1))] (by rw [fsts_modP (f := tickG) hids, hmod]) (by rw [prs_mod (g := g) (g' := tickG g) (tick_id g)]; exact hp) (hm.mono k3) ?_
      refine zN ?_; (first | refine addN ?_ | refine addI ?_); refine mvI ?_; refine LS.done ?_
      refine zN ?_
      exact ih (i + 1, v31, σ3) ⟨by (try dsimp only); omega, PH.le_trans k2 k3⟩ (by (try dsimp only); omega) ⟨rfl, rfl, rfl, rfl, trivial⟩ (by repeat (first | with_reducible exact Out.refl _ _ _ | exact Out.hv | refine Out.upd ?_ | refine Out.hvIn ?_)) ⟨fun h => h.swap⟩ rfl
  · have c := of_decide_eq_false c
    obtain rfl : i = gs.length := by omega
    refine RS.exit ?_
    have eM : tickM gs gs.length = (gs.map tickG).flatMap allP := by unfold tickM; rw [List.take_length]
    have eT : tickTo gs gs.length = gs.map tickG := by unfold tickTo; rw [List.take_length, List.drop_length, List.append_nil]
    refine RS.to (K' := rowD 0 51 v3 (tickM gs gs.length) :: coHP bc sh tb (tickTo gs gs.length) :: K) ?_ ⟨fun h => h⟩
    rw [eM, eT]
    rw [eM] at htl
    refine RS.freeze0 (l := (gs.map tickG).flatMap allP) v3 (fun σ3 k3 hr3 => ?_) (hl := by omega)
    refine zN ?_; refine mv (v := v3) ?_
    refine callQ (fun v τ => RepL τ v ((gs.map tickG).flatMap allP)) (coHP bc sh tb (gs.map tickG) :: K) (fun v34 σ4 k4 h34 => ?_) (hc := fun w' hw => cloneM_s v3 _ hr3 (by omega) w' hw)
    obtain ⟨a34, c34, rfl⟩ := h34.form
    refine asL ?_; refine LS.done ?_
    refine zN ?_; refine RS.ret1 (v := .slice _ _ _) Tryz.func20 fun w hw => ?_
    exact ⟨_, σ4, PH.le_trans k1 (PH.le_trans k2 (PH.le_trans k3 k4)), h34, rfl, hw⟩
end
end Go.Proofs.YtaokfeonmgpjcaaGreatDoor
namespace Go.Proofs.YtaokfeonmgpjcaaGreatDoor
open Go.JW Go.RowKit

theorem eq_seat (a b : ByteArray) (w : World) : (Op.equalIn 10000 144 (.agg #[.string a]) (.agg #[.string b])).run Tryz.prog w = .ok (decide (a = b)) w := by
  have ht : Tryz.prog.underlying 144 = some (.struct (Tryz.prog.fieldsOf 144)) := by kernel_rfl
  have hf : (Tryz.prog.fieldsOf 144).toList = [⟨"name", 9, 0, false, "", "joinery/spec", 0⟩] := by kernel_rfl
  have hs := run_underlying (P := Tryz.prog) (t := 9) TStr.eq w
  rw [run_equalIn_agg w 9999 _ _ _ ht (by kernel_rfl), hf]
  have hag := run_agg (P := Tryz.prog) (t := 9) w TOne.agg
  simp [Op.eqFields, part, hag, run_equalIn_string w 9998 9 a b TStr.eq]
  have := str_beq a b
  by_cases h : a = b <;> simp_all
def hasN (x : ByteArray) (l : List ByteArray) : Bool := l.any fun y => decide (x = y)
theorem hasN_iff {x : ByteArray} {l : List ByteArray} : hasN x l = true ↔ x ∈ l := by simp [hasN]
theorem ssame_c (x y : ByteArray) (b : Nat) (w : World) (hb : (hp w) b = some (.cells (List.toArray [.string x]) 144 (0, 0))) : Calls Tryz.prog 84 #[.agg #[.string y], .pointer (some ⟨b, 0, none⟩)] w fun e w' => e = .returned (.bool (decide (x = y))) ∧ Below w.heap.size w w' := by
  have hcell : ∀ j, j < 1 → (hp w).cell b (0 + j) = [Value.string x][j]? := by
    intro j hj
    obtain rfl : j = 0 := by omega
    simp [PH.cell, hb]
  refine RS.enter Tryz.func84 Tryz.ntmps84 rfl rfl ?_
  refine zN ?_; refine box_ (v := .agg _) (cs := [_]) (fun b2 => ?_); refine asB ?_; refine LS.done ?_
  refine zN ?_; refine ldSA (vs := [.string x]) rfl hcell ?_; refine ldA [_] ?_; refine eqA (us1 := [.string x]) (us2 := [.string y]) (eq_seat x y) (by kernel_rfl) ?_; refine asB ?_; refine LS.done ?_
  refine zN ?_; refine RS.ret1 (v := .bool _) Tryz.func84 fun w hw => ?_
  exact ⟨rfl, hw.below⟩
theorem sindex_c (l : List ByteArray) (v : Value) (x : ByteArray) (b : Nat) (w : World) (h : RepL (hp w) v l) (hb : (hp w) b = some (.cells (List.toArray [.string x]) 144 (0, 0))) :
    Calls Tryz.prog 119 #[v, .func (.func 84) #[] #[.pointer (some ⟨b, 0, none⟩)]] w fun e w' => ∃ v, e = .returned v ∧ Below w.heap.size w w' ∧ ∃ m : Int, v = .int .i64 m ∧ (0 ≤ m ↔ x ∈ l) := by
  obtain ⟨a, cap, rfl⟩ := h.form
  have hlen : l.length ≤ 140737488355328 := h.1
  refine RS.enter Tryz.func119 Tryz.ntmps119 rfl rfl ?_
  refine zN ?_; refine asI ?_; refine LS.done ?_
  refine zN ?_; refine mvL ?_; refine lenL ?_; refine mvI ?_; refine LS.done ?_
  refine zN ?_
  refine RS.loopF (X := Nat) 5 19 (fun k => k ≤ l.length ∧ x ∉ l.take k) (fun k => [(7, .int .i64 l.length), (8, .int .i64 k)]) (fun _ => hp w) (fun _ => []) (fun k => l.length - k) 0 ⟨by omega, by simp⟩ ⟨rfl, rfl, trivial⟩ rfl inferInstance ?_
  rintro k g ⟨hk, hs⟩ ih
  refine zN ?_; refine ltI ?_; refine LS.done ?_
  refine zN ?_
  by_cases hlt : k < l.length
  · refine RS.condT ?_ (h := by simp; exact hlt)
    obtain ⟨b', o, rfl, hr⟩ := h.addr (fun h => by simp [h] at hlt)
    obtain ⟨hc, hsz⟩ := hr.str k hlt
    have hcell : ∀ j, j < 1 → (hp w).cell b' (o + k * 1 + j) = [Value.string l[k]][j]? := by
      intro j hj
      obtain rfl : j = 0 := by omega
      exact hc
    refine zN ?_; refine mvI ?_; refine asI ?_; refine LS.done ?_
    refine zN ?_; refine mvF ?_; refine mvL ?_; refine mvI ?_; refine idx (i := k) ?_; refine ldSA (vs := [.string l[k]]) rfl hcell ?_
    refine callVP (v := .bool (decide (x = l[k]))) (g := 84) (args := [.agg (List.toArray [.string l[k]])]) (caps := [.pointer (some ⟨b, 0, none⟩)]) ?_ (hc := fun w hw => by simpa using ssame_c x l[k] b w (hw.imm _ _ hb))
    refine LS.done ?_
    refine zN ?_
    refine RS.cond (fun c => ?_) (fun c => ?_)
    · refine zN ?_; refine mvI ?_; refine asI ?_; refine LS.done ?_; refine zN ?_; refine RS.ret1 (v := .int _ _) Tryz.func119 fun w hw => ?_
      simp at c
      exact ⟨_, rfl, hw.below, k, rfl, by subst c; simp⟩
    · refine zN ?_; (first | refine addN ?_ | refine addI ?_); refine mvI ?_; refine LS.done ?_; refine zN ?_
      simp at c
      refine ih (k + 1) ⟨hlt, ?_⟩ (by omega) ⟨rfl, rfl, trivial⟩ (by repeat (first | with_reducible exact Out.refl _ _ _ | exact Out.hv | refine Out.upd ?_ | refine Out.hvIn ?_)) inferInstance rfl
      rw [List.take_add_one, List.getElem?_eq_getElem hlt, List.mem_append]
      simp; exact ⟨hs, c⟩
  · refine RS.condF ?_ (h := by simp; omega)
    obtain rfl : k = l.length := by omega
    refine zN ?_; refine asI ?_; refine LS.done ?_; refine zN ?_; refine RS.ret1 (v := .int _ _) Tryz.func119 fun w hw => ?_
    rw [List.take_length] at hs
    exact ⟨_, rfl, hw.below, -1, rfl, by simp [hs]⟩
theorem scontains_c (l : List ByteArray) (v : Value) (x : ByteArray) (b : Nat) (w : World) (h : RepL (hp w) v l) (hb : (hp w) b = some (.cells (List.toArray [.string x]) 144 (0, 0))) :
    Calls Tryz.prog 83 #[v, .func (.func 84) #[] #[.pointer (some ⟨b, 0, none⟩)]] w fun e w' => e = .returned (.bool (hasN x l)) ∧ Below w.heap.size w w' := by
  obtain ⟨a, cap, rfl⟩ := h.form
  refine RS.enter Tryz.func83 Tryz.ntmps83 rfl rfl ?_
  refine zN ?_; refine asB ?_; refine LS.done ?_
  refine zN ?_; refine mvL ?_; refine mvF ?_
  refine callT (fun v _ => ∃ m : Int, v = .int .i64 m ∧ (0 ≤ m ↔ x ∈ l)) (fun v τ1 σ2 hq hN hle hτ => ?_) (fun w hw => sindex_c l _ x b w (h.mono hw.imm) (hw.imm _ _ hb))
  obtain ⟨m, rfl, hm⟩ := hq
  refine geI ?_; refine asB ?_; refine LS.done ?_
  refine zN ?_; refine RS.ret1 (v := .bool _) Tryz.func83 fun w hw => ?_
  exact ⟨retB (by rw [Bool.eq_iff_iff, hasN_iff, decide_eq_true_eq]; exact hm), hw.below⟩
end Go.Proofs.YtaokfeonmgpjcaaGreatDoor
namespace Go.Proofs.YtaokfeonmgpjcaaGreatDoor
open Go.JW Go.RowKit

def dupB (ns : List ByteArray) : Nat → Bool
  | 0 => false
  | k + 1 => dupB ns k || hasN (ns.getD k ⟨#[]⟩) (ns.take k)
theorem dupB_iff (l : List PodD) : ∀ k, k ≤ l.length → (dupB (l.map PodD.name) k = true ↔ Dup l k) := by
  intro k
  induction k with
  | zero => intro _; simp [dupB, Dup]
  | succ k ih =>
    intro hk
    rw [dupB, Bool.or_eq_true, ih (by omega), hasN_iff]
    have e : (l.map PodD.name).getD k ⟨#[]⟩ = (l[k]'(by omega)).name := by simp [List.getD, show k < l.length by omega]
    rw [e, ← List.map_take, List.mem_map]
    constructor
    · rintro (⟨i, j, h1, h2, hi, hj, h3⟩ | ⟨p, hp, h⟩)
      · exact ⟨i, j, h1, by omega, hi, hj, h3⟩
      · obtain ⟨j, hj, rfl⟩ := List.mem_iff_getElem.1 hp
        rw [List.length_take] at hj
        rw [List.getElem_take] at h
        exact ⟨k, j, by omega, by omega, by omega, by omega, h.symm⟩
    · rintro ⟨i, j, h1, h2, hi, hj, h3⟩
      by_cases hik : i < k
      · exact .inl ⟨i, j, h1, hik, hi, hj, h3⟩
      · obtain rfl : i = k := by omega
        exact .inr ⟨l[j], List.mem_iff_getElem.2 ⟨j, by rw [List.length_take]; omega, by rw [List.getElem_take]⟩, h3.symm⟩
theorem gang_c (cs : List Value) (g : GangD) (s : Int) (w : World) (hr : Rep.rep (hp w) cs g) : Calls Tryz.prog 40 #[.agg cs.toArray, .int .i64 s] w fun e w' => e = .returned (.int .i64 (gangErr g s)) ∧ Below w.heap.size w w' := by
  obtain ⟨v, rfl, hid, hl⟩ := hr
  obtain ⟨a, cap, rfl⟩ := hl.form
  have hlen : g.pods.length ≤ 140737488355328 := hl.1
  refine RS.enter Tryz.func40 Tryz.ntmps40 rfl rfl ?_
  refine zN ?_; refine box_ (v := .agg _) (cs := [_, _]) (fun b2 => ?_); refine asI ?_; refine LS.done ?_
  refine zN ?_
  refine LS.cut 11 20 [(11, .bool (decide (g.id < 1 ∨ 999999 < g.id)))] (fun gg => ?_) (fun J => ?_)
  rotate_left
  · refine fld ?_; refine ld1 (v := .int _ _) ?_; refine ltI ?_; refine mvB ?_
    refine LS.part 15 (fun g1 => ?_) (fun g1 => ?_)
    · refine LS.off ?_; refine LS.off ?_; refine LS.off ?_; refine pk (v := .bool _) ?_; refine asB ?_; refine LS.done ?_
      simp only [decide_eq_true_eq] at g1
      exact J ⟨boolV (by symm; exact decide_eq_true (by omega)), trivial⟩ (by repeat (first | with_reducible exact Out.refl _ _ _ | exact Out.hv | refine Out.upd ?_ | refine Out.hvIn ?_))
    · refine LS.on ?_; refine fld ?_; refine LS.on ?_; refine ld1 (v := .int _ _) ?_; refine LS.on ?_; refine gtI ?_; refine pk (v := .bool _) ?_; refine asB ?_; refine LS.done ?_
      simp only [decide_eq_false_iff_not] at g1
      exact J ⟨boolV (decide_eq_decide.2 (by omega)), trivial⟩ (by repeat (first | with_reducible exact Out.refl _ _ _ | exact Out.hv | refine Out.upd ?_ | refine Out.hvIn ?_))
  refine zN ?_
  refine RS.cond (fun c0 => ?_) (fun c0 => ?_)
  · simp only [decide_eq_true_eq] at c0
    refine zN ?_; refine asI ?_; refine LS.done ?_; refine zN ?_; refine RS.ret1 (v := .int _ _) Tryz.func40 fun w hw => ?_
    exact ⟨retI (by rw [gangErr, if_pos c0]), hw.below⟩
  simp only [decide_eq_false_iff_not] at c0
  refine zN ?_
  refine LS.cut 20 31 [(20, .bool (decide (g.pods.length < 1 ∨ 8 < g.pods.length)))] (fun gg2 => ?_) (fun J => ?_)
  rotate_left
  · refine fld ?_; refine ld1 (v := .slice _ _ _) ?_; refine lenL ?_; refine ltI ?_; refine mvB ?_
    refine LS.part 25 (fun g1 => ?_) (fun g1 => ?_)
    · refine LS.off ?_; refine LS.off ?_; refine LS.off ?_; refine LS.off ?_; refine pk (v := .bool _) ?_; refine asB ?_; refine LS.done ?_
      simp only [decide_eq_true_eq] at g1
      exact J ⟨boolV (by symm; exact decide_eq_true (by omega)), trivial⟩ (by repeat (first | with_reducible exact Out.refl _ _ _ | exact Out.hv | refine Out.upd ?_ | refine Out.hvIn ?_))
    · refine LS.on ?_; refine fld ?_; refine LS.on ?_; refine ld1 (v := .slice _ _ _) ?_; refine LS.on ?_; refine lenL ?_; refine LS.on ?_; refine gtI ?_; refine pk (v := .bool _) ?_; refine asB ?_; refine LS.done ?_
      simp only [decide_eq_false_iff_not] at g1
      exact J ⟨boolV (decide_eq_decide.2 (by omega)), trivial⟩ (by repeat (first | with_reducible exact Out.refl _ _ _ | exact Out.hv | refine Out.upd ?_ | refine Out.hvIn ?_))
  refine zN ?_
  refine RS.cond (fun c1 => ?_) (fun c1 => ?_)
  · simp only [decide_eq_true_eq] at c1
    refine zN ?_; refine asI ?_; refine LS.done ?_; refine zN ?_; refine RS.ret1 (v := .int _ _) Tryz.func40 fun w hw => ?_
    exact ⟨retI (by rw [gangErr, if_neg c0, if_pos c1]), hw.below⟩
  simp only [decide_eq_false_iff_not] at c1
  obtain ⟨b, o, rfl, hrow⟩ := hl.addr (fun h => by simp [h] at c1)
  refine zN ?_; refine asL ?_; refine LS.done ?_
  refine RS.nilRow 144 1 ?_
  refine zN ?_; refine asB ?_; refine LS.done ?_
  refine zN ?_; refine fld ?_; refine ld1 (v := .slice _ _ _) ?_; refine lenL ?_; refine mvI ?_; refine LS.done ?_
  refine zN ?_
  refine RS.loopF (X := Nat × Value) 5 59 (fun x => x.1 ≤ g.pods.length ∧ (∀ i (hi : i < x.1) (hi' : i < g.pods.length), podErr g.pods[i] s = 0)) (fun x => [(5, x.2), (6, .bool (dupB (g.pods.map PodD.name) x.1)), (32, .slice (some ⟨b, o, none⟩) g.pods.length cap), (33, .int .i64 g.pods.length), (34, .int .i64 x.1)]) (fun _ => hp w)
    (fun x => [rowH 144 1 x.2 x.1 (((g.pods.map PodD.name).take x.1).map Value.string)]) (fun x => g.pods.length - x.1) (0, .slice none 0 0) ⟨by simp, fun i hi => by simp at hi⟩ ⟨rfl, rfl, rfl, rfl, rfl, trivial⟩ rfl ⟨fun h => by obtain ⟨F1, h1, h2, h3⟩ := h; exact ⟨F1, h1, h2, trivial⟩⟩ ?_
  rintro ⟨k, v⟩ gg3 ⟨hk, hs⟩ ih
  simp only at hk hs ih ⊢
  refine zN ?_; refine ltI ?_; refine LS.done ?_
  refine zN ?_
  by_cases hlt : k < g.pods.length
  · refine RS.condT ?_ (h := by simp; exact hlt)
    obtain ⟨vs, ⟨vp, vb, rfl, hn1, hs1, hc1, hm1, hp1, hb1⟩, hvl, hvc⟩ := RowAt.pod hrow k hlt
    obtain ⟨ap, cp, rfl⟩ := hp1.form
    obtain ⟨ab, cb, rfl⟩ := hb1.form
    have hpod : Rep.rep (hp w) _ g.pods[k] := ⟨_, _, rfl, hn1, hs1, hc1, hm1, hp1, hb1⟩
    refine zN ?_; refine idx (i := k) ?_; refine ldSA (vs := podC g.pods[k] (.slice ap g.pods[k].picks.length cp) (.slice ab g.pods[k].bears.length cb)) rfl hvc ?_; refine alloc_ (fun b8 => ?_); refine st (.agg _) _ ?_; refine LS.done ?_
    refine zN ?_; refine ldA [_, _, _, _, _, _, _] ?_; refine mvI ?_
    refine callP ?_ (hc := fun w hw => pod_c _ g.pods[k] s w (Rep.mono hpod hw.imm))
    refine asI ?_; refine LS.done ?_
    refine zN ?_; refine mvI ?_; refine neI ?_; refine LS.done ?_; refine zN ?_
    refine RS.cond (fun c => ?_) (fun c => ?_)
    · refine zN ?_; refine mvI ?_; refine asI ?_; refine LS.done ?_; refine zN ?_; refine RS.ret1 (v := .int _ _) Tryz.func40 fun w hw => ?_
      simp at c
      have hfe : firstErr s g.pods = podErr g.pods[k] s := firstErr_take hlt (firstErr_zero fun i hi => by rw [List.length_take] at hi; rw [List.getElem_take]; exact hs i (by omega) _) (fun i hi => hs i hi (by omega)) c
      exact ⟨retI (by rw [gangErr, if_neg c0, if_neg c1, hfe, if_pos c]), hw.below⟩
    simp at c
    have hs' : ∀ i (hi : i < k + 1) (hi' : i < g.pods.length), podErr g.pods[i] s = 0 := fun i hi hi' => by
      rcases Nat.lt_or_ge i k with h | h
      · exact hs i h hi'
      · obtain rfl : i = k := by omega
        exact c
    have hnm : (g.pods.map PodD.name).getD k ⟨#[]⟩ = g.pods[k].name := by simp [List.getD, hlt]
    have htk : (g.pods.map PodD.name).take (k + 1) = (g.pods.map PodD.name).take k ++ [g.pods[k].name] := by rw [List.take_add_one]; simp [hlt]
    have hall : ∀ x ∈ (g.pods.map PodD.name).take k, x.size ≤ 140737488355328 := fun x hx => by
      have := List.mem_of_mem_take hx
      rw [List.mem_map] at this
      obtain ⟨p, hp', rfl⟩ := this
      obtain ⟨i, hi, rfl⟩ := List.mem_iff_getElem.1 hp'
      obtain ⟨vs, ⟨_, _, _, h, _⟩, _⟩ := RowAt.pod hrow i hi
      exact h
    refine zN ?_; refine fld ?_; refine ld1 (v := .string _) ?_; refine bld (vals := [(0, .string _)]) [_] ?_; refine alloc_ (fun b10 => ?_); refine st (.agg _) _ ?_; refine LS.done ?_
    refine zN ?_
    refine LS.cut 6 53 [(6, .bool (dupB (g.pods.map PodD.name) (k + 1))), (10, .pointer (some ⟨b10, 0, none⟩)), (32, .slice (some ⟨b, o, none⟩) g.pods.length cap), (33, .int .i64 g.pods.length), (34, .int .i64 k)] (fun gg4 => ?_) (fun J => ?_)
    rotate_left
    · refine mvB ?_; refine mvB ?_
      refine LS.part 48 (fun g1 => ?_) (fun g1 => ?_)
      · refine LS.off ?_; refine LS.off ?_; refine LS.off ?_; refine pk (v := .bool _) ?_; refine asB ?_; refine LS.done ?_
        exact J ⟨boolV (by rw [dupB, g1]; rfl), rfl, rfl, rfl, rfl, trivial⟩ (by repeat (first | with_reducible exact Out.refl _ _ _ | exact Out.hv | refine Out.upd ?_ | refine Out.hvIn ?_))
      · refine LS.on ?_; refine mv (v := v) ?_; refine LS.on ?_; refine mkF [.pointer (some ⟨b10, 0, none⟩)] ?_; refine LS.on ?_
        refine callP ?_ (hc := fun w hw => scontains_c ((g.pods.map PodD.name).take k) v g.pods[k].name b10 w (hw.rowRep (cellsStr (hp w) hall) (PH.le_refl _) (by rw [List.length_take, List.length_map]; omega) (hm := by rw [List.length_take, List.length_map]; omega)) (hw.get (b := b10)))
        refine pk (v := .bool _) ?_; refine asB ?_; refine LS.done ?_
        exact J ⟨boolV (by rw [dupB, g1, hnm]; rfl), rfl, rfl, rfl, rfl, trivial⟩ (by repeat (first | with_reducible exact Out.refl _ _ _ | exact Out.hv | refine Out.upd ?_ | refine Out.hvIn ?_))
    refine zN ?_; refine mv (v := v) ?_; refine ldA [_] ?_; refine bldS [.agg (List.toArray [.string g.pods[k].name])] [.string g.pods[k].name] (fun b55 => ?_); refine appR (v := v) (kk := 1) (vy := .slice (some ⟨b55, 0, none⟩) 1 1) (news := [.string g.pods[k].name]) (fun w hw => srcB hw TSlice.eq) (fun v56 => ?_); refine as_ (v := v56) ?_; refine LS.done ?_
    refine zN ?_; (first | refine addN ?_ | refine addI ?_); refine mvI ?_; refine LS.done ?_; refine zN ?_
    refine ih (k + 1, v56) ⟨hlt, hs'⟩ (by omega) ⟨rfl, rfl, rfl, rfl, rfl, trivial⟩ (by repeat (first | with_reducible exact Out.refl _ _ _ | exact Out.hv | refine Out.upd ?_ | refine Out.hvIn ?_)) ?_ rfl
    simp only [htk, List.map_append, List.map_cons, List.map_nil]
    infer_instance
  · refine RS.condF ?_ (h := by simp; omega)
    obtain rfl : k = g.pods.length := by omega
    have hfe : firstErr s g.pods = 0 := firstErr_zero fun i hi => hs i hi hi
    have hd := dupB_iff g.pods g.pods.length (by omega)
    refine zN ?_; refine mvB ?_; refine LS.done ?_; refine zN ?_
    refine RS.cond (fun c => ?_) (fun c => ?_)
    · refine zN ?_; refine asI ?_; refine LS.done ?_; refine zN ?_; refine RS.ret1 (v := .int _ _) Tryz.func40 fun w hw => ?_
      exact ⟨retI (by rw [gangErr, if_neg c0, if_neg c1, hfe, if_neg (by simp), if_pos (hd.1 c)]), hw.below⟩
    · refine zN ?_; refine asI ?_; refine LS.done ?_; refine zN ?_; refine RS.ret1 (v := .int _ _) Tryz.func40 fun w hw => ?_
      exact ⟨retI (by rw [gangErr, if_neg c0, if_neg c1, hfe, if_neg (by simp), if_neg (fun h => by rw [hd.2 h] at c; cases c)]), hw.below⟩
end Go.Proofs.YtaokfeonmgpjcaaGreatDoor
namespace Go.JW
section
variable {P : Program} {f : FuncId} {R : Ending → World → Prop} {k : List Item} {n : Nat} {fr : Nat → Value} {w0 : World} {M : Nat → Prop} {σ : PH}
variable {rest : List Oper} {d : Nat} {ty : TypeId} {pos : String} {aft : Array Edge} {x : Operand} {t : TypeId}
variable {H : HS} {O : List (Nat × Obj)} {Kf : Us → List HP} {Kb K0 : List HP} {E : List Nat} {tags : List Tag}
theorem D.boxU (s : Nat) (h : LD P f R k n w0 M σ Kb rest tags ⟨fr, (d, fun _ _ => True) :: H, O, fun us => ownHP (us d) (.cells (cellsL (us s)).toArray t (0, 0)) :: K0, d :: ((Stg.mk fr H O (fun _ => K0) E false).seen ⟨some d, .box t x, ty, pos, aft, none⟩ ++ E), false⟩)
    (hx : ∀ us, ev n (fill fr H us) x = us s := by intro _; rfl) (hsd : Nat.beq s d = false := by rfl) (hL : ∀ us : Us, Less (ownHP (us d) (.cells (cellsL (us s)).toArray t (0, 0)) :: K0) Kb := by intro _; infer_instance)
    (hE : ∀ us : Us, (fun us : Us => ownHP (us d) (.cells (cellsL (us s)).toArray t (0, 0)) :: K0) (resE (d :: ((Stg.mk fr H O (fun _ => K0) E false).seen ⟨some d, .box t x, ty, pos, aft, none⟩ ++ E)) us) = (fun us : Us => ownHP (us d) (.cells (cellsL (us s)).toArray t (0, 0)) :: K0) us := by intro _; rfl) :
    LD P f R k n w0 M σ Kb (⟨some d, .box t x, ty, pos, aft, none⟩ :: rest) (.eff :: tags) ⟨fr, H, O, fun _ => K0, E, false⟩ :=
  D.eff (fun _ _ => True) (fun us => ownHP (us d) (.cells (cellsL (us s)).toArray t (0, 0)) :: K0) _ (fun _ _ _ _ _ => trivial) hL h (fun us σ' w X hle hfs hw => by
    have hne : s ≠ d := fun e => by subst e; simp at hsd
    have hc : (us s).cells = (cellsL (us s)).toArray := by rw [← cells_toList]
    refine .inl ⟨.pointer (some ⟨w.heap.size, 0, none⟩), w.alloc (.cells (cellsL (us s)).toArray t (0, 0)), by simp [execOp, hx us, Instr.box, newVar, newRow, hc], σ', PH.le_refl _, ?_, trivial⟩
    have ha := hw.alloc (.cells (cellsL (us s)).toArray t (0, 0))
    rw [upd_eq, upd_ne hne]
    refine ha.weak fun F h => SepIn.swap ?_
    obtain ⟨F1, h1, h2, h3⟩ := h
    exact ⟨F1, ⟨_, rfl, h1.1, h1.2⟩, h2, h3⟩) hE
theorem D.mvG (sl : Nat) (Kf' : Us → List HP) (h : LD P f R k n w0 M σ Kb rest tags ⟨fr, (d, fun _ _ => True) :: H, O, Kf', d :: ((Stg.mk fr H O Kf E false).seen ⟨some d, .assign x, ty, pos, aft, none⟩ ++ E), false⟩)
    (hx : ∀ us, ev n (fill fr H us) x = us sl := by intro _; rfl) (hK : ∀ us, Kf us = Kf' (upd us d (us sl)) := by intro _; rfl) (hL : ∀ us, Less (Kf' us) Kb := by intro _; infer_instance)
    (hE : ∀ us, Kf' (resE (d :: ((Stg.mk fr H O Kf E false).seen ⟨some d, .assign x, ty, pos, aft, none⟩ ++ E)) us) = Kf' us := by intro _; rfl) :
    LD P f R k n w0 M σ Kb (⟨some d, .assign x, ty, pos, aft, none⟩ :: rest) (.eff :: tags) ⟨fr, H, O, Kf, E, false⟩ :=
  D.eff (fun _ _ => True) Kf' _ (fun _ _ _ _ _ => trivial) hL h (fun us σ' w X _ _ hw => .inl ⟨us sl, w, by simp [execOp, hx us], σ', PH.le_refl _, by rw [← hK]; exact hw, trivial⟩) hE
theorem D.callWU {g : FuncId} {xs : Array Operand} {ts : Array TypeId} (args : Us → List Value) (Q : Value → PH → Prop) (hQ : MonoT Q) (K1 : List HP) [i : Fun P g]
    (h : LD P f R k n w0 M σ Kb rest tags ⟨fr, (d, Q) :: H, O, fun _ => K1, d :: ((Stg.mk fr H O (fun _ => K0) E false).seen ⟨some d, .call ⟨.value (.func g), xs, ts⟩, ty, pos, aft, none⟩ ++ E), false⟩)
    (hc : ∀ us σ' w X, PH.le σ σ' → Facts H (readsTmp ⟨some d, .call ⟨.value (.func g), xs, ts⟩, ty, pos, aft, none⟩) us σ' → Sat w0 M σ' (X :: K0) w → Calls P g (args us).toArray w fun e w' => ∃ v σ'', PH.le σ' σ'' ∧ Q v σ'' ∧ e = .returned v ∧ Sat w0 M σ'' (X :: K1) w')
    (hx : ∀ us, xs.toList.map (ev n (fill fr H us)) = args us := by intro _; rfl) (hL : Less K1 Kb := by infer_instance) :
    LD P f R k n w0 M σ Kb (⟨some d, .call ⟨.value (.func g), xs, ts⟩, ty, pos, aft, none⟩ :: rest) (.eff :: tags) ⟨fr, H, O, fun _ => K0, E, false⟩ := by
  refine D.eff Q (fun _ => K1) _ hQ (fun _ => hL) h fun us σ' w X hle hfs hw => ?_
  exact .inr ⟨_, _, exec_call i.eq (hx us) w, (hc us σ' w X hle hfs hw).mono fun _ _ ⟨v, σ'', h1, h2, h3, h4⟩ => ⟨_, h3, σ'', h1, h4, h2⟩⟩
end
end Go.JW
namespace Go.Proofs.YtaokfeonmgpjcaaGreatDoor
open Go.JW Go.RowKit
section
variable {n : Int} {c : CoD} {g : GangD}
theorem submit_bad (h : gangErr g n ≠ 0) : submitP n c g = (c, [], gangErr g n) := if_pos h
theorem submit_twice (h : ¬ gangErr g n ≠ 0) (h2 : (findP c.gs g.id).isSome = true) : submitP n c g = (c, [], 4) := by unfold submitP; rw [if_neg h, if_pos h2]
def madeG (g : GangD) : GgD := ⟨g.id, 1, 0, g.pods, shardsOf g.pods, shardsOf g.pods⟩
theorem submit_yes (h : ¬ gangErr g n ≠ 0) (h2 : ¬ (findP c.gs g.id).isSome = true) : submitP n c g = (⟨putP c.gs (madeG g), c.rs ++ [recP 7 g.id (shardsOf g.pods)]⟩, allP (madeG g), 0) := by unfold submitP; rw [if_neg h, if_neg h2]; rfl
end
theorem recQ_rep {σ : PH} {k id : Int} {l : List Int} {v : Value} (hid : I64 id) (h : RepL σ v l) (hk : I64 k := by exact ⟨by decide, by decide⟩) : Rep.rep σ (recC (recP k id l) v nilV nilV nilV) (recP k id l) :=
  have z : I64 0 := ⟨by decide, by decide⟩
  ⟨_, _, _, _, rfl, hk, hid, h, RepL.nil _ _ _, Nat.zero_le _, z, z, RepL.nil _ _ _, RepL.nil _ _ _⟩
section
variable {w0 : World} {M : Nat → Prop} {σ : PH} {K : List HP} {bc tb : Nat} {sh : Int} {c : CoD}
abbrev gxB (b : Nat) (id : Int) (v : Value) : HP := blk b (.cells (List.toArray [.int .i64 id, v]) 28 (0, 0))
theorem submit_s (g : GangD) (vp : Value) (hid : I64 g.id) (hvp : RepL σ vp g.pods) (hsh : sh ≤ 4) (hc : CoOk c) (ho : Oks c.rs) (hl : c.rs.length ≤ 900) (hL : LibAt σ) (w : World) (hw : Sat w0 M σ (coHP bc sh tb c.gs :: tapHP tb c.rs c.rs.length :: K) w) :
    Calls Tryz.prog 18 #[.pointer (some ⟨bc, 0, none⟩), .agg (List.toArray [.int .i64 g.id, vp])] w fun e w' => ∃ v σ', PH.le σ σ' ∧ AnsM (submitP sh c g).2.1 (submitP sh c g).2.2 v σ' ∧ e = .returned v ∧ Sat w0 M σ' (coHP bc sh tb (submitP sh c g).1.gs :: tapHP tb (submitP sh c g).1.rs (submitP sh c g).1.rs.length :: K) w' := by
  obtain ⟨ap, cp, rfl⟩ := hvp.form
  have hgr : ∀ τ, PH.le σ τ → Rep.rep τ [.int .i64 g.id, .slice ap g.pods.length cp] g := fun τ ht => ⟨_, rfl, hid, hvp.mono ht⟩
  obtain ⟨gs, rs⟩ := c
  have hi := hc.ids
  have hok := hc.gs
  dsimp only at hi hok ho hl hw
  refine RS.enterK Tryz.func18 Tryz.ntmps18 rfl rfl hw ?_
  refine zN ?_; refine box_ (v := .agg _) (cs := [_, _]) (fun b3 => ?_); refine asL ?_; refine asI ?_; refine LS.done ?_
  refine zD ?_
  refine RS.ar (tapHP tb rs rs.length :: gxB b3 g.id (.slice ap g.pods.length cp) :: coHP bc sh tb gs :: K) ?_
  refine RS.openCoL [tapHP tb rs rs.length, gxB b3 g.id (.slice ap g.pods.length cp)] (fun mb es ck l xs hxs hp hm => ?_)
  subst hxs
  obtain ⟨L0, L1⟩ := look_g hm hp hi g.id
  refine RS.to (K' := coB bc sh tb mb :: blk mb (.map es ck) :: tapHP tb rs rs.length :: gxB b3 g.id (.slice ap g.pods.length cp) :: (gas xs ++ K)) ?_ ⟨fun h => h⟩
  refine zD ?_; refine RS.draw [.ex, .free, .free, .free, .ex, .ex, .free] [coB bc sh tb mb, gxB b3 g.id (.slice ap g.pods.length cp)] ?_ (by kernel_rfl) (by kernel_rfl) (by infer_instance); refine D.ldA [.int .i64 g.id, .slice ap g.pods.length cp] ?_; refine D.mvP ?_; refine D.nilck ?_; refine D.fld ?_; refine D.ld1 (v := .int _ _) ?_
  refine D.callP ?_ (hc := fun _ σ' w hle _ hw => gang_c _ g sh w (hgr _ (PH.le_trans hle hw.imm)))
  refine D.asI ?_; refine D.done (fun us σ1 hle1 hfs => ?_)
  refine RS.ow ?_
  have k1 := hle1
  refine zN ?_; refine mvI ?_; refine neI ?_; refine LS.done ?_
  refine zN ?_
  by_cases hge : gangErr g sh ≠ 0
  · refine RS.condT ?_ (h := by simpa using hge)
    refine zN ?_; refine mvI ?_; refine asL ?_; refine asI ?_; refine LS.done ?_
    refine zN ?_; refine RS.ret2 (v := .slice _ _ _) (v' := .int _ _) Tryz.func18 fun w hw => ?_
    rw [submit_bad hge]
    exact ⟨_, _, k1, ⟨_, _, rfl, RepL.nil _ _ _⟩, rfl, (closeCoL (K := K) [tapHP tb rs rs.length, gxB b3 g.id (.slice ap g.pods.length cp)] rfl hp (hm.mono k1) hw).weak fun _ h => SepIn.cons_sub (fun _ h => SepIn.cons_sub (fun _ h => h.tail) h) h⟩
  refine RS.condF ?_ (h := by simpa using hge)
  have hgo := GgOk.of (g := g) (Decidable.not_not.1 hge) hsh
  by_cases hsome : (findP (fsts xs) g.id).isSome = true
  · obtain ⟨g1, hf⟩ := Option.isSome_iff_exists.1 hsome
    obtain ⟨x1, b, x2, rfl, e2, e3⟩ := L1 g1 hf
    refine zD ?_; refine RS.draw [.free, .free, .free, .ex, .free, .ex, .ex, .free] [coB bc sh tb mb, blk mb (.map es ck), gxB b3 g.id (.slice ap g.pods.length cp)] ?_ (by kernel_rfl) (by kernel_rfl) (by infer_instance); refine D.mvP ?_; refine D.nilck ?_; refine D.fld ?_; refine D.ld1 (v := .map _) ?_; refine D.fld ?_; refine D.ld1 (v := .int _ _) ?_; refine D.lk (bm := mb) g.id hm ?_; rw [e3]; refine D.bin_neq_P ?_; refine D.done (fun us σ1 hle1 hfs => ?_)
    refine RS.ow ?_
    have k2 := PH.le_trans k1 hle1
    refine zN ?_; refine RS.condT ?_
    refine zN ?_; refine asL ?_; refine asI ?_; refine LS.done ?_
    refine zN ?_; refine RS.ret2 (v := .slice _ _ _) (v' := .int _ _) Tryz.func18 fun w hw => ?_
    rw [submit_twice hge hsome]
    exact ⟨_, _, k2, ⟨_, _, rfl, RepL.nil _ _ _⟩, rfl, (closeCoL (K := K) [tapHP tb rs rs.length, gxB b3 g.id (.slice ap g.pods.length cp)] rfl hp (hm.mono k2) hw).weak fun _ h => SepIn.cons_sub (fun _ h => SepIn.cons_sub (fun _ h => h.tail) h) h⟩
  have hf : findP (fsts xs) g.id = none := by cases h : findP (fsts xs) g.id with
    | none => rfl
    | some y => rw [h] at hsome; simp at hsome
  refine zD ?_; refine RS.draw [.free, .free, .free, .ex, .free, .ex, .ex, .free] [coB bc sh tb mb, blk mb (.map es ck), gxB b3 g.id (.slice ap g.pods.length cp)] ?_ (by kernel_rfl) (by kernel_rfl) (by infer_instance); refine D.mvP ?_; refine D.nilck ?_; refine D.fld ?_; refine D.ld1 (v := .map _) ?_; refine D.fld ?_; refine D.ld1 (v := .int _ _) ?_; refine D.lk (bm := mb) g.id hm ?_; rw [L0 hf]; refine D.bin_neq_P ?_; refine D.done (fun us σ1 hle1 hfs => ?_)
  refine RS.ow ?_
  have k2 := PH.le_trans k1 hle1
  refine zN ?_; refine RS.condF ?_
  have hsl := shards_len g.pods
  have hpl := hgo.pods
  dsimp only at hpl
  obtain ⟨sh9, hsh9⟩ : ∃ l, l = shardsOf g.pods := ⟨_, rfl⟩
  refine RS.to (K' := coB bc sh tb mb :: blk mb (.map es ck) :: tapHP tb rs rs.length :: gxB b3 g.id (.slice ap g.pods.length cp) :: (gas xs ++ K)) ?_ ⟨fun h => h⟩
  refine zD ?_; refine RS.draw [.free, .ex, .free, .ex, .free, .ex, .ex, .ex, .eff, .eff] [gxB b3 g.id (.slice ap g.pods.length cp)] ?_ (by kernel_rfl) (by kernel_rfl) (by infer_instance); refine D.fld ?_; refine D.ld1 (v := .int _ _) ?_; refine D.fld ?_; refine D.ld1 (v := .int _ _) ?_; refine D.bld (vals := [(0, .int _ _)]) [_, _] ?_; refine D.ldA [.int .i64 g.id, .slice ap g.pods.length cp] ?_
  refine D.callN (fun v τ => RepL τ v sh9) ?_ (hc := fun _ σ' w hle _ hw => by rw [hsh9]; exact shards_c _ g w (hgr _ (PH.le_trans k2 (PH.le_trans hle hw.imm))) (by omega))
  refine D.bldU (fun v τ => ∃ a c, v = .agg (List.toArray [.int .i64 g.id, .int .i64 g.id, nilV, .slice a sh9.length c, .nilIface, .map none]) ∧ RepL τ (.slice a sh9.length c) sh9) (fun _ _ _ ⟨a, c, e, h⟩ hs => ⟨a, c, e, h.mono hs⟩) ?_ (fun us σ' hle hf => ?_)
  rotate_left
  · obtain ⟨⟨τ, h1, h2, _⟩, _⟩ := hf
    obtain ⟨a, c, e⟩ := h1.form
    have h3 := h1.mono h2
    rw [e] at h3
    refine ⟨_, ?_, a, c, rfl, h3⟩
    show fillL _ _ [(0, _), (1, _), (2, us 33)] = _
    rw [e]; rfl
  refine D.boxU 34 ?_
  refine D.mvG 35 (fun us => ownHP (us 7) (.cells (cellsL (us 34)).toArray 88 (0, 0)) :: coB bc sh tb mb :: blk mb (.map es ck) :: tapHP tb rs rs.length :: gxB b3 g.id (.slice ap g.pods.length cp) :: (gas xs ++ K)) ?_
  refine D.done (fun us σ1 hle3 hfs => ?_)
  obtain ⟨_, _, ⟨a34, c34, e34, hq34⟩, _⟩ := hfs
  have k3 := PH.le_trans k2 hle3
  rw [e34]
  refine RS.ow ?_
  refine RS.openOwn (fun b7 h7 => ?_); refine RS.as 7 (.pointer (some ⟨b7, 0, none⟩)) h7 ?_
  refine RS.to (K' := rwB b7 g.id g.id nilV (.slice a34 sh9.length c34) .nilIface (.map none) :: coB bc sh tb mb :: blk mb (.map es ck) :: tapHP tb rs rs.length :: gxB b3 g.id (.slice ap g.pods.length cp) :: (gas xs ++ K)) ?_ ⟨fun h => h⟩
  refine zN ?_; refine mvP ?_; refine nilck ?_; refine fld ?_; refine ld1 (v := .slice _ _ _) ?_; refine lenL ?_; refine mvI ?_; refine LS.done ?_
  refine zN ?_
  refine RS.nilD 0 PodD 35 ?_
  refine RS.loopF (X := Nat × Value × PH) 8 59 (fun x => x.1 ≤ sh9.length ∧ PH.le σ1 x.2.2) (fun x => [(39, .slice a34 sh9.length c34), (40, .int .i64 sh9.length), (41, .int .i64 x.1)]) (fun x => x.2.2) (fun x => rowD 0 35 x.2.1 ((sh9.take x.1).flatMap (sliceOf g.pods)) :: rwB b7 g.id g.id x.2.1 (.slice a34 sh9.length c34) .nilIface (.map none) :: coB bc sh tb mb :: blk mb (.map es ck) :: tapHP tb rs rs.length :: gxB b3 g.id (.slice ap g.pods.length cp) :: (gas xs ++ K)) (fun x => sh9.length - x.1) (0, nilV, σ1) ⟨Nat.zero_le _, PH.le_refl _⟩ ⟨rfl, rfl, rfl, trivial⟩ rfl ⟨fun h => h⟩ ?_
  rintro ⟨i, v, σ2⟩ fr ⟨hx, k4⟩ ih
  dsimp only at hx k4
  have hsz : ∀ j, ((sh9.take j).flatMap (sliceOf g.pods)).length ≤ j * 8 := fun j => by
    have h1 : ∀ qs : List Int, (qs.flatMap (sliceOf g.pods)).length ≤ qs.length * 8 := fun qs => by
      induction qs with
      | nil => simp
      | cons q qs ih =>
        rw [List.flatMap_cons, List.length_append, List.length_cons]
        have : (sliceOf g.pods q).length ≤ g.pods.length := List.length_filter_le _ _
        omega
    have := h1 (sh9.take j)
    rw [List.length_take] at this
    omega
  have hszi := hsz i
  have hs8 : sh9.length ≤ 8 := by rw [hsh9]; omega
  refine zN ?_; refine ltI ?_; refine LS.done ?_
  refine zN ?_
  refine RS.cond (fun c => ?_) (fun c => ?_)
  · have c := of_decide_eq_true c
    have hlt : i < sh9.length := by omega
    obtain ⟨b1, o1, rfl, hrow⟩ := hq34.addr (fun h => by simp [h] at hlt)
    obtain ⟨hcell, h64⟩ := (hrow.mono k4).int i hlt
    have hsu : (sh9.take i).flatMap (sliceOf g.pods) ++ sliceOf g.pods sh9[i] = (sh9.take (i + 1)).flatMap (sliceOf g.pods) := by rw [List.take_succ_eq_append_getElem hlt, List.flatMap_append]; simp
    obtain ⟨dd, hdd⟩ : ∃ dd, dd = sh9[i] := ⟨_, rfl⟩
    rw [← hdd] at hsu hcell h64
    have hs1 : (sliceOf g.pods dd).length ≤ g.pods.length := List.length_filter_le _ _
    refine zN ?_; refine idx (i := i) ?_; refine ldS hcell ?_; refine asI ?_; refine LS.done ?_
    refine zD ?_; refine RS.draw [.free, .free, .free, .free, .free, .ex, .ex, .free, .ex, .eff, .free, .free, .free, .st] [rwB b7 g.id g.id v (.slice (some ⟨b1, o1, none⟩) sh9.length c34) .nilIface (.map none), gxB b3 g.id (.slice ap g.pods.length cp)] ?_ (by kernel_rfl) (by kernel_rfl) (by infer_instance); refine D.mvP ?_; refine D.mvP ?_; refine D.nilck ?_; refine D.fld ?_; refine D.fld ?_; refine D.ld1 (v := v) ?_; refine D.ldA [.int .i64 g.id, .slice ap g.pods.length cp] ?_; refine D.mvI ?_
    refine D.callN (fun v τ => RepL τ v (sliceOf g.pods dd)) ?_ (hc := fun _ σ' w hle _ hw => slice_w _ g dd w (hgr _ (PH.le_trans k3 (PH.le_trans k4 (PH.le_trans hle hw.imm)))) (by omega) hgo.few)
    refine D.appD v (sliceOf g.pods dd) (vy := fun us => us 53) ?_ (fun us σ' _ ⟨⟨τ, g1, g2, _⟩, _⟩ => ⟨τ, g1, by rw [fromN_zero]; exact g2⟩) (hb := by dsimp only; omega) (hm := by dsimp only; omega)
    refine D.nilck ?_; refine D.fld ?_; refine D.fld ?_
    refine D.stU 54 (fun us => [.int .i64 g.id, .int .i64 g.id, us 54, .slice (some ⟨b1, o1, none⟩) sh9.length c34, .nilIface, .map none]) ?_
    refine D.done (fun us σ3 hle3 hfs => ?_)
    rw [hsu]
    refine RS.ow ?_
    refine zN ?_; (first | refine addN ?_ | refine addI ?_); refine mvI ?_; refine LS.done ?_; refine zN ?_
    exact ih (i + 1, us 54, σ3) ⟨by (try dsimp only); omega, PH.le_trans k4 hle3⟩ (by (try dsimp only); omega) ⟨rfl, rfl, rfl, trivial⟩ (by repeat (first | with_reducible exact Out.refl _ _ _ | exact Out.hv | refine Out.upd ?_ | refine Out.hvIn ?_)) ⟨fun h => h⟩ rfl
  · have c := of_decide_eq_false c
    obtain rfl : i = sh9.length := by omega
    refine RS.exit ?_
    refine RS.to (K' := rowD 0 35 v (podsW (madeG g)) :: rwB b7 g.id g.id v (.slice a34 sh9.length c34) .nilIface (.map none) :: coB bc sh tb mb :: blk mb (.map es ck) :: tapHP tb rs rs.length :: gxB b3 g.id (.slice ap g.pods.length cp) :: (gas xs ++ K)) ?_ ⟨fun h => by rw [List.take_length] at h; unfold podsW madeG; rw [← hsh9]; exact h⟩
    have hpw : (podsW (madeG g)).length ≤ 64 := (pods_len hgo).1
    refine RS.freeze0 (l := podsW (madeG g)) v (fun σ3 k5 hrv => ?_) (hl := by omega)
    obtain ⟨av, cv, rfl⟩ := hrv.form
    have k45 := PH.le_trans k4 k5
    have k6 := PH.le_trans k3 k45
    have hq3 := hq34.mono k45
    refine zD ?_; refine RS.draw [.free, .free, .ex, .free, .free, .free, .ex, .ex, .ex, .eff] [coB bc sh tb mb, gxB b3 g.id (.slice ap g.pods.length cp), rwB b7 g.id g.id (.slice av (podsW (madeG g)).length cv) (.slice a34 sh9.length c34) .nilIface (.map none)] ?_ (by kernel_rfl) (by kernel_rfl) (by infer_instance); refine D.mvP ?_; refine D.fld ?_; refine D.ld1 (v := .int _ _) ?_; refine D.mvP ?_; refine D.nilck ?_; refine D.fld ?_; refine D.ld1 (v := .slice _ _ _) ?_
    refine D.callN (fun v τ => RepL τ v sh9) ?_ (hc := fun _ σ' w hle _ hw => cloneI_c sh9 _ w (hq3.mono (PH.le_trans hle hw.imm)) (by omega))
    refine D.bldU (fun v τ => RepA τ v (recP 7 g.id sh9)) (fun _ _ _ h hs => h.mono hs) ?_ (fun us σ' hle hf => ?_)
    rotate_left
    · obtain ⟨⟨τ, h1, h2, _⟩, _⟩ := hf
      obtain ⟨a, c, e⟩ := h1.form
      have h3 := h1.mono h2
      rw [e] at h3
      refine ⟨recC (recP 7 g.id sh9) (.slice a sh9.length c) nilV nilV nilV, ?_, _, rfl, recQ_rep hid h3⟩
      show fillL _ _ [(0, _), (1, _), (2, us 66)] = _
      rw [e]; rfl
    refine D.callWU (fun us => [.pointer (some ⟨bc, 0, none⟩), us 67]) (fun v _ => v = .tuple #[]) (fun _ _ _ h _ => h) (rwB b7 g.id g.id (.slice av (podsW (madeG g)).length cv) (.slice a34 sh9.length c34) .nilIface (.map none) :: coB bc sh tb mb :: blk mb (.map es ck) :: tapHP tb (rs ++ [recP 7 g.id sh9]) (rs ++ [recP 7 g.id sh9]).length :: gxB b3 g.id (.slice ap g.pods.length cp) :: (gas xs ++ K)) ?_ (hc := fun us σ' w' X hle hf hw => by
      obtain ⟨⟨cs, e, hrep⟩, _⟩ := hf
      rw [e]
      exact (force_s (bc := bc) (tb := tb) (mb := mb) (sh := sh) (n := rs.length) (K := X :: rwB b7 g.id g.id (.slice av (podsW (madeG g)).length cv) (.slice a34 sh9.length c34) .nilIface (.map none) :: blk mb (.map es ck) :: gxB b3 g.id (.slice ap g.pods.length cp) :: (gas xs ++ K)) (recP 7 g.id sh9) cs (by rw [hsh9]; exact rec_ok7 hgo) ho (by omega) (hL.mono (PH.le_trans k6 hle)) hrep w' (hw.ar _)).mono fun _ _ ⟨v, σ'', h1, h2, h3, h4⟩ => ⟨v, σ'', h1, h2, h3, h4.ar _⟩)
    refine D.done (fun us σ4 k7 hfs => ?_)
    have k8 := PH.le_trans k6 k7
    refine RS.ow ?_
    refine zD ?_; refine RS.draw [.free, .free, .free, .ex, .free, .ex, .free, .st] [coB bc sh tb mb, gxB b3 g.id (.slice ap g.pods.length cp)] ?_ (by kernel_rfl) (by kernel_rfl) (by infer_instance); refine D.mvP ?_; refine D.nilck ?_; refine D.fld ?_; refine D.ld1 (v := .map _) ?_; refine D.fld ?_; refine D.ld1 (v := .int _ _) ?_; refine D.mvP ?_
    refine D.mupd g.id (fun _ => ptV b7) hm ?_
    refine D.done (fun us σ5 k9 hfs => ?_)
    have k10 := PH.le_trans k8 k9
    refine RS.ow ?_
    have hup := (hm.mono k10).upd g.id (x := (⟨b7⟩ : PtrD)) (cs := [ptV b7]) rfl
    have hn : (l.map (·.1)).Nodup := (hp.map _).nodup_iff.2 (by rw [prs_keys]; exact ids_nodup hi)
    rw [aset_none (by rw [asg_perm hp hn]; exact prs_none hf)] at hup
    refine zN ?_; refine mvP ?_; refine bld (vals := []) [_] ?_; refine mkC (agV 0) ?_
    refine LS.ar (rwB b7 g.id g.id (.slice av (podsW (madeG g)).length cv) (.slice a34 sh9.length c34) .nilIface (.map none) :: coB bc sh tb mb :: blk mb (.map (updM (KeyT.kind Int) es ck (KeyT.enc g.id) (ptV b7)).1 (updM (KeyT.kind Int) es ck (KeyT.enc g.id) (ptV b7)).2) :: tapHP tb (rs ++ [recP 7 g.id sh9]) (rs ++ [recP 7 g.id sh9]).length :: gxB b3 g.id (.slice ap g.pods.length cp) :: (gas xs ++ K)) ?_
    refine callQ (fun v τ => RepL τ v (allP (madeG g))) (gaHP b7 (madeG g) :: coB bc sh tb mb :: blk mb (.map (updM (KeyT.kind Int) es ck (KeyT.enc g.id) (ptV b7)).1 (updM (KeyT.kind Int) es ck (KeyT.enc g.id) (ptV b7)).2) :: tapHP tb (rs ++ [recP 7 g.id sh9]) (rs ++ [recP 7 g.id sh9]).length :: gxB b3 g.id (.slice ap g.pods.length cp) :: (gas xs ++ K)) (fun v79 σ6 k11 h79 => ?_) (hc := fun w' hw => to_r (g := madeG g) 1 g.id _ _ _ _ hid (hrv.mono (PH.le_trans k7 k9)) (by show RepL _ _ (shardsOf g.pods); rw [← hsh9]; exact hq3.mono (PH.le_trans k7 k9)) _ _ (stV1 rfl) ⟨hgo.rise, hgo.few2⟩ hgo w' hw)
    obtain ⟨a79, c79, rfl⟩ := h79.form
    refine asL ?_; refine asI ?_; refine LS.done ?_
    refine zN ?_; refine RS.ret2 (v := .slice _ _ _) (v' := .int _ _) Tryz.func18 fun w hw => ?_
    rw [submit_yes hge hsome]
    refine ⟨_, σ6, PH.le_trans k10 k11, ⟨_, _, rfl, h79⟩, rfl, ?_⟩
    obtain ⟨ys, hy1, hy2⟩ := put_x xs (madeG g) b7
    rw [hsh9] at hw
    refine (closeCoL (K := K) [tapHP tb (rs ++ [recP 7 g.id (shardsOf g.pods)]) (rs ++ [recP 7 g.id (shardsOf g.pods)]).length, gxB b3 g.id (.slice ap g.pods.length cp)] (mb := mb) (xs := ys) hy1 ?_ (hup.mono k11) (hw.weak fun _ h => ?_)).weak fun _ h => SepIn.cons_sub (fun _ h => SepIn.cons_sub (fun _ h => h.tail) h) h
    · refine (List.perm_append_comm.trans ((hp.cons _).trans ?_))
      exact (hy2.map fun x : GX => (x.1.id, (⟨x.2⟩ : PtrD))).symm
    · have hP : (gaHP b7 (madeG g) :: (gas xs ++ K)).Perm (gas ys ++ K) := ((hy2.map fun x : GX => gaHP x.2 x.1).symm).append_right K
      exact SepIn.perm ((List.perm_middle (l₁ := [coB bc sh tb mb, blk mb _, tapHP tb _ _, gxB b3 g.id _])).symm.trans (hP.append_left [coB bc sh tb mb, blk mb _, tapHP tb _ _, gxB b3 g.id _])) h
end
end Go.Proofs.YtaokfeonmgpjcaaGreatDoor
namespace Go.Proofs.YtaokfeonmgpjcaaGreatDoor
open Go.JW Go.RowKit
section
variable {w0 : World} {M : Nat → Prop} {σ : PH} {K : List HP} {b n : Nat}
theorem all0_s (w : World) (hw : Sat w0 M σ (tapHP b [] n :: K) w) :
    Calls Tryz.prog 76 #[.pointer (some ⟨b, 0, none⟩)] w fun e w' => ∃ v σ', PH.le σ σ' ∧ RepL σ' v ([] : List RecD) ∧ e = .returned v ∧ Sat w0 M σ' (tapHP b [] n :: K) w' := by
  obtain ⟨vt, hw⟩ := openTp hw
  refine RS.enterK Tryz.func76 Tryz.ntmps76 rfl rfl hw ?_
  refine zN ?_; refine asL ?_; refine LS.done ?_
  refine zN ?_; refine mvP ?_; refine nilck ?_; refine fld ?_; refine ld1 (v := .int _ _) ?_; refine mkD0 (α := RecD) 0 (fun v3 => ?_) (hb := by simp) (hm := by simp); refine as_ (v := v3) ?_; refine LS.done ?_
  refine zN ?_; refine mvP ?_
  refine callT (fun v τ => RepL τ v ([] : List ByteArray)) (fun v14 τ1 σ1 hq hN hle hτ => ?_) (fun w' hw => lines_c [] (fun _ h => absurd h (List.not_mem_nil)) (by simp) (fun _ h => absurd h (List.not_mem_nil)) vt [.int .i64 n] b w' (hw.get (b := b) (i := by infer_instance)) (hw.rowRepD (l := tapeL []) (Nat.zero_le _)))
  obtain ⟨a14, c14, rfl⟩ := hq.form
  refine lenL ?_; refine mvI ?_; refine LS.done ?_
  refine zN ?_
  refine RS.loopF (X := Unit) 4 32 (fun _ => True) (fun _ => [(15, .int .i64 0), (16, .int .i64 0)]) (fun _ => σ1) (fun _ => rowD 0 95 v3 ([] : List RecD) :: rowD 0 21 vt (tapeL []) :: tpB b vt 0 n :: K) (fun _ => 0) () trivial ⟨rfl, rfl, trivial⟩ rfl ⟨fun h => h⟩ ?_
  rintro _ g _ ih
  refine zN ?_; refine ltI ?_; refine LS.done ?_
  refine zN ?_
  refine RS.condF ?_
  refine RS.exit ?_
  refine RS.formD (l := ([] : List RecD)) v3 (fun a7 c7 e7 hc7 => ?_); subst e7
  refine RS.freeze0 (l := ([] : List RecD)) (.slice a7 0 c7) (fun σ3 k3 hr7 => ?_) (hl := by simp)
  refine zN ?_; refine mvL ?_
  refine callP ?_ (hc := fun w' hw => clip_c a7 0 c7 (Nat.zero_le _) w')
  refine asL ?_; refine LS.done ?_
  refine zN ?_; refine RS.ret1 (v := .slice _ _ _) Tryz.func76 fun w hw => ?_
  exact ⟨_, σ3, PH.le_trans hle k3, hr7.recap (Nat.le_refl _), rfl, closeTp hw⟩
theorem all0_x (w : World) (hw : Sat w0 M σ (refHP b [] n :: K) w) :
    Calls Tryz.prog 78 #[.pointer (some ⟨b, 0, none⟩)] w fun e w' => ∃ v, (∃ a c, v = .slice a 0 c) ∧ e = .returned v ∧ Sat w0 M σ (refHP b [] n :: K) w' := by
  obtain ⟨vt, hw⟩ := openRf hw
  refine RS.enterK Tryz.func78 Tryz.ntmps78 rfl rfl hw ?_
  refine RS.formD (l := refL []) vt (fun at_ ct et _ => ?_); subst et
  refine zN ?_; refine asL ?_; refine LS.done ?_
  refine zN ?_; refine asL ?_; refine LS.done ?_
  refine zN ?_; refine asI ?_; refine LS.done ?_
  refine zN ?_
  refine RS.loopF (X := Unit) 4 31 (fun _ => True) (fun _ => [(4, .int .i64 0)]) (fun _ => σ) (fun _ => rowD 0 9 (.slice at_ (refL []).length ct) (refL []) :: rfB b (.slice at_ (refL []).length ct) n :: K) (fun _ => 0) () trivial ⟨rfl, trivial⟩ rfl ⟨fun h => h⟩ ?_
  rintro _ g _ ih
  refine zN ?_; refine mvI ?_; refine mvP ?_; refine nilck ?_; refine fld ?_; refine ld1 (v := .slice _ _ _) ?_; refine lenL ?_; refine ltI ?_; refine LS.done ?_
  refine zN ?_
  refine RS.condF ?_
  refine RS.exit ?_
  refine zN ?_; refine mvL ?_; refine asL ?_; refine LS.done ?_
  refine zN ?_; refine RS.ret1 (v := .slice _ _ _) Tryz.func78 fun w hw => ?_
  exact ⟨_, ⟨_, _, rfl⟩, rfl, closeRf hw⟩
theorem new0_s (sh : Int) (w : World) (hw : Sat w0 M σ (tapHP b [] n :: K) w) :
    Calls Tryz.prog 36 #[.int .i64 sh, .pointer (some ⟨b, 0, none⟩)] w fun e w' => ∃ x : Nat × PH, e = .returned (ptV x.1) ∧ Sat w0 M x.2 (coHP x.1 sh b [] :: tapHP b [] n :: K) w' ∧ PH.le σ x.2 := by
  refine RS.enterK Tryz.func36 Tryz.ntmps36 rfl rfl hw ?_
  refine zN ?_; refine asP ?_; refine LS.done ?_
  refine zN ?_; refine mvI ?_; refine mvP ?_; refine mkM (fun b11 => ?_); refine bld (vals := [(0, .int _ _), (1, .pointer _), (2, .map _)]) [_, _, _] ?_; refine box_ (v := .agg _) (cs := [_, _, _]) (fun b13 => ?_); refine asP ?_; refine LS.done ?_
  refine zN ?_; refine mvP ?_
  refine LS.ar (tapHP b [] n :: coB b13 sh b b11 :: blk b11 (.map #[] 0) :: K) ?_
  refine callQ (fun v τ => RepL τ v ([] : List RecD)) (tapHP b [] n :: coB b13 sh b b11 :: blk b11 (.map #[] 0) :: K) (fun v15 σ1 k1 h15 => ?_) (hc := fun w' hw => all0_s w' hw)
  obtain ⟨a15, c15, rfl⟩ := h15.form
  refine lenL ?_; refine mvI ?_; refine LS.done ?_
  refine zN ?_
  refine RS.loopF (X := Unit) 7 78 (fun _ => True) (fun _ => [(16, .int .i64 0), (17, .int .i64 0)]) (fun _ => σ1) (fun _ => tapHP b [] n :: coB b13 sh b b11 :: blk b11 (.map #[] 0) :: K) (fun _ => 0) () trivial ⟨rfl, rfl, trivial⟩ rfl ⟨fun h => h⟩ ?_
  rintro _ g _ ih
  refine zN ?_; refine ltI ?_; refine LS.done ?_
  refine zN ?_
  refine RS.condF ?_
  refine RS.exit ?_
  refine zN ?_; refine mvP ?_; refine asP ?_; refine LS.done ?_
  refine zN ?_; refine RS.ret1 (v := .pointer _) Tryz.func36 fun w hw => ?_
  exact ⟨(b13, σ1), rfl, closeCo (mb := b11) (l := []) (xs := []) rfl (List.Perm.refl _) (MapOk.nil _) ((hw.ar (coB b13 sh b b11 :: blk b11 (.map #[] 0) :: tapHP b [] n :: K)).weak fun _ h => h), k1⟩
theorem rnew0_s (sh : Int) (w : World) (hw : Sat w0 M σ (refHP b [] n :: K) w) :
    Calls Tryz.prog 39 #[.int .i64 sh, .pointer (some ⟨b, 0, none⟩)] w fun e w' => ∃ x : Nat, e = .returned (ptV x) ∧ Sat w0 M σ (refHP b [] n :: K) w' := by
  refine RS.enterK Tryz.func39 Tryz.ntmps39 rfl rfl hw ?_
  refine zN ?_; refine asP ?_; refine LS.done ?_
  refine zN ?_; refine mvI ?_; refine mvP ?_; refine bld (vals := [(0, .int _ _), (1, .pointer _)]) [_, _, _] ?_; refine box_ (v := .agg _) (cs := [_, _, _]) (fun b13 => ?_); refine asP ?_; refine LS.done ?_
  refine zN ?_; refine mvP ?_
  refine callX (X := Option Addr × Nat) (fun x => .slice x.1 0 x.2) (fun _ => σ) (fun _ => refHP b [] n :: K) (fun _ => True) (fun x _ => ?_) (fun w' hw => (all0_x w' (hw.weak fun _ h => h.tail)).mono fun _ _ ⟨v, ⟨a, c, e⟩, h2, h3⟩ => ⟨(a, c), by rw [h2, e], h3, trivial⟩)
  obtain ⟨a15, c15⟩ := x
  refine asL ?_; refine LS.done ?_
  refine zN ?_; refine asI ?_; refine LS.done ?_
  refine zN ?_
  refine RS.loopF (X := Unit) 7 56 (fun _ => True) (fun _ => [(7, .int .i64 0)]) (fun _ => σ) (fun _ => refHP b [] n :: K) (fun _ => 0) () trivial ⟨rfl, trivial⟩ rfl ⟨fun h => h⟩ ?_
  rintro _ g _ ih
  refine zN ?_; refine mvI ?_; refine mvL ?_; refine lenL ?_; refine ltI ?_; refine LS.done ?_
  refine zN ?_
  refine RS.condF ?_
  refine RS.exit ?_
  refine zN ?_; refine mvP ?_; refine asP ?_; refine LS.done ?_
  refine zN ?_; refine RS.ret1 (v := .pointer _) Tryz.func39 fun w hw => ?_
  exact ⟨_, rfl, hw⟩
end
end Go.Proofs.YtaokfeonmgpjcaaGreatDoor
namespace Go.JW
section
variable {P : Program} {f : FuncId} {R : Ending → World → Prop} {k : List Item} {n : Nat} {fr : Nat → Value} {w0 : World} {M : Nat → Prop} {σ : PH} {K : List HP}
variable {rest : List Oper} {d : Nat} {ty : TypeId} {pos : String} {aft : Array Edge} {x y : Operand} {t : TypeId}
variable {H : HS} {O : List (Nat × Obj)} {Kf : Us → List HP} {Kb K0 : List HP} {E : List Nat} {tags : List Tag}
theorem D.callK {g : FuncId} {xs : Array Operand} {ts : Array TypeId} (args : List Value) (Q : Value → PH → Prop) (hQ : MonoT Q) (KV : Value → List HP) [i : Fun P g]
    (h : LD P f R k n w0 M σ Kb rest tags ⟨fr, (d, Q) :: H, O, fun us => KV (us d), d :: ((Stg.mk fr H O (fun _ => K0) E false).seen ⟨some d, .call ⟨.value (.func g), xs, ts⟩, ty, pos, aft, none⟩ ++ E), false⟩)
    (hc : ∀ σ' w X, PH.le σ σ' → Sat w0 M σ' (X :: K0) w → Calls P g args.toArray w fun e w' => ∃ v σ'', PH.le σ' σ'' ∧ Q v σ'' ∧ e = .returned v ∧ Sat w0 M σ'' (X :: KV v) w')
    (hx : ∀ us, xs.toList.map (ev n (fill fr H us)) = args := by intro _; rfl) (hL : ∀ v, Less (KV v) Kb := by intro _; infer_instance) :
    LD P f R k n w0 M σ Kb (⟨some d, .call ⟨.value (.func g), xs, ts⟩, ty, pos, aft, none⟩ :: rest) (.eff :: tags) ⟨fr, H, O, fun _ => K0, E, false⟩ := by
  refine D.eff Q (fun us => KV (us d)) _ hQ (fun us => hL (us d)) h (fun us σ' w X hle hfs hw => ?_) (fun us => by rw [resE_mem (by simp)])
  exact .inr ⟨_, _, exec_call i.eq (hx us) w, (hc σ' w X hle hw).mono fun _ _ ⟨v, σ'', h1, h2, h3, h4⟩ => ⟨_, h3, σ'', h1, by rw [upd_eq]; exact h4, h2⟩⟩
theorem D.callS {g : FuncId} {xs : Array Operand} {ts : Array TypeId} (args : List Value) (Q : Value → PH → Prop) (hQ : MonoT Q) [i : Fun P g]
    (h : LD P f R k n w0 M σ Kb rest tags ⟨fr, (d, Q) :: H, O, Kf, d :: ((Stg.mk fr H O Kf E false).seen ⟨some d, .call ⟨.value (.func g), xs, ts⟩, ty, pos, aft, none⟩ ++ E), false⟩)
    (hc : ∀ us σ' w X, PH.le σ σ' → Sat w0 M σ' (X :: Kf us) w → Calls P g args.toArray w fun e w' => ∃ v σ'', PH.le σ' σ'' ∧ Q v σ'' ∧ e = .returned v ∧ Sat w0 M σ'' (X :: Kf us) w')
    (hx : ∀ us, xs.toList.map (ev n (fill fr H us)) = args := by intro _; rfl) (hL : ∀ us, Less (Kf us) Kb := by intro _; infer_instance) (hK : ∀ us u, Kf (upd us d u) = Kf us := by intro _ _; rfl)
    (hE : ∀ us, Kf (resE (d :: ((Stg.mk fr H O Kf E false).seen ⟨some d, .call ⟨.value (.func g), xs, ts⟩, ty, pos, aft, none⟩ ++ E)) us) = Kf us := by intro _; rfl) :
    LD P f R k n w0 M σ Kb (⟨some d, .call ⟨.value (.func g), xs, ts⟩, ty, pos, aft, none⟩ :: rest) (.eff :: tags) ⟨fr, H, O, Kf, E, false⟩ := by
  refine D.eff Q Kf _ hQ hL h (fun us σ' w X hle hfs hw => ?_) hE
  exact .inr ⟨_, _, exec_call i.eq (hx us) w, (hc us σ' w X hle hw).mono fun _ _ ⟨v, σ'', h1, h2, h3, h4⟩ => ⟨_, h3, σ'', h1, by rw [hK]; exact h4, h2⟩⟩
theorem D.stP (s : Nat) (cs cs' : Us → List Value) {b off sz : Nat} {T : TypeId} {sg : Bool} {put : Us → HP → List HP} {K' : Us → List HP} [hs : TSz P t sz]
    (h : LD P f R k n w0 M σ Kb rest tags ⟨fr, H, [], fun us => put us (blk b (.cells (cs' us).toArray T (0, 0))), (Stg.mk fr H [] Kf E sg).seen ⟨none, .store t x y, ty, pos, aft, none⟩ ++ E, true⟩)
    (hform : ∀ us σ', Facts H (readsTmp ⟨none, .store t x y, ty, pos, aft, none⟩) us σ' → ∃ p, us s = .pointer p)
    (hx : ∀ us, ev n (fill fr H us) x = .pointer (some ⟨b, off, none⟩) := by intro _; rfl) (hy : ∀ us, ev n (fill fr H us) y = us s := by intro _; rfl) (hf : ∀ us, FindB b (Kf us) (.cells (cs us).toArray T (0, 0)) (put us) (K' us) := by intro _; infer_instance)
    (hsz : sz = 1 := by rfl) (hr : ∀ us, off + 1 ≤ (cs us).length := by intro _; exact Nat.le_of_ble_eq_true rfl) (hc : ∀ us, setAt (cs us) off [us s] = cs' us := by intro _; rfl)
    (hE : ∀ us, (fun us => put us (blk b (.cells (cs' us).toArray T (0, 0)))) (resE (([] : List (Nat × Obj)).map (·.1) ++ ((Stg.mk fr H [] Kf E sg).seen ⟨none, .store t x y, ty, pos, aft, none⟩ ++ E)) us) = put us (blk b (.cells (cs' us).toArray T (0, 0))) := by intro _; rfl) :
    LD P f R k n w0 M σ Kb (⟨none, .store t x y, ty, pos, aft, none⟩ :: rest) (.st :: tags) ⟨fr, H, [], Kf, E, sg⟩ :=
  D.st (fun us => put us (blk b (.cells (cs' us).toArray T (0, 0)))) (fun us => put us (blk b (.cells (cs' us).toArray T (0, 0)))) h (fun us σ' w hle hfs hw => by
    have hw : Sat w0 M σ' (Kf us) w := hw
    obtain ⟨p, e⟩ := hform us σ' hfs
    have hb := hw.get (i := hf us)
    subst hsz
    have hcl : cellsL (us s) = [us s] := by rw [e]; rfl
    have := run_storeVarL (P := P) (t := t) (v := us s) hb hs.eq off (by rw [hcl]; rfl) (hr us) (by rw [e]; rfl)
    rw [hcl, hc us] at this
    exact ⟨_, by simp [execOp, hx us, hy us, Instr.storeAt, Instr.sureAddr, this], hw.put (i := hf us) _⟩) hE
end
end Go.JW
namespace Go.Proofs.YtaokfeonmgpjcaaGreatDoor
open Go.JW Go.RowKit
def coPV (v : Value) (n : Int) (tb : Nat) (gs : List GgD) : HP := ⟨fun g F => ∃ b, v = ptV b ∧ (coHP b n tb gs).h g F, fun ⟨b, h1, h2⟩ hg hi => ⟨b, h1, (coHP b n tb gs).loc h2 hg hi⟩⟩
abbrev woB (bw : Nat) (c t x y : Value) : HP := blk bw (.cells (List.toArray [c, t, x, y]) 44 (0, 0))
theorem coPV_of {g : VH} {b tb : Nat} {n : Int} {gs : List GgD} {K : List HP} {F : Nat → Prop} (h : SepIn g (coHP b n tb gs :: K) F) : SepIn g (coPV (ptV b) n tb gs :: K) F :=
  let ⟨F1, g1, g2⟩ := h; ⟨F1, ⟨_, rfl, g1⟩, g2⟩
theorem RS.openPV {f : FuncId} {R : Ending → World → Prop} {k : List Item} {nn : Nat} {fr : Nat → Value} {w0 : World} {M : Nat → Prop} {σ : PH} {K : List HP} {v : Value} {tb : Nat} {n : Int} {gs : List GgD}
    (h : ∀ b, v = ptV b → RS Tryz.prog f R k nn fr w0 M σ (coHP b n tb gs :: K)) : RS Tryz.prog f R k nn fr w0 M σ (coPV v n tb gs :: K) :=
  ⟨fun w hw => by
    obtain ⟨F1, ⟨b, h1, h2⟩, h4, h5⟩ := hw.sep
    exact (h b h1).out w ⟨hw.os, hw.tape, hw.output, hw.size, hw.keep, hw.imm, F1, h2, h4, h5⟩⟩
section
variable {w0 : World} {M : Nat → Prop} {σ : PH} {K : List HP}
structure W11 where
  w : Nat
  c : Nat
  t : Nat
  x : Nat
  y : Nat
abbrev woH (z : W11) : HP := woB z.w (ptV z.c) (ptV z.t) (ptV z.x) (ptV z.y)
theorem open_w (w : World) (hw : Sat w0 M σ K w) :
    Calls Tryz.prog 16 #[] w fun e w' => ∃ x : W11 × PH, e = .returned (ptV x.1.w) ∧ Sat w0 M x.2 (coHP x.1.c 3 x.1.t [] :: tapHP x.1.t [] 0 :: woH x.1 :: K) w' ∧ PH.le σ x.2 := by
  refine RS.enterK Tryz.func16 Tryz.ntmps16 rfl rfl hw ?_
  refine zN ?_; refine asP ?_; refine LS.done ?_
  refine zN ?_; skip
  refine callX (fun b : Nat => ptV b) (fun _ => σ) (fun b => tapHP b [] 0 :: K) (fun _ => True) (fun bt _ => ?_) (fun w' hw => (tnew_s w' hw).mono fun _ _ ⟨b, h1, h2⟩ => ⟨b, h1, h2, trivial⟩)
  refine bld (vals := []) [_, _] ?_; refine box_ (v := .agg _) (cs := [_, _]) (fun b4 => ?_); refine bld (vals := [(1, .pointer _), (3, .pointer _)]) [_, _, _, _] ?_; refine box_ (v := .agg _) (cs := [_, _, _, _]) (fun b6 => ?_); refine asP ?_; refine LS.done ?_
  refine zN ?_; refine mvP ?_; refine nilck ?_; refine fld ?_; refine ld1 (v := .pointer _) ?_; refine bin_eql_P ?_; refine LS.done ?_
  refine zN ?_; refine RS.condF ?_
  refine RS.to (K' := refHP b4 [] 0 :: tapHP bt [] 0 :: woB b6 (.pointer none) (ptV bt) (.pointer none) (ptV b4) :: K) ?_ ⟨fun h => ?_⟩
  rotate_left
  · obtain ⟨F1, h3, h4, h5⟩ := SepIn.group (A := [rowD 0 9 (.slice none 0 0) (refL []), rfB b4 (.slice none 0 0) 0]) (insNil (SepIn.swap h))
    exact SepIn.cons_sub (fun _ h => SepIn.swap h) (show SepIn _ (refHP b4 [] 0 :: woB b6 (.pointer none) (ptV bt) (.pointer none) (ptV b4) :: tapHP bt [] 0 :: K) _ from ⟨F1, ⟨_, h3⟩, h4, h5⟩)
  refine zD ?_; refine RS.draw [.free, .free, .free, .free, .free, .ex, .eff, .free, .free, .free, .ex, .eff, .free, .free, .st, .free, .free, .st] [woB b6 (.pointer none) (ptV bt) (.pointer none) (ptV b4)] ?_ (by kernel_rfl) (by kernel_rfl) (by infer_instance); refine D.mvP ?_; refine D.mvP ?_; refine D.mvP ?_; refine D.nilck ?_; refine D.fld ?_; refine D.ld1 (v := .pointer _) ?_
  refine D.callK [.int .i64 3, ptV bt] (fun v _ => ∃ b, v = ptV b) (fun _ _ _ h _ => h) (fun v => coPV v 3 bt [] :: refHP b4 [] 0 :: tapHP bt [] 0 :: woB b6 (.pointer none) (ptV bt) (.pointer none) (ptV b4) :: K) ?_ (hc := fun σ' w' X hle hw => (new0_s 3 w' (hw.ar (tapHP bt [] 0 :: X :: refHP b4 [] 0 :: woB b6 (.pointer none) (ptV bt) (.pointer none) (ptV b4) :: K))).mono fun _ _ ⟨x, h1, h2, h3⟩ => ⟨ptV x.1, x.2, h3, ⟨_, rfl⟩, h1, (h2.ar (X :: coHP x.1 3 bt [] :: refHP b4 [] 0 :: tapHP bt [] 0 :: woB b6 (.pointer none) (ptV bt) (.pointer none) (ptV b4) :: K)).weak fun _ h => SepIn.cons_sub (fun _ h => coPV_of h) h⟩)
  refine D.mvP ?_; refine D.nilck ?_; refine D.fld ?_; refine D.ld1 (v := .pointer _) ?_
  refine D.callS [.int .i64 3, ptV b4] (fun v _ => ∃ b, v = ptV b) (fun _ _ _ h _ => h) ?_ (hc := fun us σ' w' X hle hw => (rnew0_s 3 w' (hw.ar (refHP b4 [] 0 :: X :: coPV (us 18) 3 bt [] :: tapHP bt [] 0 :: woB b6 (.pointer none) (ptV bt) (.pointer none) (ptV b4) :: K))).mono fun _ _ ⟨x, h1, h2⟩ => ⟨ptV x, σ', PH.le_refl _, ⟨_, rfl⟩, h1, h2.ar _⟩)
  refine D.nilck ?_; refine D.fld ?_
  refine D.stP 18 (fun _ => [.pointer none, ptV bt, .pointer none, ptV b4]) (fun us => [us 18, ptV bt, .pointer none, ptV b4]) ?_ (fun us σ' hf => ?_)
  rotate_left
  · first | (obtain ⟨⟨b, e⟩, _⟩ := hf; exact ⟨_, e⟩) | (obtain ⟨_, ⟨b, e⟩, _⟩ := hf; exact ⟨_, e⟩)
  refine D.nilck ?_; refine D.fld ?_
  refine D.stP 23 (fun us => [us 18, ptV bt, .pointer none, ptV b4]) (fun us => [us 18, ptV bt, us 23, ptV b4]) ?_ (fun us σ' hf => ?_)
  rotate_left
  · first | (obtain ⟨⟨b, e⟩, _⟩ := hf; exact ⟨_, e⟩) | (obtain ⟨_, ⟨b, e⟩, _⟩ := hf; exact ⟨_, e⟩)
  refine D.done (fun us σ1 k1 hfs => ?_)
  obtain ⟨⟨bx, e23⟩, _⟩ := hfs
  rw [e23]
  refine RS.ow ?_
  refine RS.openPV (fun bc hbc => ?_)
  rw [hbc]
  refine RS.ar (coHP bc 3 bt [] :: tapHP bt [] 0 :: woB b6 (ptV bc) (ptV bt) (ptV bx) (ptV b4) :: K) ?_
  refine zN ?_; refine mvP ?_; refine nilck ?_; refine fld ?_; refine ld1 (v := .pointer _) ?_; refine bin_eql_P ?_; refine LS.done ?_
  refine zN ?_; refine RS.condF ?_
  refine zN ?_; refine mvP ?_; refine asP ?_; refine LS.done ?_
  refine zN ?_; refine RS.ret1 (v := .pointer _) Tryz.func16 fun w hw => ?_
  exact ⟨(⟨b6, bc, bt, bx, b4⟩, σ1), rfl, hw, k1⟩
end
end Go.Proofs.YtaokfeonmgpjcaaGreatDoor
namespace Go.Proofs.YtaokfeonmgpjcaaGreatDoor
open Go.JW Go.RowKit
def nameK (s : Int) : ByteArray := (⟨#[112]⟩ : ByteArray) ++ (List.foldl (fun (r : ByteArray) (n : Int) => r.push (UInt8.ofNat n.toNat)) ByteArray.empty [IntKind.u8.wrap (48 + s)])
def podK (s : Int) : PodD := ⟨nameK s, s, 0, 0, [], [], false⟩
def podsK (n : Nat) : List PodD := (List.range n).map fun (i : Nat) => podK ((i : Int) + 1)
theorem podsK_succ (n : Nat) : podsK (n + 1) = podsK n ++ [podK ((n : Int) + 1)] := by simp [podsK, List.range_succ]
theorem podsK_len (n : Nat) : (podsK n).length = n := by simp [podsK]
theorem nameK_size (s : Int) : (nameK s).size = 2 := by
  simp only [nameK, ByteArray.size_append, List.foldl]; rw [ByteArray.size_push]; rfl
theorem podK_rep (σ : PH) (s : Int) (hs : I64 s) : Rep.rep σ (podC (podK s) nilV nilV) (podK s) :=
  have z : I64 0 := ⟨by decide, by decide⟩
  ⟨_, _, rfl, by show (nameK s).size ≤ _; rw [nameK_size]; omega, hs, z, z, RepL.nil _ _ _, RepL.nil _ _ _⟩
theorem gang11_c (id : Int) (n : Nat) (hn : n ≤ 8) (w : World) : Calls Tryz.prog 25 #[.int .i64 id, .int .i64 n] w fun e w' => ∃ v, e = .returned (.agg (List.toArray [.int .i64 id, v])) ∧ Below w.heap.size w w' ∧ RepL (since w w') v (podsK n) := by
  refine RS.enter Tryz.func25 Tryz.ntmps25 rfl rfl ?_
  refine zN ?_; refine alloc_ (fun b4 => ?_); refine LS.done ?_
  refine zN ?_; refine mvI ?_; refine bld (vals := [(0, .int _ _)]) [_, _] ?_; refine alloc_ (fun b5 => ?_); refine st (.agg (List.toArray [.int .i64 id, nilV])) [.int .i64 id, nilV] ?_; refine LS.done ?_
  refine zN ?_; refine asI ?_; refine LS.done ?_
  refine zN ?_
  refine RS.nilD w.heap.size PodD 35 ?_
  refine RS.loopF (X := Nat × Value) 6 28 (fun x => x.1 ≤ n) (fun x => [(6, .int .i64 ((x.1 : Int) + 1))]) (fun _ => hp w) (fun x => rowD w.heap.size 35 x.2 (podsK x.1) :: gxB b5 id x.2 :: gxB b4 0 nilV :: []) (fun x => n - x.1) (0, nilV) (Nat.zero_le _) ⟨rfl, trivial⟩ rfl ⟨fun h => h⟩ ?_
  rintro ⟨i, v⟩ g hi ih
  dsimp only at hi
  have hpl := podsK_len i
  have hI : I64 ((i : Int) + 1) := ⟨by omega, by omega⟩
  refine zN ?_; refine mvI ?_; refine mvI ?_; refine JW.leI ?_; refine LS.done ?_
  refine zN ?_
  refine RS.cond (fun c => ?_) (fun c => ?_)
  · have c := of_decide_eq_true c
    have hf1 : (List.foldl (fun (r : ByteArray) (n : Int) => r.push (UInt8.ofNat n.toNat)) ByteArray.empty [IntKind.u8.wrap (48 + ((i : Int) + 1))]).size = 1 := by simp only [List.foldl]; rw [ByteArray.size_push]; rfl
    have hp1 : (⟨#[112]⟩ : ByteArray).size = 1 := rfl
    refine zN ?_; refine fld ?_; refine ld1 (v := v) ?_; refine mvI ?_; (first | refine addN ?_ | refine addI ?_); refine cvI ?_; refine bldS [.int .u8 (IntKind.u8.wrap (48 + ((i : Int) + 1)))] [.int .u8 (IntKind.u8.wrap (48 + ((i : Int) + 1)))] (fun b19 => ?_); refine b2sB [IntKind.u8.wrap (48 + ((i : Int) + 1))] ?_; refine addS ?_; refine mvI ?_; refine bld (vals := [(0, .string _), (1, .int _ _)]) [_, _, _, _, _, _, _] ?_; refine bldS [.agg (List.toArray (podC (podK ((i : Int) + 1)) nilV nilV))] (podC (podK ((i : Int) + 1)) nilV nilV) (fun b24 => ?_); refine appD (v := v) (l' := [podK ((i : Int) + 1)]) (vy := .slice (some ⟨b24, 0, none⟩) 1 1) (fun w' hw => ⟨_, srcB hw TSlice.eq, CellsL.one_ (podK_rep _ _ hI)⟩) (fun v25 => ?_) (hb := by simp; omega) (hm := by simp; omega); refine LS.formD (l := podsK i ++ [podK ((i : Int) + 1)]) v25 (fun a25 c25 e25 _ => ?_); subst e25; refine fld ?_; refine st (.slice _ _ _) _ ?_; refine LS.done ?_
    refine zN ?_; refine mvI ?_; (first | refine addN ?_ | refine addI ?_); refine asI ?_; refine LS.done ?_
    refine zN ?_
    exact ih (i + 1, _) (by (try dsimp only); omega) (by (try dsimp only); omega) ⟨by first | rfl | exact intV (by omega), trivial⟩ (by repeat (first | with_reducible exact Out.refl _ _ _ | exact Out.hv | refine Out.upd ?_ | refine Out.hvIn ?_)) ⟨fun h => by simp only [podsK_succ]; exact h.tail.tail⟩ rfl
  · have c := of_decide_eq_false c
    obtain rfl : i = n := by omega
    refine RS.exit ?_
    refine RS.formD (l := podsK i) v (fun a7 c7 e7 _ => ?_); subst e7
    refine zN ?_; refine ldA [_, _] ?_; refine st (.agg _) _ ?_; refine LS.done ?_
    refine zN ?_; refine RS.retC (ty := 28) Tryz.func25 [_, _] fun w hw => ?_
    exact ⟨_, rfl, hw.below, hw.rowNewD (l := podsK i) (Nat.le_refl _) (by omega)⟩
def AllP (l : List MsgD) (kd : Int) (n : Nat) (y : Bool) : Prop := l.length = n ∧ ∀ i (h : i < l.length), l[i].kind = kd ∧ l[i].frm = 0 ∧ l[i].dst = (i : Int) + 1 ∧ l[i].yes = y
theorem all11_c (l : List MsgD) (v : Value) (kd : Int) (n : Nat) (y : Bool) (w : World) (hl : l.length ≤ 100000) (_ : n ≤ 100000) (h : RepL (hp w) v l) : Calls Tryz.prog 29 #[v, .int .i64 kd, .int .i64 n, .bool y] w fun e w' => ∃ r, e = .returned (.bool r) ∧ Below w.heap.size w w' ∧ (AllP l kd n y → r = true) := by
  obtain ⟨a, c, rfl⟩ := h.form
  refine RS.enter Tryz.func29 Tryz.ntmps29 rfl rfl ?_
  refine zN ?_; refine asB ?_; refine LS.done ?_
  refine zN ?_; refine mvL ?_; refine lenL ?_; refine mvI ?_; refine neI ?_; refine LS.done ?_
  refine zN ?_
  by_cases hln : l.length = n
  · refine RS.condF ?_ (h := by simp [hln])
    refine zN ?_; refine asI ?_; refine LS.done ?_
    refine zN ?_
    refine RS.loopF (X := Nat) 9 54 (fun x => x ≤ l.length) (fun x => [(9, .int .i64 x)]) (fun _ => hp w) (fun _ => []) (fun x => l.length - x) 0 (Nat.zero_le _) ⟨rfl, trivial⟩ rfl ⟨fun h => h⟩ ?_
    rintro i g hi ih
    refine zN ?_; refine mvI ?_; refine mvL ?_; refine lenL ?_; refine ltI ?_; refine LS.done ?_
    refine zN ?_
    refine RS.cond (fun c => ?_) (fun c => ?_)
    · have c := of_decide_eq_true c
      have hlt : i < l.length := by omega
      obtain ⟨b1, o1, rfl, hrow⟩ := h.addr (fun h => by simp [h] at hlt)
      obtain ⟨vs, hcs, hrep⟩ := hrow i hlt
      obtain ⟨vp, vq, rfl, _⟩ := id hrep
      have sz7 : Rep.sz MsgD = 7 := rfl
      have c0 : (hp w).cell b1 (o1 + i * 7 + 0) = some (.int .i64 l[i].kind) := hcs 0 (by omega)
      have c1 : (hp w).cell b1 (o1 + i * 7 + 1) = some (.int .i64 l[i].frm) := hcs 1 (by omega)
      have c2 : (hp w).cell b1 (o1 + i * 7 + 2) = some (.int .i64 l[i].dst) := hcs 2 (by omega)
      have c6 : (hp w).cell b1 (o1 + i * 7 + 6) = some (.bool l[i].yes) := hcs 6 (by omega)
      have hP : AllP l kd n y → l[i].kind = kd ∧ l[i].frm = 0 ∧ l[i].dst = (i : Int) + 1 ∧ l[i].yes = y := fun h => h.2 i hlt
      obtain ⟨m, hm⟩ : ∃ m, m = l[i] := ⟨_, rfl⟩
      rw [← hm] at c0 c1 c2 c6 hP
      refine zN ?_; refine mvL ?_; refine mvI ?_; refine idx (i := i) ?_; refine fld ?_; refine ldS c0 ?_; refine mvI ?_; refine neI ?_; refine mvB ?_
      refine LS.cut 27 54 [(53, .bool (decide (¬ (m.kind = kd ∧ m.frm = 0 ∧ m.dst = (i : Int) + 1 ∧ m.yes = y))))] (fun gg => ?_) (fun J => ?_)
      rotate_left
      · refine LS.part 27 (fun z => ?_) (fun z => ?_)
        · simp only [Bool.not_eq_true', decide_eq_false_iff_not] at z
          refine LS.off ?_; refine LS.off ?_; refine LS.off ?_; refine LS.off ?_; refine LS.off ?_; refine LS.off ?_; refine pk (v := .bool _) ?_; refine mvB ?_; refine LS.off ?_; refine LS.off ?_; refine LS.off ?_; refine LS.off ?_; refine LS.off ?_; refine LS.off ?_; refine LS.off ?_; refine LS.off ?_; refine pk (v := .bool _) ?_; refine mvB ?_; refine LS.off ?_; refine LS.off ?_; refine LS.off ?_; refine LS.off ?_; refine LS.off ?_; refine LS.off ?_; refine LS.off ?_; refine pk (v := .bool _) ?_; refine LS.done ?_
          exact J ⟨boolV (by symm; apply decide_eq_true; rintro ⟨h1, _⟩; exact z h1), trivial⟩ (by repeat (first | with_reducible exact Out.refl _ _ _ | exact Out.hv | refine Out.upd ?_ | refine Out.hvIn ?_))
        · simp only [Bool.not_eq_false', decide_eq_true_eq] at z
          refine LS.on ?_; refine mvL ?_; refine LS.on ?_; refine mvI ?_; refine LS.on ?_; refine idx (i := i) ?_; refine LS.on ?_; refine fld ?_; refine LS.on ?_; refine ldS c1 ?_; refine LS.on ?_; refine neI ?_; refine pk (v := .bool _) ?_; refine mvB ?_
          refine LS.part 35 (fun z2 => ?_) (fun z2 => ?_)
          · simp only [Bool.not_eq_true', decide_eq_false_iff_not] at z2
            refine LS.off ?_; refine LS.off ?_; refine LS.off ?_; refine LS.off ?_; refine LS.off ?_; refine LS.off ?_; refine LS.off ?_; refine LS.off ?_; refine pk (v := .bool _) ?_; refine mvB ?_; refine LS.off ?_; refine LS.off ?_; refine LS.off ?_; refine LS.off ?_; refine LS.off ?_; refine LS.off ?_; refine LS.off ?_; refine pk (v := .bool _) ?_; refine LS.done ?_
            exact J ⟨boolV (by symm; apply decide_eq_true; rintro ⟨_, h1, _⟩; exact z2 h1), trivial⟩ (by repeat (first | with_reducible exact Out.refl _ _ _ | exact Out.hv | refine Out.upd ?_ | refine Out.hvIn ?_))
          · simp only [Bool.not_eq_false', decide_eq_true_eq] at z2
            refine LS.on ?_; refine mvL ?_; refine LS.on ?_; refine mvI ?_; refine LS.on ?_; refine idx (i := i) ?_; refine LS.on ?_; refine fld ?_; refine LS.on ?_; refine ldS c2 ?_; refine LS.on ?_; refine mvI ?_; refine LS.on ?_; (first | refine addN ?_ | refine addI ?_); refine LS.on ?_; refine neI ?_; refine pk (v := .bool _) ?_; refine mvB ?_
            refine LS.part 45 (fun z3 => ?_) (fun z3 => ?_)
            · simp only [Bool.not_eq_true', decide_eq_false_iff_not] at z3
              refine LS.off ?_; refine LS.off ?_; refine LS.off ?_; refine LS.off ?_; refine LS.off ?_; refine LS.off ?_; refine LS.off ?_; refine pk (v := .bool _) ?_; refine LS.done ?_
              exact J ⟨boolV (by symm; apply decide_eq_true; rintro ⟨_, _, h1, _⟩; exact z3 h1), trivial⟩ (by repeat (first | with_reducible exact Out.refl _ _ _ | exact Out.hv | refine Out.upd ?_ | refine Out.hvIn ?_))
            · simp only [Bool.not_eq_false', decide_eq_true_eq] at z3
              refine LS.on ?_; refine mvL ?_; refine LS.on ?_; refine mvI ?_; refine LS.on ?_; refine idx (i := i) ?_; refine LS.on ?_; refine fld ?_; refine LS.on ?_; refine ldS c6 ?_; refine LS.on ?_; refine mvB ?_; refine LS.on ?_; refine bin_neq_B ?_; refine pk (v := .bool _) ?_; refine LS.done ?_
              exact J ⟨boolV (by cases hy : m.yes <;> cases y <;> simp [z, z2, z3]), trivial⟩ (by repeat (first | with_reducible exact Out.refl _ _ _ | exact Out.hv | refine Out.upd ?_ | refine Out.hvIn ?_))
      refine zN ?_
      refine RS.cond (fun q => ?_) (fun q => ?_)
      · have q := of_decide_eq_true q
        refine zN ?_; refine asB ?_; refine LS.done ?_
        refine zN ?_; refine RS.ret1 (v := .bool _) Tryz.func29 fun w hw => ?_
        exact ⟨_, rfl, hw.below, fun h => absurd (hP h) q⟩
      · refine zN ?_; refine mvI ?_; (first | refine addN ?_ | refine addI ?_); refine asI ?_; refine LS.done ?_
        refine zN ?_
        exact ih (i + 1) hlt (by omega) ⟨rfl, trivial⟩ (by repeat (first | with_reducible exact Out.refl _ _ _ | exact Out.hv | refine Out.upd ?_ | refine Out.hvIn ?_)) ⟨fun h => h⟩ rfl
    · have c := of_decide_eq_false c
      refine RS.exit ?_
      refine zN ?_; refine asB ?_; refine LS.done ?_
      refine zN ?_; refine RS.ret1 (v := .bool _) Tryz.func29 fun w hw => ?_
      exact ⟨_, rfl, hw.below, fun _ => rfl⟩
  · refine RS.condT ?_ (h := by simp; omega)
    refine zN ?_; refine asB ?_; refine LS.done ?_
    refine zN ?_; refine RS.ret1 (v := .bool _) Tryz.func29 fun w hw => ?_
    exact ⟨_, rfl, hw.below, fun h => absurd h.1 hln⟩
end Go.Proofs.YtaokfeonmgpjcaaGreatDoor
namespace Go.Proofs.YtaokfeonmgpjcaaGreatDoor
open Go.JW Go.RowKit
theorem nameK_ok : ∀ s ∈ ([1, 2, 3, 4] : List Int), isName (nameK s) = true := by decide +kernel
theorem podsK_err {n : Nat} (hn : n ≤ 4) (sh : Int) (hs : (n : Int) ≤ sh) : firstErr sh (podsK n) = 0 := by
  refine firstErr_zero fun i hi => ?_
  rw [podsK_len] at hi
  have e : (podsK n)[i]'(by rw [podsK_len]; exact hi) = podK ((i : Int) + 1) := by simp [podsK]
  rw [e]
  have h4 : ((i : Int) + 1) ∈ ([1, 2, 3, 4] : List Int) := by
    have : i = 0 ∨ i = 1 ∨ i = 2 ∨ i = 3 := by omega
    rcases this with rfl | rfl | rfl | rfl <;> decide
  unfold podErr
  rw [if_neg (by rw [show (podK ((i : Int) + 1)).name = nameK ((i : Int) + 1) from rfl, nameK_ok _ h4]; simp)]
  rw [if_neg, if_neg]
  · show ¬ (!isSet [] || !isSet []) = true
    decide
  · show ¬ (decide ((i : Int) + 1 < 1) || decide (sh < (i : Int) + 1) || !sizeOk 0 0) = true
    have h0 : sizeOk 0 0 = true := by decide
    rw [h0]; simp; omega
theorem podsK_names : ((podsK 4).map PodD.name).Nodup := by decide +kernel
theorem podsK_dup {n : Nat} (hn : n ≤ 4) : ¬ Dup (podsK n) (podsK n).length := by
  rintro ⟨i, j, h1, h2, hi, hj, he⟩
  rw [podsK_len] at h2
  have e : ∀ k (hk : k < (podsK n).length), (podsK n)[k] = podK ((k : Int) + 1) := fun k hk => by simp [podsK]
  rw [e, e] at he
  have hp := List.pairwise_iff_getElem.1 podsK_names
  have e4 : ∀ k (hk : k < ((podsK 4).map PodD.name).length), ((podsK 4).map PodD.name)[k] = nameK ((k : Int) + 1) := fun k hk => by simp [podsK, podK]
  have := hp j i (by simp [podsK]; omega) (by simp [podsK]; omega) h1
  rw [e4, e4] at this
  exact this he.symm
theorem gangK_err {n : Nat} (h1 : 1 ≤ n) (hn : n ≤ 4) (id sh : Int) (hid : 1 ≤ id ∧ id ≤ 999999) (hs : (n : Int) ≤ sh) : gangErr ⟨id, podsK n⟩ sh = 0 := by
  unfold gangErr
  dsimp only
  rw [if_neg (by omega), if_neg (by rw [podsK_len]; omega), podsK_err hn sh hs, if_neg (by simp), if_neg (podsK_dup hn)]
def upTo (n : Nat) : List Int := (List.range n).map fun (i : Nat) => (i : Int) + 1
theorem shardsK (n : Nat) : shardsOf (podsK n) = upTo n := by
  refine Rising.ext (shards_rising _) ?_ fun x => ?_
  · unfold Rising upTo
    rw [List.pairwise_map]
    exact (List.pairwise_lt_range (n := n)).imp fun h => by omega
  · rw [mem_shards]
    simp [shardL, podsK, upTo, podK]
def gangK (id : Int) (n : Nat) : GangD := ⟨id, podsK n⟩
def ggK (id : Int) (n : Nat) : GgD := ⟨id, 1, 0, podsK n, upTo n, upTo n⟩
theorem submitK {n : Nat} (h1 : 1 ≤ n) (hn : n ≤ 4) (id sh : Int) (hid : 1 ≤ id ∧ id ≤ 999999) (hs : (n : Int) ≤ sh) : submitP sh ⟨[], []⟩ (gangK id n) = (⟨[ggK id n], [recP 7 id (upTo n)]⟩, allP (ggK id n), 0) := by
  rw [submit_yes (by rw [show gangK id n = ⟨id, podsK n⟩ from rfl, gangK_err h1 hn id sh hid hs]; simp) (by simp [findP])]
  unfold madeG
  rw [show (gangK id n).pods = podsK n from rfl, shardsK]
  rfl
theorem okK {n : Nat} (h1 : 1 ≤ n) (hn : n ≤ 4) (id : Int) (hid : 1 ≤ id ∧ id ≤ 999999) : CoOk ⟨[ggK id n], [recP 7 id (upTo n)]⟩ := by
  have h := CoOk.nil.submit (n := 4) (by omega) (gangK id n)
  rw [submitK h1 hn id 4 hid (by omega)] at h
  exact h
theorem oksK {n : Nat} (h1 : 1 ≤ n) (hn : n ≤ 4) (id : Int) (hid : 1 ≤ id ∧ id ≤ 999999) : Oks [recP 7 id (upTo n)] := fun r hr => by
  rw [List.mem_singleton.1 hr]
  exact rec_ok7 ((okK h1 hn id hid).gs (ggK id n) (by simp))
end Go.Proofs.YtaokfeonmgpjcaaGreatDoor
namespace Go.JW
section
variable {P : Program} {f : FuncId} {R : Ending → World → Prop} {k : List Item} {n : Nat} {fr : Nat → Value} {w0 : World} {M : Nat → Prop} {σ : PH} {K K' : List HP} {ops : Array Oper}
theorem LS.frozenL {α : Type} [Rep α] {L : List Oper} (l : List α) (b : Nat) {e : Nat} {cs : List Value} {put : HP → List HP} (hc : CellsL σ cs l) (h : ∀ σ', PH.le σ σ' → RepL σ' (.slice (some ⟨b, 0, none⟩) l.length l.length) l → LS P false ops f R k L n fr w0 M σ' K')
    (hf : FindB b K (.cells (List.toArray cs) e (0, 0)) put K' := by infer_instance) (hl : l.length ≤ 140737488355328 := by first | decide | (simp; done) | (simp; omega)) : LS P false ops f R k L n fr w0 M σ K := by
  have h1 : LS P false ops f R k L n fr w0 M σ (rowD 0 e (.slice (some ⟨b, 0, none⟩) l.length l.length) l :: K') := LS.freeze0 (l := l) _ h (hl := hl) (hf := FindD.head)
  refine ⟨fun w hw => h1.out w (hw.weak fun F hF => ?_)⟩
  obtain ⟨F1, ⟨g1, g2⟩, g3, g4⟩ := hf.get hF
  exact ⟨F1, ⟨cs, by rw [fromN_zero]; exact hc, by rw [hc.len], hc.one, _, _, rfl, Nat.le_refl _, by omega, .inr ⟨b, cs, rfl, g1, g2, by rw [hc.len]; exact Nat.le_refl _, by rw [← hc.len]; simp⟩⟩, g3, g4⟩
end
end Go.JW
namespace Go.Proofs.YtaokfeonmgpjcaaGreatDoor
open Go.JW Go.RowKit
def podN : PodD := ⟨⟨#[112]⟩, 2, 0, 0, [], [], false⟩
def gangN : GangD := ⟨4, [podN]⟩
def ggN : GgD := ⟨4, 1, 0, [podN], [2], [2]⟩
theorem podN_rep (σ : PH) : Rep.rep σ (podC podN nilV nilV) podN :=
  ⟨_, _, rfl, by decide, by decide, by decide, by decide, RepL.nil _ _ _, RepL.nil _ _ _⟩
theorem gangN_err : gangErr gangN 2 = 0 := by
  have h1 : podErr podN 2 = 0 := by decide +kernel
  unfold gangErr
  rw [if_neg (by decide), if_neg (by decide), if_neg (by simp [gangN, firstErr, h1]), if_neg]
  rintro ⟨i, j, h1, h2, _⟩
  simp only [gangN, List.length_cons, List.length_nil] at h2
  omega
theorem submitN : submitP 2 ⟨[], []⟩ gangN = (⟨[ggN], [recP 7 4 [2]]⟩, [⟨1, 0, 2, 4, [podN], [], false⟩], 0) := by
  have hs : shardsOf gangN.pods = [2] := Rising.ext (shards_rising _) (by simp [Rising]) fun x => by rw [mem_shards]; simp [shardL, gangN, podN]
  rw [submit_yes (by rw [gangN_err]; simp) (by simp [findP])]
  unfold madeG
  rw [hs]
  rfl
section
variable {w0 : World} {M : Nat → Prop} {σ : PH} {K : List HP}
theorem known11_s (hL : LibAt σ) (w : World) (hw : Sat w0 M σ K w) :
    Calls Tryz.prog 15 #[] w fun e w' => ∃ v σ', PH.le σ σ' ∧ v = .bool true ∧ e = .returned v ∧ Sat w0 M σ' K w' := by
  refine RS.enterK Tryz.func15 Tryz.ntmps15 rfl rfl hw ?_
  refine zN ?_; refine asB ?_; refine LS.done ?_
  refine zN ?_; skip
  refine callX (fun b : Nat => ptV b) (fun _ => σ) (fun b => tapHP b [] 0 :: K) (fun _ => True) (fun bt _ => ?_) (fun w' hw => (tnew_s w' hw).mono fun _ _ ⟨b, h1, h2⟩ => ⟨b, h1, h2, trivial⟩)
  refine asP ?_; refine LS.done ?_
  refine zN ?_; refine mvP ?_; refine bin_eql_P ?_; refine LS.done ?_
  refine zN ?_; refine RS.condF ?_
  refine zN ?_; refine mvP ?_
  refine callX (fun x : Nat × PH => ptV x.1) (fun x => x.2) (fun x => coHP x.1 2 bt [] :: tapHP bt [] 0 :: K) (fun x => PH.le σ x.2) (fun x hx => ?_) (fun w' hw => new0_s 2 w' hw)
  obtain ⟨bc, σ1⟩ := x
  dsimp only at hx ⊢
  have k1 : PH.le σ σ1 := hx
  refine asP ?_; refine LS.done ?_
  refine zN ?_; refine mvP ?_; refine bin_eql_P ?_; refine mvB ?_; refine LS.on ?_; refine mvP ?_; refine LS.on ?_
  refine callS _ (coHP bc 2 bt [] :: tapHP bt [] 0 :: K) ?_ (hc := fun w' hw => state_s 4 List.Pairwise.nil (fun _ h => absurd h (List.not_mem_nil)) w' hw)
  refine LS.on ?_; refine neI ?_; refine pk (v := .bool _) ?_; refine LS.done ?_
  refine zN ?_; refine RS.condF ?_
  refine zN ?_; refine mvP ?_; refine bld (vals := [(0, .string _), (1, .int _ _)]) [_, _, _, _, _, _, _] ?_; refine bldS [.agg (List.toArray (podC podN nilV nilV))] (podC podN nilV nilV) (fun b20 => ?_); refine LS.frozenL [podN] b20 (CellsL.one_ (podN_rep _)) (fun σ2 k2 h20 => ?_); refine bld (vals := [(0, .int _ _), (1, .slice _ _ _)]) [_, _] ?_
  have hsub := submitN
  refine callQ (fun v σ' => AnsM [⟨1, 0, 2, 4, [podN], [], false⟩] 0 v σ') (coHP bc 2 bt [ggN] :: tapHP bt [recP 7 4 [2]] 1 :: K) (fun v22 σ3 k3 h22 => ?_) (hc := fun w' hw => by
    have h := submit_s (sh := 2) (bc := bc) (tb := bt) (K := K) (c := ⟨[], []⟩) gangN _ ⟨by decide, by decide⟩ h20 (by omega) CoOk.nil oks_nil (by simp) (hL.mono (PH.le_trans k1 k2)) w' hw
    rw [hsub] at h
    exact h)
  obtain ⟨a22, c22, rfl, hr22⟩ := h22
  obtain ⟨b1, o1, rfl, hrow⟩ := hr22.addr (by simp)
  obtain ⟨vs, hcs, vp, vq, rfl, _⟩ := hrow 0 (by simp)
  have sz7 : Rep.sz MsgD = 7 := rfl
  have c0 : σ3.cell b1 (o1 + 0 * 7 + 0) = some (.int .i64 1) := hcs 0 (by omega)
  have c2 : σ3.cell b1 (o1 + 0 * 7 + 2) = some (.int .i64 2) := hcs 2 (by omega)
  refine mvT ?_; refine extr (v := .slice _ _ _) ?_; refine extr (v := .int _ _) ?_; refine asL ?_; refine asI ?_; refine LS.done ?_
  have hokN : CoOk ⟨[ggN], [recP 7 4 [2]]⟩ := by
    have h := CoOk.nil.submit (n := 2) (by omega) gangN
    rw [hsub] at h; exact h
  refine zN ?_; refine mvI ?_; refine eqI ?_; refine mvB ?_; refine LS.on ?_; refine mvL ?_; refine LS.on ?_; refine lenL ?_; refine LS.on ?_; refine eqI ?_; refine pk (v := .bool _) ?_; refine mvB ?_; refine LS.on ?_; refine mvL ?_; refine LS.on ?_; refine idx (i := 0) ?_ (hi := by simp); refine LS.on ?_; refine fld ?_; refine LS.on ?_; refine ldS c0 ?_; refine LS.on ?_; refine eqI ?_; refine pk (v := .bool _) ?_; refine mvB ?_; refine LS.on ?_; refine mvL ?_; refine LS.on ?_; refine idx (i := 0) ?_ (hi := by simp); refine LS.on ?_; refine fld ?_; refine LS.on ?_; refine ldS c2 ?_; refine LS.on ?_; refine eqI ?_; refine pk (v := .bool _) ?_; refine mvB ?_; refine LS.on ?_; refine mvP ?_; refine LS.on ?_
  refine callS _ (coHP bc 2 bt [ggN] :: tapHP bt [recP 7 4 [2]] 1 :: K) ?_ (hc := fun w' hw => state_s 4 hokN.ids hokN.gs w' hw)
  refine LS.on ?_; refine eqI ?_; refine pk (v := .bool _) ?_; refine mvB ?_; refine LS.on ?_; refine mvP ?_; refine LS.on ?_
  refine callS _ (coHP bc 2 bt [ggN] :: tapHP bt [recP 7 4 [2]] 1 :: K) ?_ (hc := fun w' hw => (lasting_s (b := bt) (rs := [recP 7 4 [2]]) (n := 1) (K := coHP bc 2 bt [ggN] :: K) w' (hw.ar _)).mono fun _ _ h => ⟨h.1, h.2.ar _⟩)
  refine LS.on ?_; refine eqI ?_; refine pk (v := .bool _) ?_; refine asB ?_; refine LS.done ?_
  refine zN ?_; refine RS.ret1 (v := .bool _) Tryz.func15 fun w hw => ?_
  exact ⟨_, σ3, PH.le_trans k1 (PH.le_trans k2 k3), rfl, rfl, hw.weak fun F h => h.tail.tail⟩
end
end Go.Proofs.YtaokfeonmgpjcaaGreatDoor
namespace Go.Proofs.YtaokfeonmgpjcaaGreatDoor
open Go.JW Go.RowKit
structure Inv (c : CoD) (k : Nat) : Prop where
  ok : CoOk c
  recs : Oks c.rs
  len : c.rs.length ≤ k
theorem getG_rec {g : GgD} (m : MsgD) : (getG g m).2.1 = [] ∨ (getG g m).2.1 = [recP 4 g.id []] := (get_back g m).elim (fun h => .inl h.1) fun h => .inr h.1
theorem Inv.get {c : CoD} {k : Nat} (h : Inv c k) (m : MsgD) : Inv (getP c m).1 (k + 1) := by
  have hl := h.len
  refine ⟨h.ok.get m, ?_, ?_⟩
  all_goals unfold getP
  all_goals split
  · exact h.recs
  · cases hf : findP c.gs m.gang with
    | none => exact h.recs
    | some g =>
      dsimp only
      split
      · rcases getG_rec (g := g) m with e | e
        · dsimp only; rw [e, List.append_nil]; exact h.recs
        · dsimp only; rw [e]; exact oks_app h.recs (rec_ok46 4 (.inl rfl) _ (h.ok.gs g (find_mem hf).1).id)
      · exact h.recs
  · show c.rs.length ≤ k + 1; omega
  · cases hf : findP c.gs m.gang with
    | none => show c.rs.length ≤ k + 1; omega
    | some g =>
      dsimp only
      split
      · rcases getG_rec (g := g) m with e | e
        · dsimp only; rw [e, List.append_nil]; omega
        · dsimp only; rw [e, List.length_append]; simp; omega
      · show c.rs.length ≤ k + 1; omega
theorem Inv.tick {c : CoD} {k : Nat} (h : Inv c k) : Inv (tickP c).1 k := ⟨h.ok.tick, h.recs, h.len⟩
theorem Inv.cancel {c : CoD} {k : Nat} (h : Inv c k) (id : Int) : Inv (cancelP c id).1 k := by
  have e : (cancelP c id).1.rs = c.rs := by
    cases hf : findP c.gs id with
    | none => rw [cancel_none hf]
    | some g =>
      by_cases ho : openP g
      · rw [cancel_open hf ho]
      · rw [cancel_shut hf ho]
  exact ⟨h.ok.cancel id, by rw [e]; exact h.recs, by rw [e]; exact h.len⟩
theorem Inv.submit {c : CoD} {k : Nat} {n : Int} (h : Inv c k) (hn : n ≤ 4) (g : GangD) : Inv (submitP n c g).1 (k + 1) := by
  have hl := h.len
  have h1 := h.ok.submit hn g
  by_cases hg : gangErr g n ≠ 0
  · rw [submit_bad hg]; exact ⟨h.ok, h.recs, by show c.rs.length ≤ k + 1; omega⟩
  · by_cases hs : (findP c.gs g.id).isSome = true
    · rw [submit_twice hg hs]; exact ⟨h.ok, h.recs, by show c.rs.length ≤ k + 1; omega⟩
    · rw [submit_yes hg hs] at h1 ⊢
      exact ⟨h1, oks_app h.recs (rec_ok7 (GgOk.of (Decidable.not_not.1 hg) hn)), by show (c.rs ++ [_]).length ≤ k + 1; rw [List.length_append]; simp; omega⟩
theorem gs_len {c : CoD} (h : CoOk c) : c.gs.length ≤ c.rs.length := by
  have h1 : ∀ (rs : List RecD) (gs : List GgD), (rs.foldl newS gs).length ≤ gs.length + rs.length := by
    intro rs
    induction rs with
    | nil => intro gs; simp
    | cons r rs ih =>
      intro gs
      rw [List.foldl_cons, List.length_cons]
      have := ih (newS gs r)
      have h2 : (newS gs r).length ≤ gs.length + 1 := by
        unfold newS
        split
        · rw [(put_perm _ _).length_eq]; simp
        · split
          · simp [modP]
          · split <;> simp [modP]
      omega
  have := h1 c.rs []
  have e := congrArg List.length h.back
  rw [List.length_map] at e
  unfold newP at e
  simp at this
  omega
abbrev CS (z : W11) (c : CoD) (K : List HP) : List HP := coHP z.c 3 z.t c.gs :: tapHP z.t c.rs c.rs.length :: woH z :: K
abbrev sgM (m : MsgD) : Int × Int × Int × Bool := (m.kind, m.frm, m.dst, m.yes)
theorem AllP.of {l : List MsgD} {kd : Int} {n : Nat} {y : Bool} (h : l.map sgM = (List.range n).map fun (i : Nat) => (kd, 0, (i : Int) + 1, y)) : AllP l kd n y := by
  have hl := congrArg List.length h
  simp only [List.length_map, List.length_range] at hl
  refine ⟨hl, fun i hi => ?_⟩
  have := congrArg (fun q => q[i]?) h
  simp only [List.getElem?_map, List.getElem?_eq_getElem hi, List.getElem?_range (show i < n by omega), Option.map_some, Option.some.injEq, Prod.mk.injEq] at this
  exact ⟨this.1, this.2.1, this.2.2.1, this.2.2.2⟩
section
variable {f : FuncId} {R : Ending → World → Prop} {k : List Item} {nn : Nat} {fr : Nat → Value} {w0 : World} {M : Nat → Prop} {σ : PH} {K : List HP} {ops : Array Oper}
variable {rest : List Oper} {d : Nat} {ty : TypeId} {pos : String} {aft : Array Edge} {xs : Array Operand} {ts : Array TypeId} {z : W11} {c : CoD} {q : Nat}
theorem getL (hi : Inv c q) (m : MsgD) (hm : I64 m.frm ∧ I64 m.gang) (hp : m.pods = []) (hq2 : m.peers = []) (hL : LibAt σ)
    (h : ∀ a cp σ', PH.le σ σ' → LibAt σ' → RepL σ' (.slice a (getP c m).2.length cp) (getP c m).2 → LS Tryz.prog false ops f R k rest nn (upd fr d (.slice a (getP c m).2.length cp)) w0 M σ' (CS z (getP c m).1 K))
    (hq : q ≤ 900 := by omega) (hx : xs.toList.map (ev nn fr) = [ptV z.c, .agg (List.toArray (msgC m nilV nilV))] := by rfl) :
    LS Tryz.prog false ops f R k (⟨some d, .call ⟨.value (.func 30), xs, ts⟩, ty, pos, aft, none⟩ :: rest) nn fr w0 M σ (CS z c K) :=
  callQ (fun v σ' => RepL σ' v (getP c m).2) (CS z (getP c m).1 K) (fun v σ' hle hr => by obtain ⟨a, cp, rfl⟩ := hr.form; exact h a cp σ' hle (hL.mono hle) hr)
    (fun w hw => get_s (K := woH z :: K) nilV nilV (by rw [hp]; exact RepL.nil _ _ _) (by rw [hq2]; exact RepL.nil _ _ _) hm.1 hm.2 hi.ok hi.recs (Nat.le_trans hi.len hq) hL w hw) hx
theorem tickL (hi : Inv c q) (hL : LibAt σ)
    (h : ∀ a cp σ', PH.le σ σ' → LibAt σ' → RepL σ' (.slice a (tickP c).2.length cp) (tickP c).2 → LS Tryz.prog false ops f R k rest nn (upd fr d (.slice a (tickP c).2.length cp)) w0 M σ' (CS z (tickP c).1 K))
    (hq : q ≤ 900 := by omega) (hx : xs.toList.map (ev nn fr) = [ptV z.c] := by rfl) :
    LS Tryz.prog false ops f R k (⟨some d, .call ⟨.value (.func 20), xs, ts⟩, ty, pos, aft, none⟩ :: rest) nn fr w0 M σ (CS z c K) :=
  callQ (fun v σ' => RepL σ' v (tickP c).2) (CS z (tickP c).1 K) (fun v σ' hle hr => by obtain ⟨a, cp, rfl⟩ := hr.form; exact h a cp σ' hle (hL.mono hle) hr)
    (fun w hw => tick_s (K := tapHP z.t c.rs c.rs.length :: woH z :: K) hi.ok.ids hi.ok.gs (by have := gs_len hi.ok; have := hi.len; omega) w hw) hx
theorem stateL11 (hi : Inv c q) (id : Int) (h : LS Tryz.prog false ops f R k rest nn (upd fr d (.int .i64 (stateP c.gs id))) w0 M σ (CS z c K)) (hx : xs.toList.map (ev nn fr) = [ptV z.c, .int .i64 id] := by rfl) :
    LS Tryz.prog false ops f R k (⟨some d, .call ⟨.value (.func 22), xs, ts⟩, ty, pos, aft, none⟩ :: rest) nn fr w0 M σ (CS z c K) :=
  callS _ (CS z c K) h (hc := fun w hw => state_s (K := tapHP z.t c.rs c.rs.length :: woH z :: K) id hi.ok.ids hi.ok.gs w hw) (hx := hx)
theorem waitsL (hi : Inv c q) (id : Int) (hL : LibAt σ)
    (h : ∀ a cp σ', PH.le σ σ' → LibAt σ' → RepL σ' (.slice a (waitsP c.gs id).length cp) (waitsP c.gs id) → LS Tryz.prog false ops f R k rest nn (upd fr d (.slice a (waitsP c.gs id).length cp)) w0 M σ' (CS z c K))
    (hx : xs.toList.map (ev nn fr) = [ptV z.c, .int .i64 id] := by rfl) :
    LS Tryz.prog false ops f R k (⟨some d, .call ⟨.value (.func 31), xs, ts⟩, ty, pos, aft, none⟩ :: rest) nn fr w0 M σ (CS z c K) :=
  callQ (fun v σ' => RepL σ' v (waitsP c.gs id)) (CS z c K) (fun v σ' hle hr => by obtain ⟨a, cp, rfl⟩ := hr.form; exact h a cp σ' hle (hL.mono hle) hr)
    (fun w hw => waits_s (K := tapHP z.t c.rs c.rs.length :: woH z :: K) id hi.ok.ids hi.ok.gs w hw) hx
theorem gangsL (hi : Inv c q) (hL : LibAt σ)
    (h : ∀ a cp σ', PH.le σ σ' → LibAt σ' → RepL σ' (.slice a (c.gs.map (·.id)).length cp) (c.gs.map (·.id)) → LS Tryz.prog false ops f R k rest nn (upd fr d (.slice a (c.gs.map (·.id)).length cp)) w0 M σ' (CS z c K))
    (hq : q ≤ 900 := by omega) (hx : xs.toList.map (ev nn fr) = [ptV z.c] := by rfl) :
    LS Tryz.prog false ops f R k (⟨some d, .call ⟨.value (.func 28), xs, ts⟩, ty, pos, aft, none⟩ :: rest) nn fr w0 M σ (CS z c K) :=
  callQ (fun v σ' => RepL σ' v (c.gs.map (·.id))) (CS z c K) (fun v σ' hle hr => by obtain ⟨a, cp, rfl⟩ := hr.form; exact h a cp σ' hle (hL.mono hle) hr)
    (fun w hw => gangs_s (K := tapHP z.t c.rs c.rs.length :: woH z :: K) hi.ok.ids hi.ok.gs (by have := gs_len hi.ok; have := hi.len; omega) w hw) hx
theorem cancelL (hi : Inv c q) (id : Int) (hL : LibAt σ)
    (h : ∀ a cp σ', PH.le σ σ' → LibAt σ' → RepL σ' (.slice a (cancelP c id).2.1.length cp) (cancelP c id).2.1 → LS Tryz.prog false ops f R k rest nn (upd fr d (.tuple #[.slice a (cancelP c id).2.1.length cp, .int .i64 (cancelP c id).2.2])) w0 M σ' (CS z (cancelP c id).1 K))
    (hx : xs.toList.map (ev nn fr) = [ptV z.c, .int .i64 id] := by rfl) :
    LS Tryz.prog false ops f R k (⟨some d, .call ⟨.value (.func 26), xs, ts⟩, ty, pos, aft, none⟩ :: rest) nn fr w0 M σ (CS z c K) :=
  callQ (fun v σ' => AnsM (cancelP c id).2.1 (cancelP c id).2.2 v σ') (CS z (cancelP c id).1 K) (fun v σ' hle hr => by obtain ⟨a, cp, rfl, hr⟩ := hr; exact h a cp σ' hle (hL.mono hle) hr)
    (fun w hw => by
      have e : (cancelP c id).1.rs = c.rs := by
        cases hf : findP c.gs id with
        | none => rw [cancel_none hf]
        | some g =>
          by_cases ho : openP g
          · rw [cancel_open hf ho]
          · rw [cancel_shut hf ho]
      have := cancel_s (bc := z.c) (tb := z.t) (sh := 3) (K := tapHP z.t c.rs c.rs.length :: woH z :: K) id hi.ok w hw
      rw [← e] at this
      exact this) hx
theorem releaseL (hi : Inv c q) (id : Int) (hL : LibAt σ)
    (h : ∀ a cp σ', PH.le σ σ' → LibAt σ' → RepL σ' (.slice a (releaseP c id).2.1.length cp) (releaseP c id).2.1 → LS Tryz.prog false ops f R k rest nn (upd fr d (.tuple #[.slice a (releaseP c id).2.1.length cp, .int .i64 (releaseP c id).2.2])) w0 M σ' (CS z (releaseP c id).1 K))
    (hq : q ≤ 900 := by omega) (hx : xs.toList.map (ev nn fr) = [ptV z.c, .int .i64 id] := by rfl) :
    LS Tryz.prog false ops f R k (⟨some d, .call ⟨.value (.func 27), xs, ts⟩, ty, pos, aft, none⟩ :: rest) nn fr w0 M σ (CS z c K) :=
  callQ (fun v σ' => AnsM (releaseP c id).2.1 (releaseP c id).2.2 v σ') (CS z (releaseP c id).1 K) (fun v σ' hle hr => by obtain ⟨a, cp, rfl, hr⟩ := hr; exact h a cp σ' hle (hL.mono hle) hr)
    (fun w hw => release_s (K := woH z :: K) id hi.ok hi.recs (Nat.le_trans hi.len hq) hL w hw) hx
theorem allL (l : List MsgD) (v : Value) (kd : Int) (n : Nat) (y : Bool) (hv : RepL σ v l) (hl : l.length ≤ 100000) (hn : n ≤ 100000)
    (h : ∀ r, (AllP l kd n y → r = true) → LS Tryz.prog false ops f R k rest nn (upd fr d (.bool r)) w0 M σ K) (hx : xs.toList.map (ev nn fr) = [v, .int .i64 kd, .int .i64 n, .bool y] := by rfl) :
    LS Tryz.prog false ops f R k (⟨some d, .call ⟨.value (.func 29), xs, ts⟩, ty, pos, aft, none⟩ :: rest) nn fr w0 M σ K :=
  callX (X := Bool) (fun r => .bool r) (fun _ => σ) (fun _ => K) (fun r => AllP l kd n y → r = true) h (fun w hw => (all11_c l v kd n y w hl hn (hv.mono hw.imm)).mono fun _ _ ⟨r, h1, h2, h3⟩ => ⟨r, h1, hw.ext h2, h3⟩) hx
theorem lastL (h : LS Tryz.prog false ops f R k rest nn (upd fr d (.int .i64 c.rs.length)) w0 M σ (CS z c K)) (hx : xs.toList.map (ev nn fr) = [ptV z.t] := by rfl) :
    LS Tryz.prog false ops f R k (⟨some d, .call ⟨.value (.func 32), xs, ts⟩, ty, pos, aft, none⟩ :: rest) nn fr w0 M σ (CS z c K) :=
  callS _ (CS z c K) h (hc := fun w hw => (lasting_s (b := z.t) (rs := c.rs) (n := c.rs.length) (K := coHP z.c 3 z.t c.gs :: woH z :: K) w (hw.ar _)).mono fun _ _ h => ⟨h.1, h.2.ar _⟩) (hx := hx)
theorem linesL (hi : Inv c q) (hL : LibAt σ)
    (h : ∀ a cp σ', PH.le σ σ' → LibAt σ' → RepL σ' (.slice a (refL c.rs).length cp) (refL c.rs) → LS Tryz.prog false ops f R k rest nn (upd fr d (.slice a (refL c.rs).length cp)) w0 M σ' (CS z c K))
    (hq : q ≤ 900 := by omega) (hx : xs.toList.map (ev nn fr) = [ptV z.t] := by rfl) :
    LS Tryz.prog false ops f R k (⟨some d, .call ⟨.value (.func 19), xs, ts⟩, ty, pos, aft, none⟩ :: rest) nn fr w0 M σ (CS z c K) :=
  callQ (fun v σ' => RepL σ' v (refL c.rs)) (CS z c K) (fun v σ' hle hr => by obtain ⟨a, cp, rfl⟩ := hr.form; exact h a cp σ' hle (hL.mono hle) hr)
    (fun w hw => (lines_s (b := z.t) (n := c.rs.length) (K := coHP z.c 3 z.t c.gs :: woH z :: K) hi.recs (by have := hi.len; omega) w (hw.ar _)).mono fun _ _ ⟨v, σ', g1, g2, g3, g4⟩ => ⟨v, σ', g1, g2, g3, g4.ar _⟩) hx
end
end Go.Proofs.YtaokfeonmgpjcaaGreatDoor
namespace Go.Proofs.YtaokfeonmgpjcaaGreatDoor
open Go.JW Go.RowKit
abbrev mK (kind frm : Int) (yes : Bool) : MsgD := ⟨kind, frm, 0, 5, [], [], yes⟩
def gets (c : CoD) (kind : Int) (yes : Bool) : Nat → CoD
  | 0 => c
  | i + 1 => (getP (gets c kind yes i) (mK kind ((i : Int) + 1) yes)).1
theorem Inv.gets {c : CoD} {k : Nat} (h : Inv c k) (kind : Int) (yes : Bool) : ∀ i, Inv (gets c kind yes i) (k + i)
  | 0 => h
  | i + 1 => (h.gets kind yes i).get _
def c0 : CoD := ⟨[], []⟩
def c1 (n : Nat) : CoD := ⟨[ggK 5 n], [recP 7 5 (upTo n)]⟩
theorem inv0 : Inv c0 0 := ⟨CoOk.nil, oks_nil, Nat.le_refl _⟩
theorem inv1 {n : Nat} (h1 : 1 ≤ n) (hn : n ≤ 3) : Inv (c1 n) 1 := ⟨okK h1 (by omega) 5 (by omega), oksK h1 (by omega) 5 (by omega), Nat.le_refl _⟩
theorem ansM_mono (l : List MsgD) (e : Int) : MonoT (AnsM l e) := fun _ _ _ ⟨a, c, h1, h2⟩ hs => ⟨a, c, h1, h2.mono hs⟩
theorem gangA_c (id : Int) (n : Nat) (hn : n ≤ 8) (hid : I64 id) (w : World) : Calls Tryz.prog 25 #[.int .i64 id, .int .i64 n] w fun e w' => ∃ v, e = .returned v ∧ Below w.heap.size w w' ∧ RepA (since w w') v (gangK id n) :=
  (gang11_c id n hn w).mono fun _ _ ⟨v, h1, h2, h3⟩ => ⟨_, h1, h2, _, rfl, v, rfl, hid, h3⟩
theorem submitA {w0 w : World} {M : Nat → Prop} {σ : PH} {K : List HP} {X : HP} {z : W11} {c : CoD} {q : Nat} {v : Value} {g : GangD} (hi : Inv c q) (hq : q ≤ 900) (hL : LibAt σ) (hv : RepA σ v g) (hw : Sat w0 M σ (X :: CS z c K) w) :
    Calls Tryz.prog 18 #[ptV z.c, v] w fun e w' => ∃ v σ', PH.le σ σ' ∧ AnsM (submitP 3 c g).2.1 (submitP 3 c g).2.2 v σ' ∧ e = .returned v ∧ Sat w0 M σ' (X :: CS z (submitP 3 c g).1 K) w' := by
  obtain ⟨cs, rfl, vp, rfl, hid, hp⟩ := hv
  exact (submit_s (bc := z.c) (tb := z.t) (sh := 3) (K := X :: woH z :: K) g vp hid hp (by omega) hi.ok hi.recs (Nat.le_trans hi.len hq) hL w (hw.ar (coHP z.c 3 z.t c.gs :: tapHP z.t c.rs c.rs.length :: X :: woH z :: K))).mono fun _ _ ⟨v, σ', h1, h2, h3, h4⟩ => ⟨v, σ', h1, h2, h3, h4.ar (X :: coHP z.c 3 z.t (submitP 3 c g).1.gs :: tapHP z.t (submitP 3 c g).1.rs (submitP 3 c g).1.rs.length :: woH z :: K)⟩
end Go.Proofs.YtaokfeonmgpjcaaGreatDoor
namespace Go.JW
section
variable {P : Program} {f : FuncId} {R : Ending → World → Prop} {k : List Item} {n : Nat} {fr : Nat → Value} {w0 : World} {M : Nat → Prop} {σ : PH}
variable {rest : List Oper} {d : Nat} {ty : TypeId} {pos : String} {aft : Array Edge} {x : Operand} {H : HS} {O : List (Nat × Obj)} {Kf : Us → List HP} {Kb : List HP} {E : List Nat} {tags : List Tag}
theorem Out.fill {lo hi : Nat} {fr' : Nat → Value} {us : Us} : ∀ {H : HS}, Out lo hi fr' fr → H.all (fun p => Nat.ble lo p.1 && Nat.blt p.1 hi) = true → Out lo hi (JW.fill fr' H us) fr
  | [], h, _ => h
  | (s, _) :: H, h, ha => by
    rw [List.all_cons, Bool.and_eq_true] at ha
    exact Out.upd (Out.fill h ha.2) ha.1
theorem D.asFT (T : Value → PH → Prop) (hT : MonoT T) (h : LD P f R k n w0 M σ Kb rest tags ⟨fr, (d, T) :: H, O, Kf, E, false⟩)
    (ho : ∀ us σ', PH.le σ σ' → Facts H (readsTmp ⟨some d, .assign x, ty, pos, aft, none⟩) us σ' → T (ev n (fill fr H us) x) σ') :
    LD P f R k n w0 M σ Kb (⟨some d, .assign x, ty, pos, aft, none⟩ :: rest) (.ex :: tags) ⟨fr, H, O, Kf, E, false⟩ :=
  D.gr T hT h fun us σ' w hle hf hw => .inl ⟨_, w, by simp [execOp], RowKit.Below.refl _ _, hT _ _ _ (ho us σ' hle hf) (grow_le hw)⟩
end
end Go.JW
namespace Go.Proofs.YtaokfeonmgpjcaaGreatDoor
open Go.JW Go.RowKit
theorem release_shut {c : CoD} {id : Int} (h0 : stateP c.gs id ≠ 0 := by decide) (h3 : stateP c.gs id ≠ 3 := by decide) : releaseP c id = (c, [], 7) := by
  cases hf : findP c.gs id with
  | none => unfold stateP at h0; rw [hf] at h0; exact absurd rfl h0
  | some g => unfold stateP at h3; rw [hf] at h3; exact release_no hf h3
theorem Inv.up {c : CoD} {k k' : Nat} (h : Inv c k) (hk : k ≤ k') : Inv c k' := ⟨h.ok, h.recs, Nat.le_trans h.len hk⟩
theorem mono_L {α : Type} [Rep α] {l : List α} : MonoT fun v τ => RepL τ v l := fun _ _ _ h hs => h.mono hs
theorem W3 {P : Nat → Prop} (h : P 1 ∧ P 2 ∧ P 3) {n : Nat} (h1 : 1 ≤ n) (h3 : n ≤ 3) : P n := by
  have : n = 1 ∨ n = 2 ∨ n = 3 := by omega
  rcases this with rfl | rfl | rfl
  · exact h.1
  · exact h.2.1
  · exact h.2.2
theorem mK_ok {kd f : Int} {y : Bool} (h : -9223372036854775808 ≤ f ∧ f ≤ 9223372036854775807) : I64 (mK kd f y).frm ∧ I64 (mK kd f y).gang := ⟨h, show I64 5 from ⟨by decide, by decide⟩⟩
section
variable {f : FuncId} {R : Ending → World → Prop} {k : List Item} {nn : Nat} {fr : Nat → Value} {w0 : World} {M : Nat → Prop} {σ : PH} {K : List HP} {ops : Array Oper}
variable {rest : List Oper} {d : Nat} {ty : TypeId} {pos : String} {aft : Array Edge} {xs : Array Operand} {ts : Array TypeId} {z : W11} {c c' : CoD} {q : Nat} {l : List MsgD} {e : Int}
theorem getE (hi : Inv c q) (m : MsgD) (hm : I64 m.frm ∧ I64 m.gang) (hp : m.pods = []) (hq2 : m.peers = []) (hL : LibAt σ) (hr : getP c m = (c', l))
    (h : ∀ a cp σ', PH.le σ σ' → LibAt σ' → RepL σ' (.slice a l.length cp) l → LS Tryz.prog false ops f R k rest nn (upd fr d (.slice a l.length cp)) w0 M σ' (CS z c' K))
    (hq : q ≤ 900 := by omega) (hx : xs.toList.map (ev nn fr) = [ptV z.c, .agg (List.toArray (msgC m nilV nilV))] := by rfl) :
    LS Tryz.prog false ops f R k (⟨some d, .call ⟨.value (.func 30), xs, ts⟩, ty, pos, aft, none⟩ :: rest) nn fr w0 M σ (CS z c K) :=
  getL hi m hm hp hq2 hL (by rw [hr]; exact h) hq hx
theorem tickE (hi : Inv c q) (hL : LibAt σ) (hr : tickP c = (c', l))
    (h : ∀ a cp σ', PH.le σ σ' → LibAt σ' → RepL σ' (.slice a l.length cp) l → LS Tryz.prog false ops f R k rest nn (upd fr d (.slice a l.length cp)) w0 M σ' (CS z c' K))
    (hq : q ≤ 900 := by omega) (hx : xs.toList.map (ev nn fr) = [ptV z.c] := by rfl) :
    LS Tryz.prog false ops f R k (⟨some d, .call ⟨.value (.func 20), xs, ts⟩, ty, pos, aft, none⟩ :: rest) nn fr w0 M σ (CS z c K) :=
  tickL hi hL (by rw [hr]; exact h) hq hx
theorem stateE (hi : Inv c q) (id : Int) (hr : stateP c.gs id = e) (h : LS Tryz.prog false ops f R k rest nn (upd fr d (.int .i64 e)) w0 M σ (CS z c K)) (hx : xs.toList.map (ev nn fr) = [ptV z.c, .int .i64 id] := by rfl) :
    LS Tryz.prog false ops f R k (⟨some d, .call ⟨.value (.func 22), xs, ts⟩, ty, pos, aft, none⟩ :: rest) nn fr w0 M σ (CS z c K) :=
  stateL11 hi id (by rw [hr]; exact h) hx
theorem waitsE {j : Nat} (hi : Inv c q) (id : Int) (hL : LibAt σ) (hr : (waitsP c.gs id).length = j)
    (h : ∀ a cp σ', PH.le σ σ' → LibAt σ' → LS Tryz.prog false ops f R k rest nn (upd fr d (.slice a j cp)) w0 M σ' (CS z c K))
    (hx : xs.toList.map (ev nn fr) = [ptV z.c, .int .i64 id] := by rfl) :
    LS Tryz.prog false ops f R k (⟨some d, .call ⟨.value (.func 31), xs, ts⟩, ty, pos, aft, none⟩ :: rest) nn fr w0 M σ (CS z c K) :=
  waitsL hi id hL (by rw [hr]; exact fun a cp σ' h1 h2 _ => h a cp σ' h1 h2) hx
theorem gangsE {j : Nat} (hi : Inv c q) (hL : LibAt σ) (hr : (c.gs.map (·.id)).length = j)
    (h : ∀ a cp σ', PH.le σ σ' → LibAt σ' → LS Tryz.prog false ops f R k rest nn (upd fr d (.slice a j cp)) w0 M σ' (CS z c K))
    (hq : q ≤ 900 := by omega) (hx : xs.toList.map (ev nn fr) = [ptV z.c] := by rfl) :
    LS Tryz.prog false ops f R k (⟨some d, .call ⟨.value (.func 28), xs, ts⟩, ty, pos, aft, none⟩ :: rest) nn fr w0 M σ (CS z c K) :=
  gangsL hi hL (by rw [hr]; exact fun a cp σ' h1 h2 _ => h a cp σ' h1 h2) hq hx
theorem releaseE (hi : Inv c q) (id : Int) (hL : LibAt σ) (hr : releaseP c id = (c', l, e))
    (h : ∀ a cp σ', PH.le σ σ' → LibAt σ' → RepL σ' (.slice a l.length cp) l → LS Tryz.prog false ops f R k rest nn (upd fr d (.tuple #[.slice a l.length cp, .int .i64 e])) w0 M σ' (CS z c' K))
    (hq : q ≤ 900 := by omega) (hx : xs.toList.map (ev nn fr) = [ptV z.c, .int .i64 id] := by rfl) :
    LS Tryz.prog false ops f R k (⟨some d, .call ⟨.value (.func 27), xs, ts⟩, ty, pos, aft, none⟩ :: rest) nn fr w0 M σ (CS z c K) :=
  releaseL hi id hL (by rw [hr]; exact h) hq hx
theorem allE {l : List MsgD} {v : Value} {kd : Int} {n : Nat} {y : Bool} (hv : RepL σ v l) (hr : AllP l kd n y) (h : LS Tryz.prog false ops f R k rest nn (upd fr d (.bool true)) w0 M σ K)
    (hn : n ≤ 100000 := by omega) (hx : xs.toList.map (ev nn fr) = [v, .int .i64 kd, .int .i64 n, .bool y] := by rfl) :
    LS Tryz.prog false ops f R k (⟨some d, .call ⟨.value (.func 29), xs, ts⟩, ty, pos, aft, none⟩ :: rest) nn fr w0 M σ K :=
  allL l v kd n y hv (by rw [hr.1]; exact hn) hn (fun r hh => by rw [hh hr]; exact h) hx
theorem lastE {j : Nat} (hr : c.rs.length = j) (h : LS Tryz.prog false ops f R k rest nn (upd fr d (.int .i64 j)) w0 M σ (CS z c K)) (hx : xs.toList.map (ev nn fr) = [ptV z.t] := by rfl) :
    LS Tryz.prog false ops f R k (⟨some d, .call ⟨.value (.func 32), xs, ts⟩, ty, pos, aft, none⟩ :: rest) nn fr w0 M σ (CS z c K) :=
  lastL (by rw [hr]; exact h) hx
end
section
variable {w0 w : World} {M : Nat → Prop} {σ : PH} {K : List HP} {X : HP} {z : W11} {c c' : CoD} {q : Nat} {l : List MsgD} {e : Int}
theorem submitB {v : Value} {g : GangD} (hi : Inv c q) (hq : q ≤ 900) (hL : LibAt σ) (hv : RepA σ v g) (hr : submitP 3 c g = (c', l, e)) (hw : Sat w0 M σ (X :: CS z c K) w) :
    Calls Tryz.prog 18 #[ptV z.c, v] w fun en w' => ∃ v σ', PH.le σ σ' ∧ AnsM l e v σ' ∧ en = .returned v ∧ Sat w0 M σ' (X :: CS z c' K) w' := by
  have h := submitA hi hq hL hv hw
  rw [hr] at h
  exact h
theorem cancelB (id : Int) (hi : Inv c q) (hr : cancelP c id = (c, l, e)) (hw : Sat w0 M σ (X :: CS z c K) w) :
    Calls Tryz.prog 26 #[ptV z.c, .int .i64 id] w fun en w' => ∃ v σ', PH.le σ σ' ∧ AnsM l e v σ' ∧ en = .returned v ∧ Sat w0 M σ' (X :: CS z c K) w' := by
  have h := cancel_s (bc := z.c) (tb := z.t) (sh := 3) (K := X :: tapHP z.t c.rs c.rs.length :: woH z :: K) id hi.ok w (hw.ar (coHP z.c 3 z.t c.gs :: X :: tapHP z.t c.rs c.rs.length :: woH z :: K))
  rw [hr] at h
  exact h.mono fun _ _ ⟨v, σ', h1, h2, h3, h4⟩ => ⟨v, σ', h1, h2, h3, h4.ar (X :: CS z c K)⟩
theorem releaseB (id : Int) (hi : Inv c q) (hq : q ≤ 900) (hL : LibAt σ) (hr : releaseP c id = (c', l, e)) (hw : Sat w0 M σ (X :: CS z c K) w) :
    Calls Tryz.prog 27 #[ptV z.c, .int .i64 id] w fun en w' => ∃ v σ', PH.le σ σ' ∧ AnsM l e v σ' ∧ en = .returned v ∧ Sat w0 M σ' (X :: CS z c' K) w' := by
  have h := release_s (bc := z.c) (tb := z.t) (sh := 3) (K := X :: woH z :: K) id hi.ok hi.recs (Nat.le_trans hi.len hq) hL w (hw.ar (coHP z.c 3 z.t c.gs :: tapHP z.t c.rs c.rs.length :: X :: woH z :: K))
  rw [hr] at h
  exact h.mono fun _ _ ⟨v, σ', h1, h2, h3, h4⟩ => ⟨v, σ', h1, h2, h3, h4.ar (X :: CS z c' K)⟩
end
section
variable {f : FuncId} {R : Ending → World → Prop} {k : List Item} {nn : Nat} {fr : Nat → Value} {w0 : World} {M : Nat → Prop} {σ : PH} {K : List HP} {ops : Array Oper}
variable {rest : List Oper} {d : Nat} {ty : TypeId} {pos : String} {aft : Array Edge} {xs : Array Operand} {ts : Array TypeId} {z : W11} {c c' : CoD} {q : Nat} {l : List MsgD} {e : Int}
theorem submitE {g : GangD} {vp : Value} (hi : Inv c q) (hid : I64 g.id) (hv : RepL σ vp g.pods) (hL : LibAt σ) (hr : submitP 3 c g = (c', l, e))
    (h : ∀ a cp σ', PH.le σ σ' → LibAt σ' → RepL σ' (.slice a l.length cp) l → LS Tryz.prog false ops f R k rest nn (upd fr d (.tuple #[.slice a l.length cp, .int .i64 e])) w0 M σ' (CS z c' K))
    (hq : q ≤ 900 := by omega) (hx : xs.toList.map (ev nn fr) = [ptV z.c, .agg (List.toArray [.int .i64 g.id, vp])] := by rfl) :
    LS Tryz.prog false ops f R k (⟨some d, .call ⟨.value (.func 18), xs, ts⟩, ty, pos, aft, none⟩ :: rest) nn fr w0 M σ (CS z c K) :=
  callQ (fun v σ' => AnsM l e v σ') (CS z c' K) (fun v σ' hle hr => by obtain ⟨a, cp, rfl, hr⟩ := hr; exact h a cp σ' hle (hL.mono hle) hr)
    (fun w hw => by
      have h := submit_s (bc := z.c) (tb := z.t) (sh := 3) (K := woH z :: K) g vp hid hv (by omega) hi.ok hi.recs (Nat.le_trans hi.len hq) hL w hw
      rw [hr] at h
      exact h) hx
end
end Go.Proofs.YtaokfeonmgpjcaaGreatDoor
namespace Go.Proofs.YtaokfeonmgpjcaaGreatDoor
open Go.JW Go.RowKit
noncomputable def laid7 : List (String × DataW Unit) := Rows.coordFreesRow.laid
theorem tabAt_of {W : World} {g : Nat} {name : String} {k : IntKind} {zs : List Int} (h : Lib.TabIs Tryz.prog W name k zs) (hg : Tryz.prog.globalNamed name = some g) : TabAt (hp W) g (zs.map fun z => Value.int k z).toArray := by
  unfold Lib.TabIs World.var? at h
  rw [hg, Option.bind_some] at h
  split at h
  · rename_i cs T r hb
    injection h with h
    subst h
    exact ⟨T, r, hb⟩
  · cases h
theorem gSpc : Tryz.prog.globalNamed "strings.asciiSpace" = some 0 := by kernel_rfl
theorem gPow : Tryz.prog.globalNamed "internal/strconv.uint64pow10" = some 2 := by kernel_rfl
theorem tSpc : (Tryz.prog.globals[0]?).map (·.type) = some 230 := by kernel_rfl
theorem tPow : (Tryz.prog.globals[2]?).map (·.type) = some 301 := by kernel_rfl
theorem cSpc : Tryz.prog.cellsOf 230 = 256 := by kernel_rfl
theorem cPow : Tryz.prog.cellsOf 301 = 20 := by kernel_rfl
theorem cU8 : Tryz.prog.cellsOf 5 = 1 := by kernel_rfl
theorem cU64 : Tryz.prog.cellsOf 200 = 1 := by kernel_rfl
theorem all_plain : laid7.filter (fun x => x.2.handleName?.isNone) = laid7 := by kernel_rfl
theorem plain7 {W : World} (h : laidMetH Tryz.prog laid7 W) : laidMet Tryz.prog laid7 W := by
  have h1 := (laidMetH_iff.1 h).1
  rwa [all_plain] at h1
theorem only_pow : laid7.filter (fun x => x.1 == "internal/strconv.uint64pow10") = [("internal/strconv.uint64pow10", Lib.tabData .u64 Lib.pow10Tab)] := by kernel_rfl
theorem only_spc : laid7.filter (fun x => x.1 == "strings.asciiSpace") = [("strings.asciiSpace", Lib.tabData .u8 Lib.asciiSpaceTab)] := by kernel_rfl
theorem lib_of {W : World} (h : laidMetH Tryz.prog laid7 W) (hs : W.ShapedOpen Tryz.prog) : LibAt (hp W) := by
  have h := plain7 h
  have h1 := h.filter fun x => x.1 == "internal/strconv.uint64pow10"
  have h2 := h.filter fun x => x.1 == "strings.asciiSpace"
  rw [only_pow] at h1
  rw [only_spc] at h2
  obtain ⟨m, hm⟩ := cell_of_shapedOpen_int (P := Tryz.prog) (g := 3) (k := .i64) hs (of_decide_eq_true (by kernel_rfl)) (t := 3) (zero := #[.int .i64 0]) (by kernel_rfl) rfl (by kernel_rfl) (by kernel_rfl) TInt.eq
  exact ⟨tabAt_of (Lib.tabIs_of_head (rest := []) gSpc tSpc Tryz.underlying230 Tryz.underlying5 cU8 cSpc h2) gSpc,
    tabAt_of (Lib.tabIs_of_head (rest := []) gPow tPow Tryz.underlying301 Tryz.underlying200 cU64 cPow h1) gPow, m, PH.cell_world.trans hm⟩
theorem laid_met7 (os : Os) (args : Array Value) : laidMet Tryz.prog laid7 ((World.laidAll Tryz.prog os laid7).forCall (fun _ _ => 0) ⟨#[], args, []⟩).memory := laidMet_laidAll args (by kernel_rfl) (by kernel_rfl)
theorem shaped7 (os : Os) (args : Array Value) : ((World.laidAll Tryz.prog os laid7).forCall (fun _ _ => 0) ⟨#[], args, []⟩).Shaped Tryz.prog := World.shaped_of_ZipB (by kernel_rfl) (by kernel_rfl)
theorem witness7 {H : Type} {enc : TypeId × Value → H} {f : FuncId} {fn : Func} {s : OpenSpec} {conds : List PathCond} {apart : Bool} (os : Os) (args : Array Value)
    (hok : Input.okWideB Tryz.prog ((World.laidAll Tryz.prog os laid7).forCall (fun _ _ => 0) ⟨#[], args, []⟩) f ⟨#[], args, []⟩ = true)
    (hrow : s.preRow enc Tryz.prog fn conds apart laid7 ((World.laidAll Tryz.prog os laid7).forCall (fun _ _ => 0) ⟨#[], args, []⟩).memory args) :
    ∃ (w : World) (tape : Tape) (i : Input), w.os = os ∧ (w.forCall tape i).Shaped Tryz.prog ∧ i.vars = [] ∧ Input.okWide Tryz.prog (w.forCall tape i) .any w.heap.size f i ∧
      s.preRow enc Tryz.prog fn conds apart laid7 (w.forCall tape i).memory i.args ∧ ({} : Assume).holds Tryz.prog (lone (Frame.enter Tryz.prog f i.args .normal) [] (w.forCall tape i)) :=
  ⟨World.laidAll Tryz.prog os laid7, fun _ _ => 0, ⟨#[], args, []⟩, World.laidAll_os _ _ _, shaped7 os args, (Input.okWide_of_okWideB (base := 0) hok).1, (Input.okWide_of_okWideB hok).2, hrow, by
    simp only [Assume.holds]
    exact ⟨by simp, by simp, fun _ => Modest.zero, by simp, by simp⟩⟩
end Go.Proofs.YtaokfeonmgpjcaaGreatDoor
namespace Go.JW

abbrev Sized (l : List Nat) : Prop := ∀ n ∈ l, n ≤ 140737488351232
class OpenT (P : Program) (t : TypeId) (α : Type) [Rep α] : Prop where
  open_ : ∀ {H : Type} {enc : TypeId × Value → H} {w : World} {base : Nat} {sp : Nat → Bool} {held : Bool} {fuel : Nat} {cs : List Value} {x : DataW H × List MemPlace},
    DataW.trod enc P w base sp held fuel t cs = some x → Sized (x.1.weights P t) → ∃ a : α, Rep.rep (hp w) cs a
section
variable {P : Program} {t e : TypeId}
theorem wfI64 {n : Int} (h : (Lit.int .i64 n).wf = true) : I64 n := by
  simp only [Lit.wf, Bool.and_eq_true, decide_eq_true_eq] at h
  exact h
instance OpenT.int [ht : TInt P t .i64] : OpenT P t Int where
  open_ h _ := by
    obtain ⟨n, rfl, _, hw⟩ := DataW.trod_int ht.eq h
    exact ⟨n, rfl, wfI64 hw⟩
instance OpenT.bool [ht : TBool P t] : OpenT P t Bool where
  open_ h _ := by
    obtain ⟨n, rfl, _⟩ := DataW.trod_bool ht.eq h
    exact ⟨n, rfl⟩
instance OpenT.str [ht : TStr P t] : OpenT P t ByteArray where
  open_ h hs := by
    obtain ⟨s, rfl, rfl, hw⟩ := DataW.trod_string ht.eq h
    refine ⟨s, rfl, ?_⟩
    have h1 : s.data.toList.length ≤ 140737488351232 := hs _ (by rw [DataW.weights]; exact List.mem_singleton.2 rfl)
    have e : s.data.toList.length = s.size := Array.length_toList
    omega
theorem mem_weightsAll {H : Type} {d : DataW H} : ∀ {ds : List (DataW H)}, d ∈ ds → ∀ n ∈ d.weights P e, n ∈ DataW.weightsAll P e ds := by
  intro ds
  induction ds with
  | nil => intro h; cases h
  | cons x ds ih =>
    intro h n hn
    rw [DataW.weightsAll, List.mem_append]
    rcases List.mem_cons.1 h with h | h
    · subst h; exact .inl hn
    · exact .inr (ih h n hn)
theorem cellsOf_sz {s : Nat} (h : szOf P t = some s) : P.cellsOf t = s := by unfold szOf at h; unfold Program.cellsOf; rw [h]; rfl
theorem OpenT.slice {α : Type} [Rep α] {s by_ : Nat} [ht : TSlice P t e] [it : OpenT P e α] [hs0 : TSz P e s] [hb0 : TBytes P e by_] (hz0 : Nat.beq s (Rep.sz α) = true := by rfl) (hpos : 0 < Rep.sz α := by decide) (hby : 0 < by_ := by decide) : OpenT P t (List α) where
  open_ := by
    have hz : P.cellsOf e = Rep.sz α := (cellsOf_sz hs0.eq).trans (Nat.eq_of_beq_eq_true hz0)
    have hb : 0 < P.bytesOf e := by unfold Program.bytesOf; rw [hb0.eq]; exact hby
    intro H enc w base sp held fuel cs x h hs
    rcases DataW.trod_slice ht.eq h with ⟨rfl, _⟩ | ⟨a, len, cap, elems, rest, n, _, rfl, hx, hbase, hl, hm, hlen, hel, _⟩
    · exact ⟨[], _, rfl, RepL.nil _ _ _⟩
    · subst hx
      rw [DataW.weights, ht.eq] at hs
      simp only [List.length_map] at hs
      have hw0 : (elems.length + rest.length) * P.bytesOf e ≤ 140737488351232 := hs _ (by simp)
      have hlen47 : len ≤ 140737488355328 := by
        have : len * 1 ≤ (elems.length + rest.length) * P.bytesOf e := Nat.mul_le_mul (by omega) hb
        omega
      have each : ∀ i, i < len → ∃ (vs : List Value) (d : α), (∀ j, j < Rep.sz α → w.cell? ((a.add (i * Rep.sz α)).add j) = vs[j]?) ∧ vs.length = Rep.sz α ∧ Rep.rep (hp w) vs d := by
        intro i hi
        have h1 := hel i hi
        rw [hz] at h1
        have hi' : i < elems.length := by omega
        rw [List.getElem?_eq_getElem hi', Option.bind_eq_some_iff] at h1
        obtain ⟨vs, h2, h3⟩ := h1
        obtain ⟨_, h4, h5⟩ := World.cells?_some h2
        obtain ⟨d, hd⟩ := it.open_ h3 (fun m hm => hs m (by
          simp only [List.mem_cons, List.mem_append]
          right; left
          exact mem_weightsAll (List.mem_map.2 ⟨elems[i], List.getElem_mem _, rfl⟩) m hm))
        exact ⟨vs, d, h5, h4, hd⟩
      have key : ∀ m, m ≤ len → ∃ l : List α, l.length = m ∧ ∀ i (h : i < l.length), ∃ vs : List Value, (∀ j, j < Rep.sz α → w.cell? ((a.add (i * Rep.sz α)).add j) = vs[j]?) ∧ vs.length = Rep.sz α ∧ Rep.rep (hp w) vs l[i] := by
        intro m
        induction m with
        | zero => intro _; exact ⟨[], rfl, fun i h => by simp at h⟩
        | succ m ih =>
          intro hm'
          obtain ⟨l, h1, h2⟩ := ih (by omega)
          obtain ⟨vs, d, g1, g2, g3⟩ := each m (by omega)
          refine ⟨l ++ [d], by simp [h1], fun i hi => ?_⟩
          by_cases e : i < l.length
          · obtain ⟨vs', k1, k2, k3⟩ := h2 i e
            exact ⟨vs', k1, k2, by rw [List.getElem_append_left e]; exact k3⟩
          · have : i = m := by simp at hi; omega
            subst this
            refine ⟨vs, g1, g2, ?_⟩
            have e2 : (l ++ [d])[i]'hi = d := by rw [List.getElem_append_right (by omega)]; simp
            rw [e2]; exact g3
      obtain ⟨l, h1, h2⟩ := key len (Nat.le_refl _)
      refine ⟨l, _, rfl, by omega, some a, cap, by rw [h1], by omega, fun hn => ?_⟩
      have h0 : 0 < l.length := List.length_pos_iff.2 hn
      have hspot : a.spot = none := by
        obtain ⟨vs, k1, k2, _⟩ := h2 0 h0
        have := k1 0 hpos
        rw [Nat.zero_mul] at this
        simp only [Addr.add, if_true] at this
        unfold World.cell? at this
        rw [List.getElem?_eq_getElem (by omega)] at this
        cases hsp : a.spot with
        | none => rfl
        | some s => rw [hsp] at this; cases hb : w.heap[a.block]? with
          | none => rw [hb] at this; simp at this
          | some o => rw [hb] at this; cases o <;> simp at this
      obtain ⟨b, o, spot⟩ := a
      simp only at hspot
      subst hspot
      refine ⟨b, o, rfl, fun i hi => ?_⟩
      obtain ⟨vs, k1, k2, k3⟩ := h2 i hi
      refine ⟨vs, fun j hj => ?_, k3⟩
      rw [PH.cell_world, ← k1 j hj, add_off, add_off]
theorem OpenT.fields {H : Type} {enc : TypeId × Value → H} {w : World} {base : Nat} {sp : Nat → Bool} {held : Bool} {fuel : Nat} {cs : List Value} {x : DataW H × List MemPlace} {fs : Array Field} (ht : P.underlying t = some (.struct fs))
    (h : DataW.trod enc P w base sp held fuel t cs = some x) (hs : Sized (x.1.weights P t)) :
    cs.length = P.cellsOf t ∧ ∀ (i τ off s : Nat) (α : Type) [Rep α] [OpenT P τ α] [TSz P τ s], (fs[i]?).map (fun f => (f.type, f.offset)) = some (τ, off) → ∃ a : α, Rep.rep (hp w) ((cs.drop off).take s) a := by
  obtain ⟨xs, n, _, rfl, hl, hxs, hf⟩ := DataW.trod_struct ht h
  refine ⟨hl, fun i τ off s α _ ho hsz hfi0 => ?_⟩
  rw [Option.map_eq_some_iff] at hfi0
  obtain ⟨f, hfi, e⟩ := hfi0
  injection e with e1 e2
  subst e1; subst e2
  have h1 := hf i f hfi
  rw [cellsOf_sz hsz.eq] at h1
  have hi : i < xs.length := by rw [hxs]; exact (Array.getElem?_eq_some_iff.1 hfi).1
  rw [List.getElem?_eq_getElem hi] at h1
  refine ho.open_ h1 fun m hm => hs m ?_
  rw [DataW.weights, ht]
  exact DataW.weights_mem_each (j := i) (t := f.type) (d := xs[i].1) (by rw [List.getElem?_map]; simp [hfi]) (by rw [List.getElem?_map, List.getElem?_eq_getElem hi]; rfl) m hm
theorem OpenT.arg {α : Type} [Rep α] {H : Type} {enc : TypeId × Value → H} {w : World} {base : Nat} {sp : Nat → Bool} {held : Bool} {v : Value} {d : DataW H} {ps : List MemPlace} {ts : List TypeId} {ds : List (DataW H)} {j : Nat} (o : OpenT P t α)
    (h : DataW.Trod enc P w base sp held t v d ps) (hs : (DataW.weightsEach P ts ds).all (· ≤ reachBytes) = true) (ht : ts[j]? = some t) (hd : ds[j]? = some d) : ∃ a : α, Rep.rep (hp w) v.cells.toList a := by
  obtain ⟨fuel, hf⟩ := h
  refine o.open_ hf fun n hn => ?_
  have := List.all_eq_true.1 hs n (DataW.weights_mem_each ht hd n hn)
  exact of_decide_eq_true this
end
end Go.JW
namespace Go.Proofs.YtaokfeonmgpjcaaGreatDoor
open Go.JW Go.RowKit

instance : OpenT Tryz.prog 33 (List ByteArray) := OpenT.slice
instance : OpenT Tryz.prog 22 (List Int) := OpenT.slice
structure VecD where
  cpu : Int
  mem : Int
instance : Rep VecD where
  sz := 2
  rep _ cs p := cs = [.int .i64 p.cpu, .int .i64 p.mem] ∧ I64 p.cpu ∧ I64 p.mem
  len h := by obtain ⟨rfl, _⟩ := h; rfl
  one h := by obtain ⟨rfl, _⟩ := h; rfl
  mono h _ := h
theorem len2 {l : List Value} (h : l.length = 2) : ∃ a b, l = [a, b] := by
  match l, h with
  | [a, b], _ => exact ⟨a, b, rfl⟩
instance : OpenT Tryz.prog 32 VecD where
  open_ h hs := by
    obtain ⟨hl, hf⟩ := OpenT.fields Tryz.underlying32 h hs
    rw [show Tryz.prog.cellsOf 32 = 2 by kernel_rfl] at hl
    obtain ⟨c0, c1, rfl⟩ := len2 hl
    obtain ⟨a0, h0, i0⟩ := hf 0 3 0 _ Int rfl
    obtain ⟨a1, h1, i1⟩ := hf 1 3 1 _ Int rfl
    simp at h0 h1
    subst h0; subst h1
    exact ⟨⟨a0, a1⟩, rfl, i0, i1⟩
theorem len7 {l : List Value} (h : l.length = 7) : ∃ a b c d e f g, l = [a, b, c, d, e, f, g] := by
  match l, h with
  | [a, b, c, d, e, f, g], _ => exact ⟨a, b, c, d, e, f, g, rfl⟩
theorem len6 {l : List Value} (h : l.length = 6) : ∃ a b c d e f, l = [a, b, c, d, e, f] := by
  match l, h with
  | [a, b, c, d, e, f], _ => exact ⟨a, b, c, d, e, f, rfl⟩
instance : OpenT Tryz.prog 35 PodD where
  open_ h hs := by
    obtain ⟨hl, hf⟩ := OpenT.fields Tryz.underlying35 h hs
    rw [show Tryz.prog.cellsOf 35 = 7 by kernel_rfl] at hl
    obtain ⟨c0, c1, c2, c3, c4, c5, c6, rfl⟩ := len7 hl
    obtain ⟨a0, h0, i0⟩ := hf 0 9 0 _ ByteArray rfl
    obtain ⟨a1, h1, i1⟩ := hf 1 3 1 _ Int rfl
    obtain ⟨a2, h2, i2⟩ := hf 2 32 2 _ VecD rfl
    obtain ⟨a3, v3, h3, i3⟩ := hf 3 33 4 _ (List ByteArray) rfl
    obtain ⟨a4, v4, h4, i4⟩ := hf 4 33 5 _ (List ByteArray) rfl
    obtain ⟨a5, h5⟩ := hf 5 4 6 _ Bool rfl
    have h5' : _ = _ := h5
    simp at h0 h1 h2 h3 h4 h5'
    obtain ⟨h2, h2'⟩ := h2
    subst h0; subst h1; subst h2; subst h2'; subst h3; subst h4; subst h5'
    exact ⟨⟨a0, a1, a2.cpu, a2.mem, a3, a4, a5⟩, _, _, rfl, i0, i1, i2.1, i2.2, i3, i4⟩
instance : OpenT Tryz.prog 93 NodeD where
  open_ h hs := by
    obtain ⟨hl, hf⟩ := OpenT.fields Tryz.underlying93 h hs
    rw [show Tryz.prog.cellsOf 93 = 6 by kernel_rfl] at hl
    obtain ⟨c0, c2, c3, c4, c5, c6, rfl⟩ := len6 hl
    obtain ⟨a0, h0, i0⟩ := hf 0 9 0 _ ByteArray rfl
    obtain ⟨a2, h2, i2⟩ := hf 1 32 1 _ VecD rfl
    obtain ⟨a3, v3, h3, i3⟩ := hf 2 33 3 _ (List ByteArray) rfl
    obtain ⟨a4, v4, h4, i4⟩ := hf 3 33 4 _ (List ByteArray) rfl
    obtain ⟨a5, h5⟩ := hf 4 4 5 _ Bool rfl
    have h5' : _ = _ := h5
    simp at h0 h2 h3 h4 h5'
    obtain ⟨h2, h2'⟩ := h2
    subst h0; subst h2; subst h2'; subst h3; subst h4; subst h5'
    exact ⟨⟨a0, a2.cpu, a2.mem, a3, a4, a5⟩, _, _, rfl, i0, i2.1, i2.2, i3, i4⟩
instance : OpenT Tryz.prog 26 (List PodD) := OpenT.slice
instance : OpenT Tryz.prog 28 GangD where
  open_ h hs := by
    obtain ⟨hl, hf⟩ := OpenT.fields Tryz.underlying28 h hs
    rw [show Tryz.prog.cellsOf 28 = 2 by kernel_rfl] at hl
    obtain ⟨c0, c1, rfl⟩ := len2 hl
    obtain ⟨a0, h0, i0⟩ := hf 0 3 0 _ Int rfl
    obtain ⟨a1, v1, h1, i1⟩ := hf 1 26 1 _ (List PodD) rfl
    simp at h0 h1
    subst h0; subst h1
    exact ⟨⟨a0, a1⟩, _, rfl, i0, i1⟩
end Go.Proofs.YtaokfeonmgpjcaaGreatDoor
