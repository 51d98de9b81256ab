/- The law SpecGangs answers true. -/
import Derived.Test.YtejdccgebljmgaaGangOf
import Derived.Test.YtejdccgebljmgaaEight
import Derived.Test.YtejdccgebljmgaaFewG
import Derived.Test.YtejdccgebljmgaaRowW
namespace Go.Proofs.Ytejdccgebljmgaa
open Go.JW Go.RowKit

theorem podsTo_get {ns : List Int} {s : Int} {k i : Nat} (h : i < (podsTo ns s k).length) : (podsTo ns s k)[i] = podOf (i : Int) (ns.getD i 0) s := by simp [podsTo]
theorem gangOf_ok (id : Int) (ns : List Int) (s : Int) (hs : 0 < s) : gangErr (gangOf id ns s) s = 0 := by
  obtain ⟨a1, a2⟩ := wmod id 999999 (by omega)
  obtain ⟨h1, h2⟩ := gangOf_len id ns s
  have hfe : firstErr s (gangOf id ns s).pods = 0 := firstErr_zero fun i hi => by
    simp only [gangOf] at hi ⊢
    split
    · rename_i h; simp only [h] at hi; simp at hi; subst hi; exact podOf_ok 0 id s (by omega) hs
    · rename_i h
      rw [podsTo_get]
      rw [if_neg h, podsTo_length] at hi
      exact podOf_ok _ _ _ (by omega) hs
  have hd : ¬ Dup (gangOf id ns s).pods (gangOf id ns s).pods.length := fun ⟨i, j, h3, h4, hi, hj, h5⟩ => by
    simp only [gangOf] at hi hj h5
    by_cases h : ns.length = 0
    · simp only [h, if_true, List.length_singleton] at hi hj; omega
    · simp only [h, if_false] at hi hj h5
      rw [podsTo_get, podsTo_get] at h5
      rw [podsTo_length] at hi hj
      exact pE_ne (by omega) (by omega) (by omega) h5
  have hid : (gangOf id ns s).id = 1 + id % 999999 := rfl
  simp only [gangErr, hfe, hid]
  rw [if_neg (by omega), if_neg (by omega)]
  simp [hd]
theorem repField0 {σ : PH} {c : List Value} {p : PodD} {nm : ByteArray} (h : Rep.rep σ c p) (hn : nm.size ≤ 140737488355328) : Rep.rep σ (setAt c 0 [.string nm]) { p with name := nm } := by
  obtain ⟨vp, vb, rfl, h1, h2, h3, h4, h5, h6⟩ := h
  exact ⟨vp, vb, rfl, hn, h2, h3, h4, h5, h6⟩
theorem repField1 {σ : PH} {c : List Value} {p : PodD} {s : Int} (h : Rep.rep σ c p) (hn : I64 s) : Rep.rep σ (setAt c 1 [.int .i64 s]) { p with shard := s } := by
  obtain ⟨vp, vb, rfl, h1, h2, h3, h4, h5, h6⟩ := h
  exact ⟨vp, vb, rfl, h1, hn, h3, h4, h5, h6⟩
def pQ (i : Nat) : PodD := ⟨letter ⟨#[113]⟩ i, 1, 0, 0, [], [], false⟩
def podsQ (k : Nat) : List PodD := (List.range k).map pQ
theorem podsQ_succ (k : Nat) : podsQ (k + 1) = podsQ k ++ [pQ k] := by simp [podsQ, List.range_succ]
theorem podsQ_length (k : Nat) : (podsQ k).length = k := by simp [podsQ]
def cQ (i : Nat) : List Value := [.string (letter ⟨#[113]⟩ i), .int .i64 1, .int .i64 0, .int .i64 0, .slice none 0 0, .slice none 0 0, .bool false]
theorem repQ (σ : PH) (i : Nat) : Rep.rep σ (cQ i) (pQ i) := ⟨_, _, rfl, by show (letter _ _).size ≤ _; rw [letter_size]; decide, by show I64 1; decide, by show I64 0; decide, by show I64 0; decide, RepL.nil _ _ _, RepL.nil _ _ _⟩

theorem rowWrite {σ : PH} {c0 : List Value} {l : List PodD} (h : CellsL σ (c0.take (l.length * 7)) l) (hl : l.length * 7 ≤ c0.length) (i : Nat) (hi : i < l.length) (f : Nat) (vs : List Value) (hf : f + vs.length ≤ 7) (x' : PodD) (hx : ∀ c, Rep.rep σ c l[i] → Rep.rep σ (setAt c f vs) x') :
    CellsL σ ((setAt c0 (0 + i * 7 + f) vs).take (l.length * 7)) (l.set i x') := by
  have hmul : i * 7 + 7 ≤ l.length * 7 := by omega
  rw [take_setAt _ _ _ _ (by omega) hl, Nat.zero_add]
  exact h.write i hi f vs hf x' hx
theorem rowName {σ : PH} {c0 : List Value} {l : List PodD} (h : CellsL σ (c0.take (l.length * 7)) l) (i : Nat) (hi : i < l.length) : nth c0 (0 + i * 7 + 0) = some (.string l[i].name) ∧ l[i].name.size ≤ 140737488355328 := by
  obtain ⟨c, ⟨vp, vb, rfl, h1, _⟩, h2⟩ := h.at_ i hi
  have := h2 0 (by show 0 < 7; omega)
  rw [List.getElem?_take, if_pos (by show i * 7 + 0 < _; omega)] at this
  exact ⟨by rw [nth_eq, Nat.zero_add]; exact this, h1⟩
theorem gangs_c (cs : List Value) (raw : GangD) (id : Int) (v : Value) (ns : List Int) (shards which at_ k : Int) (w : World) (hr : Rep.rep (hp w) cs raw) (hid : I64 id) (hk : I64 k) (hns : RepL (hp w) v ns) :
    Calls Try.prog 8 #[.agg cs.toArray, .int .i64 id, v, .int .i64 shards, .int .i64 which, .int .i64 at_, .int .i64 k] w fun e w' => e = .returned (.bool true) ∧ Below w.heap.size w w' := by
  have hr0 := hr
  obtain ⟨vr, rfl, hri, hrl⟩ := hr
  obtain ⟨ar, cr, rfl⟩ := hrl.form
  obtain ⟨an, cn, rfl⟩ := hns.form
  obtain ⟨a1, a2⟩ := wmod shards 4 (by omega)
  obtain ⟨b1, b2⟩ := wmod which 5 (by omega)
  obtain ⟨d1, d2⟩ := wmod k 4 (by omega)
  obtain ⟨d3, d4⟩ := wmod k 2 (by omega)
  obtain ⟨d5, d6⟩ := wmod k 5 (by omega)
  obtain ⟨i1, i2⟩ := wmod id 999999 (by omega)
  refine RS.enter Try.func8 Try.ntmps8 rfl rfl ?_
  (repeat (first | refine RS.seq ?_ | refine RS.region ?_ | refine RS.regionQ ?_ (by kernel_rfl) (by kernel_rfl) | refine RS.skip ?_ | refine RS.inBlock ?_ | refine RS.block ?_ | refine RS.exit ?_)); refine box_ (v := .agg _) (cs := [_, _]) (fun b7 => ?_); refine asB ?_; refine LS.done ?_
  (repeat (first | refine RS.seq ?_ | refine RS.region ?_ | refine RS.regionQ ?_ (by kernel_rfl) (by kernel_rfl) | refine RS.skip ?_ | refine RS.inBlock ?_ | refine RS.block ?_ | refine RS.exit ?_)); skip
  refine callP ?_ (hc := fun w _ => known_c w)
  refine not_ ?_; refine LS.done ?_
  (repeat (first | refine RS.seq ?_ | refine RS.region ?_ | refine RS.regionQ ?_ (by kernel_rfl) (by kernel_rfl) | refine RS.skip ?_ | refine RS.inBlock ?_ | refine RS.block ?_ | refine RS.exit ?_)); refine RS.condF ?_
  (repeat (first | refine RS.seq ?_ | refine RS.region ?_ | refine RS.regionQ ?_ (by kernel_rfl) (by kernel_rfl) | refine RS.skip ?_ | refine RS.inBlock ?_ | refine RS.block ?_ | refine RS.exit ?_)); refine ldA [_, _] ?_
  refine callP ?_ (hc := fun w hw => fewGang_c _ raw w (Rep.mono hr0 hw.imm))
  refine not_ ?_; refine LS.done ?_
  (repeat (first | refine RS.seq ?_ | refine RS.region ?_ | refine RS.regionQ ?_ (by kernel_rfl) (by kernel_rfl) | refine RS.skip ?_ | refine RS.inBlock ?_ | refine RS.block ?_ | refine RS.exit ?_)); refine RS.cond (fun c => ?_) (fun c => ?_)
  · (repeat (first | refine RS.seq ?_ | refine RS.region ?_ | refine RS.regionQ ?_ (by kernel_rfl) (by kernel_rfl) | refine RS.skip ?_ | refine RS.inBlock ?_ | refine RS.block ?_ | refine RS.exit ?_)); refine asB ?_; refine LS.done ?_; (repeat (first | refine RS.seq ?_ | refine RS.region ?_ | refine RS.regionQ ?_ (by kernel_rfl) (by kernel_rfl) | refine RS.skip ?_ | refine RS.inBlock ?_ | refine RS.block ?_ | refine RS.exit ?_)); refine RS.ret1 (v := .bool _) Try.func8 fun w hw => ?_
    exact ⟨rfl, hw.below⟩
  clear c
  (repeat (first | refine RS.seq ?_ | refine RS.region ?_ | refine RS.regionQ ?_ (by kernel_rfl) (by kernel_rfl) | refine RS.skip ?_ | refine RS.inBlock ?_ | refine RS.block ?_ | refine RS.exit ?_)); refine mvI ?_
  refine callP ?_ (hc := fun w _ => w3_c _ _ (by omega) (by omega) w)
  (first | refine addN ?_ | refine addI ?_); refine asI ?_; refine LS.done ?_
  obtain ⟨s, hs⟩ : ∃ s, s = 1 + shards % 4 := ⟨_, rfl⟩
  refine RS.as 15 (.int .i64 s) (by rw [hs]; rfl) ?_
  have hs1 : 0 < s ∧ s ≤ 4 := by omega
  clear hs
  (repeat (first | refine RS.seq ?_ | refine RS.region ?_ | refine RS.regionQ ?_ (by kernel_rfl) (by kernel_rfl) | refine RS.skip ?_ | refine RS.inBlock ?_ | refine RS.block ?_ | refine RS.exit ?_)); refine mvI ?_; refine mvL ?_; refine mvI ?_
  refine callO (fun v => .agg (List.toArray [.int .i64 (1 + id % 999999), v])) (fun v => [rowD 0 26 v (gangOf id ns s).pods]) (fun _ _ => True) (fun v1 τ1 σ2 _ hN1 hle2 hτ1 => ?_) (fun w hw => lgang_c id s ns _ hid (by omega) 0 w (hns.mono hw.imm) (Nat.zero_le _))
  refine LS.to (K' := [rowD 0 26 v1 (gangOf id ns s).pods, blk b7 (.cells (List.toArray [.int .i64 raw.id, .slice ar raw.pods.length cr]) 48 (0, 0))]) ?_ ⟨fun h => h⟩
  refine LS.formD v1 (fun a1' c1' e1 hc1 => ?_); subst e1
  refine alloc_ (fun b16 => ?_); refine st (.agg _) _ ?_; refine LS.done ?_
  have hg0 := gangOf_ok id ns s hs1.1
  obtain ⟨hl1, hl2⟩ := gangOf_len id ns s
  obtain ⟨G, hG⟩ : ∃ G, G = gangOf id ns s := ⟨_, rfl⟩
  have hGid : G.id = 1 + id % 999999 := by rw [hG]; rfl
  rw [← hG] at hg0 hl1 hl2 hc1 ⊢
  rw [← hGid]
  have hI : I64 G.id := by rw [hGid]; show I64 _; omega
  clear hG hGid
  have hrep : ∀ {w' : World} {σ' : PH}, Sat w (fun _ => False) σ' [rowD 0 26 (.slice a1' G.pods.length c1') G.pods, blk b16 (.cells (List.toArray [.int .i64 G.id, .slice a1' G.pods.length c1']) 48 (0, 0)), blk b7 (.cells (List.toArray [.int .i64 raw.id, .slice ar raw.pods.length cr]) 48 (0, 0))] w' → Rep.rep (hp w') [.int .i64 G.id, .slice a1' G.pods.length c1'] G := fun hw =>
    ⟨_, rfl, hI, hw.rowRepD (v := .slice a1' G.pods.length c1') (by omega)⟩
  refine RS.to (K' := [rowD 0 26 (.slice a1' G.pods.length c1') G.pods, blk b16 (.cells (List.toArray [.int .i64 G.id, .slice a1' G.pods.length c1']) 48 (0, 0)), blk b7 (.cells (List.toArray [.int .i64 raw.id, .slice ar raw.pods.length cr]) 48 (0, 0))]) ?_ ⟨fun h => h.swap⟩
  (repeat (first | refine RS.seq ?_ | refine RS.region ?_ | refine RS.regionQ ?_ (by kernel_rfl) (by kernel_rfl) | refine RS.skip ?_ | refine RS.inBlock ?_ | refine RS.block ?_ | refine RS.exit ?_)); refine ldA [_, _] ?_; refine mvI ?_
  refine callP ?_ (hc := fun w hw => gang_c _ raw s w (Rep.mono hr0 (PH.le_trans hle2 hw.imm)))
  refine ldA [_, _] ?_; refine mvI ?_
  refine callP ?_ (hc := fun w hw => rgang_c _ raw s w (Rep.mono hr0 (PH.le_trans hle2 hw.imm)))
  refine neI ?_; refine mvB ?_
  refine LS.part 38 (fun g1 => ?_) (fun g1 => ?_)
  · exfalso; simp at g1
  refine LS.on ?_; refine ldA [_, _] ?_; refine LS.on ?_; refine mvI ?_; refine LS.on ?_
  refine callP ?_ (hc := fun w hw => gang_c _ G s w (hrep hw))
  refine LS.on ?_; refine neI ?_; refine pk (v := .bool _) ?_; refine LS.done ?_
  (repeat (first | refine RS.seq ?_ | refine RS.region ?_ | refine RS.regionQ ?_ (by kernel_rfl) (by kernel_rfl) | refine RS.skip ?_ | refine RS.inBlock ?_ | refine RS.block ?_ | refine RS.exit ?_)); refine RS.condF ?_ (h := by rw [hg0]; rfl)
  obtain ⟨e1, e2⟩ := wmod at_ G.pods.length (by omega)
  (repeat (first | refine RS.seq ?_ | refine RS.region ?_ | refine RS.regionQ ?_ (by kernel_rfl) (by kernel_rfl) | refine RS.skip ?_ | refine RS.inBlock ?_ | refine RS.block ?_ | refine RS.exit ?_)); refine mvI ?_; refine fld ?_; refine ld1 (v := .slice _ _ _) ?_; refine lenL ?_
  refine callP ?_ (hc := fun w _ => w3_c _ _ (by omega) (by omega) w)
  refine asI ?_; refine LS.done ?_
  obtain ⟨i, hi⟩ : ∃ m : Nat, (m : Int) = at_ % G.pods.length := ⟨(at_ % G.pods.length).toNat, by omega⟩
  refine RS.as 17 (.int .i64 i) (by rw [hi]; rfl) ?_
  have hi' : i < G.pods.length := by omega
  (repeat (first | refine RS.seq ?_ | refine RS.region ?_ | refine RS.regionQ ?_ (by kernel_rfl) (by kernel_rfl) | refine RS.skip ?_ | refine RS.inBlock ?_ | refine RS.block ?_ | refine RS.exit ?_)); refine mvI ?_
  refine callP ?_ (hc := fun w _ => w3_c _ _ (by omega) (by omega) w)
  refine LS.done ?_
  (repeat (first | refine RS.seq ?_ | refine RS.region ?_ | refine RS.regionQ ?_ (by kernel_rfl) (by kernel_rfl) | refine RS.skip ?_ | refine RS.inBlock ?_ | refine RS.block ?_ | refine RS.exit ?_)); refine eqI ?_; refine asB ?_; refine LS.done ?_; (repeat (first | refine RS.seq ?_ | refine RS.region ?_ | refine RS.regionQ ?_ (by kernel_rfl) (by kernel_rfl) | refine RS.skip ?_ | refine RS.inBlock ?_ | refine RS.block ?_ | refine RS.exit ?_))
  refine RS.cond (fun c0 => ?_) (fun c0 => ?_)
  · have hint4 : I64 ([0, 999999, 1000000, k].getD (k % 4).toNat 0) := getD_in (by intro x hx; simp at hx; omega) _
    (repeat (first | refine RS.seq ?_ | refine RS.region ?_ | refine RS.regionQ ?_ (by kernel_rfl) (by kernel_rfl) | refine RS.skip ?_ | refine RS.inBlock ?_ | refine RS.block ?_ | refine RS.exit ?_)); refine mvI ?_; refine bldS [.int _ _, .int _ _, .int _ _, .int _ _] [.int _ _, .int _ _, .int _ _, .int _ _] (fun b54 => ?_); refine mvI ?_
    refine callP ?_ (hc := fun w _ => w3_c _ _ (by omega) (by omega) w)
    refine idx (i := (k % 4).toNat) ?_ (hj := by omega); refine ld1 (v := .int .i64 ([0, 999999, 1000000, k].getD (k % 4).toNat 0)) ?_ (hv := nth_int [0, 999999, 1000000, k] (k % 4).toNat (by simp; omega)); refine fld ?_; refine st (.int _ _) _ ?_; refine LS.done ?_
    have hI := hint4
    have hL : G.pods.length ≤ 140737488355328 := by omega
    (repeat (first | refine RS.seq ?_ | refine RS.region ?_ | refine RS.regionQ ?_ (by kernel_rfl) (by kernel_rfl) | refine RS.skip ?_ | refine RS.inBlock ?_ | refine RS.block ?_ | refine RS.exit ?_)); refine ldA [_, _] ?_; refine mvI ?_
    refine callP ?_ (hc := fun w hw => gang_c _ ⟨[0, 999999, 1000000, k].getD (k % 4).toNat 0, G.pods⟩ s w ⟨_, rfl, hI, hw.rowRepD hL⟩)
    refine ldA [_, _] ?_; refine mvI ?_
    refine callP ?_ (hc := fun w hw => rgang_c _ ⟨[0, 999999, 1000000, k].getD (k % 4).toNat 0, G.pods⟩ s w ⟨_, rfl, hI, hw.rowRepD hL⟩)
    refine eqI ?_; refine asB ?_; refine LS.done ?_
    (repeat (first | refine RS.seq ?_ | refine RS.region ?_ | refine RS.regionQ ?_ (by kernel_rfl) (by kernel_rfl) | refine RS.skip ?_ | refine RS.inBlock ?_ | refine RS.block ?_ | refine RS.exit ?_)); refine RS.ret1 (v := .bool _) Try.func8 fun w hw => ?_
    exact ⟨retB (by simp), hw.below⟩
  (repeat (first | refine RS.seq ?_ | refine RS.region ?_ | refine RS.regionQ ?_ (by kernel_rfl) (by kernel_rfl) | refine RS.skip ?_ | refine RS.inBlock ?_ | refine RS.block ?_ | refine RS.exit ?_)); refine eqI ?_; refine asB ?_; refine LS.done ?_; (repeat (first | refine RS.seq ?_ | refine RS.region ?_ | refine RS.regionQ ?_ (by kernel_rfl) (by kernel_rfl) | refine RS.skip ?_ | refine RS.inBlock ?_ | refine RS.block ?_ | refine RS.exit ?_))
  refine RS.cond (fun c1 => ?_) (fun c1 => ?_)
  · refine RS.openRowD (.slice a1' G.pods.length c1') (fun bR c0 capR eR hcR hcM hlR htR => ?_)
    injection eR with eR1 _ eR2
    subst eR1; subst eR2
    have hlR : c1' * 7 ≤ c0.length := hlR
    have hle : G.pods.length * 7 ≤ c0.length := by omega
    obtain ⟨hnm, hns0⟩ := rowName htR 0 (by omega)
    (repeat (first | refine RS.seq ?_ | refine RS.region ?_ | refine RS.skip ?_ | refine RS.inBlock ?_ | refine RS.block ?_ | refine RS.exit ?_)); refine RS.drawK [.free, .ex, .free, .free, .ex, .free, .free, .ex, .free, .free, .st] ?_ (by kernel_rfl) (by kernel_rfl); refine D.fld ?_; refine D.ld1 (v := .slice _ _ _) ?_; refine D.mvI ?_; refine D.fld ?_; refine D.ld1 (v := .slice _ _ _) ?_; refine D.idx (i := 0) ?_; refine D.fld ?_; refine D.ld1 (v := .string G.pods[0].name) ?_ (hv := hnm); refine D.idx (i := i) ?_; refine D.fld ?_
    refine D.stB (.string G.pods[0].name) _ ?_ (hr := by omega)
    refine D.done (fun us σ3 hle3 hfs => ?_)
    refine RS.to (K' := [blk bR (.cells (List.toArray (setAt c0 (0 + i * 7 + 0) [.string G.pods[0].name])) 26 (0, 0)), blk b16 (.cells (List.toArray [.int .i64 G.id, .slice (some ⟨bR, 0, none⟩) G.pods.length c1']) 48 (0, 0)), blk b7 (.cells (List.toArray [.int .i64 raw.id, .slice ar raw.pods.length cr]) 48 (0, 0))]) ?_ ⟨fun h => h⟩
    obtain ⟨L, hLd⟩ : ∃ L, L = G.pods.set i { G.pods[i] with name := G.pods[0].name } := ⟨_, rfl⟩
    have hLl : L.length = G.pods.length := by rw [hLd]; simp
    refine RS.closeRowD 0 L (b := bR) (c0 := setAt c0 (0 + i * 7 + 0) [.string G.pods[0].name]) (m := G.pods.length) (s := 7) hcR hcM (by rw [setAt_len]; exact hlR) (by rw [hLd]; exact rowWrite (htR.mono (fromN_up hle3)) hle i hi' 0 _ (by simp) _ (fun c hc => repField0 hc hns0)) ?_ (hml := hLl.symm)
    clear hLd
    have hL : L.length ≤ 140737488355328 := by omega
    (repeat (first | refine RS.seq ?_ | refine RS.region ?_ | refine RS.regionQ ?_ (by kernel_rfl) (by kernel_rfl) | refine RS.skip ?_ | refine RS.inBlock ?_ | refine RS.block ?_ | refine RS.exit ?_)); refine ldA [_, _] ?_; refine mvI ?_
    refine callP ?_ (hc := fun w hw => gang_c _ ⟨G.id, L⟩ s w ⟨_, rfl, hI, hw.rowRepD hL⟩)
    refine ldA [_, _] ?_; refine mvI ?_
    refine callP ?_ (hc := fun w hw => rgang_c _ ⟨G.id, L⟩ s w ⟨_, rfl, hI, hw.rowRepD hL⟩)
    refine eqI ?_; refine asB ?_; refine LS.done ?_
    (repeat (first | refine RS.seq ?_ | refine RS.region ?_ | refine RS.regionQ ?_ (by kernel_rfl) (by kernel_rfl) | refine RS.skip ?_ | refine RS.inBlock ?_ | refine RS.block ?_ | refine RS.exit ?_)); refine RS.ret1 (v := .bool _) Try.func8 fun w hw => ?_
    exact ⟨retB (by simp), hw.below⟩
  (repeat (first | refine RS.seq ?_ | refine RS.region ?_ | refine RS.regionQ ?_ (by kernel_rfl) (by kernel_rfl) | refine RS.skip ?_ | refine RS.inBlock ?_ | refine RS.block ?_ | refine RS.exit ?_)); refine eqI ?_; refine asB ?_; refine LS.done ?_; (repeat (first | refine RS.seq ?_ | refine RS.region ?_ | refine RS.regionQ ?_ (by kernel_rfl) (by kernel_rfl) | refine RS.skip ?_ | refine RS.inBlock ?_ | refine RS.block ?_ | refine RS.exit ?_))
  refine RS.cond (fun c2 => ?_) (fun c2 => ?_)
  · refine RS.openRowD (.slice a1' G.pods.length c1') (fun bR c0 capR eR hcR hcM hlR htR => ?_)
    injection eR with eR1 _ eR2
    subst eR1; subst eR2
    have hlR : c1' * 7 ≤ c0.length := hlR
    have hle : G.pods.length * 7 ≤ c0.length := by omega
    (repeat (first | refine RS.seq ?_ | refine RS.region ?_ | refine RS.skip ?_ | refine RS.inBlock ?_ | refine RS.block ?_ | refine RS.exit ?_)); refine RS.drawK [.free, .ex, .free, .free, .free, .ex, .free, .free, .free, .st] ?_ (by kernel_rfl) (by kernel_rfl); refine D.fld ?_; refine D.ld1 (v := .slice _ _ _) ?_; refine D.mvI ?_; refine D.mvI ?_; refine D.mvI ?_
    refine D.callP ?_ (hc := fun _ _ w _ _ _ => w3_c _ _ (by omega) (by omega) w)
    (first | refine D.addN ?_ | refine D.addI ?_); refine D.idx (i := i) ?_; refine D.fld ?_
    refine D.stB (.int .i64 (s + k % 2)) _ ?_ (hr := by omega)
    refine D.done (fun us σ3 hle3 hfs => ?_)
    refine RS.to (K' := [blk bR (.cells (List.toArray (setAt c0 (0 + i * 7 + 1) [.int .i64 (s + k % 2)])) 26 (0, 0)), blk b16 (.cells (List.toArray [.int .i64 G.id, .slice (some ⟨bR, 0, none⟩) G.pods.length c1']) 48 (0, 0)), blk b7 (.cells (List.toArray [.int .i64 raw.id, .slice ar raw.pods.length cr]) 48 (0, 0))]) ?_ ⟨fun h => h⟩
    obtain ⟨L, hLd⟩ : ∃ L, L = G.pods.set i { G.pods[i] with shard := s + k % 2 } := ⟨_, rfl⟩
    have hLl : L.length = G.pods.length := by rw [hLd]; simp
    refine RS.closeRowD 0 L (b := bR) (c0 := setAt c0 (0 + i * 7 + 1) [.int .i64 (s + k % 2)]) (m := G.pods.length) (s := 7) hcR hcM (by rw [setAt_len]; exact hlR) (by rw [hLd]; exact rowWrite (htR.mono (fromN_up hle3)) hle i hi' 1 _ (by simp) _ (fun c hc => repField1 hc (by show I64 _; omega))) ?_ (hml := hLl.symm)
    clear hLd
    have hL : L.length ≤ 140737488355328 := by omega
    (repeat (first | refine RS.seq ?_ | refine RS.region ?_ | refine RS.regionQ ?_ (by kernel_rfl) (by kernel_rfl) | refine RS.skip ?_ | refine RS.inBlock ?_ | refine RS.block ?_ | refine RS.exit ?_)); refine ldA [_, _] ?_; refine mvI ?_
    refine callP ?_ (hc := fun w hw => gang_c _ ⟨G.id, L⟩ s w ⟨_, rfl, hI, hw.rowRepD hL⟩)
    refine ldA [_, _] ?_; refine mvI ?_
    refine callP ?_ (hc := fun w hw => rgang_c _ ⟨G.id, L⟩ s w ⟨_, rfl, hI, hw.rowRepD hL⟩)
    refine eqI ?_; refine asB ?_; refine LS.done ?_
    (repeat (first | refine RS.seq ?_ | refine RS.region ?_ | refine RS.regionQ ?_ (by kernel_rfl) (by kernel_rfl) | refine RS.skip ?_ | refine RS.inBlock ?_ | refine RS.block ?_ | refine RS.exit ?_)); refine RS.ret1 (v := .bool _) Try.func8 fun w hw => ?_
    exact ⟨retB (by simp), hw.below⟩
  (repeat (first | refine RS.seq ?_ | refine RS.region ?_ | refine RS.regionQ ?_ (by kernel_rfl) (by kernel_rfl) | refine RS.skip ?_ | refine RS.inBlock ?_ | refine RS.block ?_ | refine RS.exit ?_)); refine eqI ?_; refine asB ?_; refine LS.done ?_; (repeat (first | refine RS.seq ?_ | refine RS.region ?_ | refine RS.regionQ ?_ (by kernel_rfl) (by kernel_rfl) | refine RS.skip ?_ | refine RS.inBlock ?_ | refine RS.block ?_ | refine RS.exit ?_))
  refine RS.cond (fun c3 => ?_) (fun c3 => ?_)
  · obtain ⟨f1, f2⟩ := wmod k (G.pods.length + 1) (by omega)
    have hj : (k % ((G.pods.length : Int) + 1)).toNat ≤ G.pods.length := by omega
    (repeat (first | refine RS.seq ?_ | refine RS.region ?_ | refine RS.skip ?_ | refine RS.inBlock ?_ | refine RS.block ?_ | refine RS.exit ?_)); refine RS.draw [.free, .ex, .free, .free, .ex, .free, .free, .ex, .free, .free, .st] [blk b16 (.cells (List.toArray [.int .i64 G.id, .slice a1' G.pods.length c1']) 48 (0, 0))] ?_ (by kernel_rfl) (by kernel_rfl) (by infer_instance); refine D.fld ?_; refine D.ld1 (v := .slice _ _ _) ?_; refine D.mvI ?_; refine D.fld ?_; refine D.ld1 (v := .slice _ _ _) ?_; refine D.lenL ?_; (first | refine D.addN ?_ | refine D.addI ?_)
    refine D.callP ?_ (hc := fun _ _ w _ _ _ => w3_c _ _ (by omega) (by omega) w)
    refine D.slcHi (k % ((G.pods.length : Int) + 1)).toNat ?_
    refine D.fld ?_
    refine D.stB (.slice a1' (k % ((G.pods.length : Int) + 1)).toNat c1') _ ?_ (hr := Nat.le_of_ble_eq_true rfl)
    refine D.done (fun us σ3 hle3 hfs => ?_)
    refine RS.cutD (k % ((G.pods.length : Int) + 1)).toNat hj (FindD.head) ?_
    have hL : (G.pods.take (k % ((G.pods.length : Int) + 1)).toNat).length ≤ 140737488355328 := by rw [List.length_take]; omega
    (repeat (first | refine RS.seq ?_ | refine RS.region ?_ | refine RS.regionQ ?_ (by kernel_rfl) (by kernel_rfl) | refine RS.skip ?_ | refine RS.inBlock ?_ | refine RS.block ?_ | refine RS.exit ?_)); refine ldA [_, _] ?_; refine mvI ?_
    refine callP ?_ (hc := fun w hw => gang_c _ ⟨G.id, G.pods.take (k % ((G.pods.length : Int) + 1)).toNat⟩ s w ⟨_, rfl, hI, hw.rowRepD hL⟩)
    refine ldA [_, _] ?_; refine mvI ?_
    refine callP ?_ (hc := fun w hw => rgang_c _ ⟨G.id, G.pods.take (k % ((G.pods.length : Int) + 1)).toNat⟩ s w ⟨_, rfl, hI, hw.rowRepD hL⟩)
    refine eqI ?_; refine asB ?_; refine LS.done ?_
    (repeat (first | refine RS.seq ?_ | refine RS.region ?_ | refine RS.regionQ ?_ (by kernel_rfl) (by kernel_rfl) | refine RS.skip ?_ | refine RS.inBlock ?_ | refine RS.block ?_ | refine RS.exit ?_)); refine RS.ret1 (v := .bool _) Try.func8 fun w hw => ?_
    exact ⟨retB (by simp), hw.below⟩
  (repeat (first | refine RS.seq ?_ | refine RS.region ?_ | refine RS.regionQ ?_ (by kernel_rfl) (by kernel_rfl) | refine RS.skip ?_ | refine RS.inBlock ?_ | refine RS.block ?_ | refine RS.exit ?_)); refine eqI ?_; refine asB ?_; refine LS.done ?_; (repeat (first | refine RS.seq ?_ | refine RS.region ?_ | refine RS.regionQ ?_ (by kernel_rfl) (by kernel_rfl) | refine RS.skip ?_ | refine RS.inBlock ?_ | refine RS.block ?_ | refine RS.exit ?_))
  refine RS.cond (fun c4 => ?_) (fun c4 => ?_)
  · obtain ⟨kk, hkk⟩ : ∃ m : Nat, (m : Int) = k % 5 := ⟨(k % 5).toNat, by omega⟩
    (repeat (first | refine RS.seq ?_ | refine RS.region ?_ | refine RS.regionQ ?_ (by kernel_rfl) (by kernel_rfl) | refine RS.skip ?_ | refine RS.inBlock ?_ | refine RS.block ?_ | refine RS.exit ?_)); refine asI ?_; refine LS.done ?_
    (repeat (first | refine RS.seq ?_ | refine RS.region ?_ | refine RS.regionQ ?_ (by kernel_rfl) (by kernel_rfl) | refine RS.skip ?_ | refine RS.inBlock ?_ | refine RS.block ?_ | refine RS.exit ?_))
    refine RS.loopF (X := Nat × Value) 18 115 (fun x => x.1 ≤ kk) (fun x => [(18, .int .i64 x.1)]) (fun _ => σ2) (fun x => [rowD 0 26 x.2 (G.pods ++ podsQ x.1), blk b16 (.cells (List.toArray [.int .i64 G.id, x.2]) 48 (0, 0)), blk b7 (.cells (List.toArray [.int .i64 raw.id, .slice ar raw.pods.length cr]) 48 (0, 0))]) (fun x => kk - x.1) (0, .slice a1' G.pods.length c1') (by simp) ⟨rfl, trivial⟩ rfl ⟨fun h => by simpa [podsQ] using h⟩ ?_
    rintro ⟨j, v⟩ gg hj ih
    simp only at hj ih ⊢
    have hql := podsQ_length j
    refine RS.formD v (fun av cv ev hcv => ?_)
    (repeat (first | refine RS.seq ?_ | refine RS.region ?_ | refine RS.regionQ ?_ (by kernel_rfl) (by kernel_rfl) | refine RS.skip ?_ | refine RS.inBlock ?_ | refine RS.block ?_ | refine RS.exit ?_)); refine mvI ?_; refine mvI ?_
    refine callP ?_ (hc := fun w _ => w3_c _ _ (by omega) (by omega) w)
    refine ltI ?_; refine LS.done ?_
    (repeat (first | refine RS.seq ?_ | refine RS.region ?_ | refine RS.regionQ ?_ (by kernel_rfl) (by kernel_rfl) | refine RS.skip ?_ | refine RS.inBlock ?_ | refine RS.block ?_ | refine RS.exit ?_))
    by_cases hlt : j < kk
    · refine RS.condT ?_ (h := by simp; omega)
      have hf1 : (List.foldl (fun (r : ByteArray) (n : Int) => r.push (UInt8.ofNat n.toNat)) ByteArray.empty [IntKind.u8.wrap (97 + (j : Int))]).size = 1 := by simp only [List.foldl]; rw [ByteArray.size_push]; rfl
      have hp1 : (⟨#[113]⟩ : ByteArray).size = 1 := rfl
      (repeat (first | refine RS.seq ?_ | refine RS.region ?_ | refine RS.regionQ ?_ (by kernel_rfl) (by kernel_rfl) | refine RS.skip ?_ | refine RS.inBlock ?_ | refine RS.block ?_ | refine RS.exit ?_)); refine fld ?_; refine ld1 (v := v) ?_; refine mvI ?_; (first | refine addN ?_ | refine addI ?_); refine cvI ?_; refine bldS [.int _ _] [.int _ _] (fun b108 => ?_); refine b2sB [IntKind.u8.wrap (97 + (j : Int))] ?_; refine addS ?_; refine bld (vals := [(0, .string _), (1, .int _ _)]) [_, _, _, _, _, _, _] ?_; refine bldS [.agg (List.toArray (cQ j))] (cQ j) (fun b112 => ?_); refine appD (vy := .slice (some ⟨b112, 0, none⟩) 1 1) v [pQ j] (fun w hw => ⟨cQ j, srcB hw TSlice.eq, CellsL.one_ (repQ _ j)⟩) (fun v113 => ?_) (hb := by simp; omega) (hm := by simp; omega); refine LS.formD v113 (fun a113 c113 e113 _ => ?_); subst e113; refine fld ?_; refine st (.slice _ _ _) _ ?_; refine LS.done ?_
      (repeat (first | refine RS.seq ?_ | refine RS.region ?_ | refine RS.regionQ ?_ (by kernel_rfl) (by kernel_rfl) | refine RS.skip ?_ | refine RS.inBlock ?_ | refine RS.block ?_ | refine RS.exit ?_)); refine mvI ?_; (first | refine addN ?_ | refine addI ?_); refine asI ?_; refine LS.done ?_; (repeat (first | refine RS.seq ?_ | refine RS.region ?_ | refine RS.regionQ ?_ (by kernel_rfl) (by kernel_rfl) | refine RS.skip ?_ | refine RS.inBlock ?_ | refine RS.block ?_ | refine RS.exit ?_))
      have eq1 : G.pods ++ podsQ (j + 1) = G.pods ++ podsQ j ++ [pQ j] := by rw [podsQ_succ, ← List.append_assoc]
      exact ih (j + 1, .slice a113 (G.pods ++ podsQ j ++ [pQ j]).length c113) hlt (by omega) ⟨rfl, trivial⟩ (by repeat (first | with_reducible exact Out.refl _ _ _ | exact Out.hv | refine Out.upd ?_ | refine Out.hvIn ?_)) ⟨fun h => by simp only [eq1]; exact h.tail.tail⟩ rfl
    · refine RS.condF ?_ (h := by simp; omega)
      subst ev
      have hL : (G.pods ++ podsQ j).length ≤ 140737488355328 := by rw [List.length_append]; omega
      (repeat (first | refine RS.seq ?_ | refine RS.region ?_ | refine RS.regionQ ?_ (by kernel_rfl) (by kernel_rfl) | refine RS.skip ?_ | refine RS.inBlock ?_ | refine RS.block ?_ | refine RS.exit ?_)); refine ldA [_, _] ?_; refine mvI ?_
      refine callP ?_ (hc := fun w hw => gang_c _ ⟨G.id, G.pods ++ podsQ j⟩ s w ⟨_, rfl, hI, hw.rowRepD hL⟩)
      refine ldA [_, _] ?_; refine mvI ?_
      refine callP ?_ (hc := fun w hw => rgang_c _ ⟨G.id, G.pods ++ podsQ j⟩ s w ⟨_, rfl, hI, hw.rowRepD hL⟩)
      refine eqI ?_; refine asB ?_; refine LS.done ?_
      (repeat (first | refine RS.seq ?_ | refine RS.region ?_ | refine RS.regionQ ?_ (by kernel_rfl) (by kernel_rfl) | refine RS.skip ?_ | refine RS.inBlock ?_ | refine RS.block ?_ | refine RS.exit ?_)); refine RS.ret1 (v := .bool _) Try.func8 fun w hw => ?_
      exact ⟨retB (by simp), hw.below⟩
  · exfalso; simp at c0 c1 c2 c3 c4; omega
end Go.Proofs.Ytejdccgebljmgaa
