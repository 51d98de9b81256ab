/- The law SpecOwn answers true. -/
import Derived.Test.YtejdccgebljmgaaSlices
import Derived.Test.YtejdccgebljmgaaEight
namespace Go.Proofs.Ytejdccgebljmgaa
open Go.JW Go.RowKit

theorem all_setAt (p : Value → Bool) : ∀ {l : List Value} (k : Nat) (vs : List Value), l.all p = true → vs.all p = true → (setAt l k vs).all p = true := by
  intro l
  induction l with
  | nil => intro k vs h _; cases vs <;> simp [setAt]
  | cons x l ih =>
    intro k vs h hv
    rw [List.all_cons, Bool.and_eq_true] at h
    cases vs with
    | nil => rw [setAt_nil, List.all_cons, h.1, h.2]; rfl
    | cons v vs =>
      have hv' := hv
      rw [List.all_cons, Bool.and_eq_true] at hv'
      cases k with
      | zero => simp only [setAt, List.all_cons, hv'.1, Bool.true_and]; exact ih 0 vs h.2 hv'.2
      | succ k => simp only [setAt, List.all_cons, h.1, Bool.true_and]; exact ih k (v :: vs) h.2 hv
theorem RS.openRowC {P : Program} {f : FuncId} {R : Ending → World → Prop} {k : List Item} {n : Nat} {fr : Nat → Value} {w0 : World} {M : Nat → Prop} {σ : PH} {K K' : List HP} {v : Value} {e s m : Nat} {cs : List Value} {put : HP → List HP} (hf : FindR v K e s m cs put K') (hm : 0 < m)
    (h : ∀ b c0 cap, v = .slice (some ⟨b, 0, none⟩) m cap → m ≤ cap → cap ≤ 9223372036854775807 → cs.all (·.oneCell') = true → cap * s ≤ c0.length → c0.take (m * s) = cs → RS P f R k n fr w0 M σ (blk b (.cells (List.toArray c0) e (0, 0)) :: K')) : RS P f R k n fr w0 M σ K :=
  ⟨fun w hw => by
    obtain ⟨F1, ⟨h1, h1c, a, cap, e1, h2, h3, h4⟩, h5, h6⟩ := hf.get hw.sep
    rcases h4 with ⟨h8, _⟩ | ⟨b, c0, rfl, g1, g2, g3, g4⟩
    · omega
    · exact (h b c0 cap e1 h2 h3 h1c g3 g4).out w ⟨hw.os, hw.tape, hw.output, hw.size, hw.keep, hw.imm, F1, ⟨g1, g2⟩, h5, h6⟩⟩
theorem erase_perm {α : Type} : ∀ {L : List α} {i : Nat} (hi : i < L.length), (L[i] :: L.eraseIdx i).Perm L := by
  intro L
  induction L with
  | nil => intro i hi; simp at hi
  | cons x L ih =>
    intro i hi
    cases i with
    | zero => exact List.Perm.refl _
    | succ i => exact (List.Perm.swap _ _ _).trans ((ih (by simpa using hi)).cons x)
theorem rowsO_perm (N : Nat) {L L' : List OwnP} (h : L.Perm L') : (rowsO N L).Perm (rowsO N L') := h.flatMap_right _
theorem rowsO_take {N : Nat} {L : List OwnP} {i : Nat} (hi : i < L.length) {g : VH} {K : List HP} {F : Nat → Prop} (h : SepIn g (groupHP (rowsO N L) :: K) F) :
    SepIn g (rowD N 9 L[i].2.1 L[i].1.picks :: rowD N 9 L[i].2.2 L[i].1.bears :: groupHP (rowsO N (L.eraseIdx i)) :: K) F := by
  have h1 := SepIn.append h
  have h2 := SepIn.perm ((rowsO_perm N (erase_perm hi).symm).append_right K) h1
  have e : rowsO N (L[i] :: L.eraseIdx i) = [rowD N 9 L[i].2.1 L[i].1.picks, rowD N 9 L[i].2.2 L[i].1.bears] ++ rowsO N (L.eraseIdx i) := by simp [rowsO]
  rw [e, List.append_assoc] at h2
  exact SepIn.cons_sub (fun _ h => SepIn.cons_sub (fun _ h => SepIn.group h) h) h2
theorem rowsO_put {N : Nat} {L : List OwnP} {i : Nat} (hi : i < L.length) (x : OwnP) {g : VH} {K : List HP} {F : Nat → Prop}
    (h : SepIn g (rowD N 9 x.2.1 x.1.picks :: rowD N 9 x.2.2 x.1.bears :: groupHP (rowsO N (L.eraseIdx i)) :: K) F) : SepIn g (groupHP (rowsO N (L.set i x)) :: K) F := by
  have hi' : i < (L.set i x).length := by simpa using hi
  have hp := erase_perm hi'
  rw [List.getElem_set_self, List.eraseIdx_set_eq] at hp
  have h1 : SepIn g (rowsO N (x :: L.eraseIdx i) ++ K) F := by
    have e : rowsO N (x :: L.eraseIdx i) = [rowD N 9 x.2.1 x.1.picks, rowD N 9 x.2.2 x.1.bears] ++ rowsO N (L.eraseIdx i) := by simp [rowsO]
    rw [e, List.append_assoc]
    exact SepIn.cons_sub (fun _ h => SepIn.cons_sub (fun _ h => SepIn.append (A := rowsO N (L.eraseIdx i)) h) h) h
  exact SepIn.group (SepIn.perm ((rowsO_perm N hp).append_right K) h1)
theorem cellsO_len (L : List OwnP) : (cellsO L).length = L.length * 7 := by
  induction L with
  | nil => rfl
  | cons x L ih => simp only [cellsO, List.flatMap_cons, List.length_append] at ih ⊢; rw [ih]; simp [podC]; omega
theorem cellsO_at (L : List OwnP) (i : Nat) (hi : i < L.length) (j : Nat) (hj : j < 7) : (cellsO L)[i * 7 + j]? = (podC L[i].1 L[i].2.1 L[i].2.2)[j]? := by
  induction L generalizing i with
  | nil => simp at hi
  | cons x L ih =>
    have hl : (podC x.1 x.2.1 x.2.2).length = 7 := rfl
    cases i with
    | zero => simp only [cellsO, List.flatMap_cons, Nat.zero_mul, Nat.zero_add, List.getElem_cons_zero]; rw [List.getElem?_append_left (by rw [hl]; exact hj)]
    | succ i =>
      have := ih i (by simpa using hi)
      simp only [cellsO, List.flatMap_cons, List.getElem_cons_succ] at this ⊢
      rw [List.getElem?_append_right (by rw [hl]; omega), hl, ← this]; congr 1; omega
theorem cellsO_name (L : List OwnP) (i : Nat) (hi : i < L.length) (nm : ByteArray) (ps bs : List ByteArray) :
    setAt (cellsO L) (i * 7) [.string nm] = cellsO (L.set i ({ L[i].1 with name := nm, picks := ps, bears := bs }, L[i].2.1, L[i].2.2)) := by
  induction L generalizing i with
  | nil => simp at hi
  | cons x L ih =>
    have hl : (podC x.1 x.2.1 x.2.2).length = 7 := rfl
    cases i with
    | zero =>
      simp only [cellsO, List.flatMap_cons, Nat.zero_mul, List.set_cons_zero, List.getElem_cons_zero]
      rw [setAt_left _ _ _ _ (by rw [hl]; simp)]; rfl
    | succ i =>
      have := ih i (by simpa using hi)
      simp only [cellsO, List.flatMap_cons, List.set_cons_succ, List.getElem_cons_succ] at this ⊢
      rw [show (i + 1) * 7 = (podC x.1 x.2.1 x.2.2).length + i * 7 by rw [hl]; omega, setAt_right, this]
theorem ownlaw_c (id : Int) (v : Value) (ns : List Int) (by_ : Int) (w : World) (hid : I64 id) (hns : RepL (hp w) v ns) :
    Calls Try.prog 11 #[.int .i64 id, v, .int .i64 by_] w fun e w' => e = .returned (.bool true) ∧ Below w.heap.size w w' := by
  obtain ⟨an, cn, rfl⟩ := hns.form
  obtain ⟨i1, i2⟩ := wmod id 999999 (by omega)
  refine RS.enter Try.func11 Try.ntmps11 rfl rfl ?_
  (repeat (first | refine RS.seq ?_ | refine RS.region ?_ | refine RS.regionQ ?_ (by kernel_rfl) (by kernel_rfl) | refine RS.skip ?_ | refine RS.inBlock ?_ | refine RS.block ?_ | refine RS.exit ?_)); refine asB ?_; refine LS.done ?_
  (repeat (first | refine RS.seq ?_ | refine RS.region ?_ | refine RS.regionQ ?_ (by kernel_rfl) (by kernel_rfl) | refine RS.skip ?_ | refine RS.inBlock ?_ | refine RS.block ?_ | refine RS.exit ?_)); skip
  refine callP ?_ (hc := fun w _ => known_c w)
  refine not_ ?_; refine LS.done ?_
  (repeat (first | refine RS.seq ?_ | refine RS.region ?_ | refine RS.regionQ ?_ (by kernel_rfl) (by kernel_rfl) | refine RS.skip ?_ | refine RS.inBlock ?_ | refine RS.block ?_ | refine RS.exit ?_)); refine RS.condF ?_
  (repeat (first | refine RS.seq ?_ | refine RS.region ?_ | refine RS.regionQ ?_ (by kernel_rfl) (by kernel_rfl) | refine RS.skip ?_ | refine RS.inBlock ?_ | refine RS.block ?_ | refine RS.exit ?_)); refine mvI ?_; refine mvL ?_
  refine callT (fun v τ => RepA τ v (gangOf id ns 2)) (fun v18 τ1 σ1 hq1 hN1 hle1 hτ1 => ?_) (fun w' hw => lgang_w id 2 ns _ hid (by omega) w' (hns.mono hw.imm))
  refine mvI ?_; refine mvL ?_
  refine callT (fun v τ => RepA τ v (gangOf id ns 2)) (fun v21 τ2 σ2 hq2 hN2 hle2 hτ2 => ?_) (fun w' hw => lgang_w id 2 ns _ hid (by omega) w' (hns.mono (PH.le_trans hle1 hw.imm)))
  have hq1 := (hq1.mono hτ1).mono hle2
  have hq2 := hq2.mono hτ2
  have hgs := small_gangOf id ns 2
  have hok := gangOf_ok id ns 2 (by omega)
  obtain ⟨G, hG⟩ : ∃ G, G = gangOf id ns 2 := ⟨_, rfl⟩
  rw [← hG] at hq1 hq2 hgs hok
  clear hG
  obtain ⟨cs1, rfl, hr1⟩ := hq1
  obtain ⟨cs2, rfl, hr2⟩ := hq2
  have hr10 := hr1
  obtain ⟨vg, rfl, hg64, hgr⟩ := hr1
  obtain ⟨vh, rfl, hh64, hhr⟩ := hr2
  obtain ⟨ag, cg, rfl⟩ := hgr.form
  obtain ⟨ah, ch, rfl⟩ := hhr.form
  refine alloc_ (fun b7 => ?_); refine alloc_ (fun b8 => ?_); refine st (.agg _) _ ?_; refine st (.agg _) _ ?_; refine LS.done ?_
  refine RS.to (K' := [blk b7 (.cells (List.toArray [.int .i64 G.id, .slice ag G.pods.length cg]) 48 (0, 0)), blk b8 (.cells (List.toArray [.int .i64 G.id, .slice ah G.pods.length ch]) 48 (0, 0))]) ?_ ⟨fun h => h.swap⟩
  (repeat (first | refine RS.seq ?_ | refine RS.region ?_ | refine RS.regionQ ?_ (by kernel_rfl) (by kernel_rfl) | refine RS.skip ?_ | refine RS.inBlock ?_ | refine RS.block ?_ | refine RS.exit ?_)); refine asI ?_; refine LS.done ?_
  (repeat (first | refine RS.seq ?_ | refine RS.region ?_ | refine RS.regionQ ?_ (by kernel_rfl) (by kernel_rfl) | refine RS.skip ?_ | refine RS.inBlock ?_ | refine RS.block ?_ | refine RS.exit ?_))
  refine RS.loopF (X := Nat × PH) 9 77 (fun x => 1 ≤ x.1 ∧ x.1 ≤ 3 ∧ PH.le σ2 x.2) (fun x => [(9, .int .i64 x.1)]) (fun x => x.2) (fun _ => [blk b7 (.cells (List.toArray [.int .i64 G.id, .slice ag G.pods.length cg]) 48 (0, 0)), blk b8 (.cells (List.toArray [.int .i64 G.id, .slice ah G.pods.length ch]) 48 (0, 0))]) (fun x => 3 - x.1) (1, σ2) ⟨by omega, by omega, PH.le_refl _⟩ ⟨rfl, trivial⟩ rfl ⟨fun h => h⟩ ?_
  rintro ⟨s, σ3⟩ g1 ⟨hs1, hs3, hle3⟩ ih
  simp only at hs1 hs3 hle3 ih ⊢
  (repeat (first | refine RS.seq ?_ | refine RS.region ?_ | refine RS.regionQ ?_ (by kernel_rfl) (by kernel_rfl) | refine RS.skip ?_ | refine RS.inBlock ?_ | refine RS.block ?_ | refine RS.exit ?_)); refine mvI ?_; refine leI ?_; refine LS.done ?_
  (repeat (first | refine RS.seq ?_ | refine RS.region ?_ | refine RS.regionQ ?_ (by kernel_rfl) (by kernel_rfl) | refine RS.skip ?_ | refine RS.inBlock ?_ | refine RS.block ?_ | refine RS.exit ?_))
  by_cases hlt : s < 3
  · refine RS.condT ?_ (h := by simp; omega)
    (repeat (first | refine RS.seq ?_ | refine RS.region ?_ | refine RS.regionQ ?_ (by kernel_rfl) (by kernel_rfl) | refine RS.skip ?_ | refine RS.inBlock ?_ | refine RS.block ?_ | refine RS.exit ?_)); refine ldA [_, _] ?_; refine mvI ?_
    refine callO (fun x => x.1) (fun (x : Value × List OwnP) => [rowH 26 7 x.1 x.2.length (cellsO x.2), groupHP (rowsO 0 x.2)]) (fun x _ => podsO x.2 = sliceOf G.pods s ∧ ∀ p ∈ podsO x.2, OkP p) (fun x τ4 σ4 hq4 hN4 hle4 hτ4 => ?_) (fun w' hw => slice_c _ G s 0 w' (Rep.mono hr10 (PH.le_trans hle3 hw.imm)) (Nat.le_trans hgs.1 (by omega)) hgs.2)
    obtain ⟨vp, L⟩ := x
    obtain ⟨hpo, hokp⟩ := hq4
    have hL14 : L.length ≤ 14 := by
      have e : L.length = (podsO L).length := by simp [podsO]
      rw [e, hpo]; exact Nat.le_trans (List.length_filter_le _ _) hgs.1
    have hLb : ∀ x ∈ L, x.1.picks.length ≤ 1000 ∧ x.1.bears.length ≤ 1000 := fun x hx => hgs.2 x.1 (by
      have : x.1 ∈ podsO L := List.mem_map.2 ⟨x, hx, rfl⟩
      rw [hpo] at this; exact (List.mem_filter.1 this).1)
    clear hpo hokp
    refine LS.to (K' := [rowH 26 7 vp L.length (cellsO L), groupHP (rowsO 0 L), blk b7 (.cells (List.toArray [.int .i64 G.id, .slice ag G.pods.length cg]) 48 (0, 0)), blk b8 (.cells (List.toArray [.int .i64 G.id, .slice ah G.pods.length ch]) 48 (0, 0))]) ?_ ⟨fun h => h⟩
    refine LS.formR (v := vp) inferInstance (fun ap cp ep => ?_); subst ep
    refine asL ?_; refine LS.done ?_
    (repeat (first | refine RS.seq ?_ | refine RS.region ?_ | refine RS.regionQ ?_ (by kernel_rfl) (by kernel_rfl) | refine RS.skip ?_ | refine RS.inBlock ?_ | refine RS.block ?_ | refine RS.exit ?_)); refine asI ?_; refine LS.done ?_
    obtain ⟨n, hn⟩ : ∃ n, n = L.length := ⟨_, rfl⟩
    rw [← hn]
    rw [← hn] at hL14
    (repeat (first | refine RS.seq ?_ | refine RS.region ?_ | refine RS.regionQ ?_ (by kernel_rfl) (by kernel_rfl) | refine RS.skip ?_ | refine RS.inBlock ?_ | refine RS.block ?_ | refine RS.exit ?_))
    refine RS.loopF (X := Nat × List OwnP × PH) 11 77 (fun x => x.1 ≤ n ∧ x.2.1.length = n ∧ PH.le σ4 x.2.2 ∧ ∀ y ∈ x.2.1, y.1.picks.length ≤ 1000 ∧ y.1.bears.length ≤ 1000) (fun x => [(11, .int .i64 x.1)]) (fun x => x.2.2) (fun x => [rowH 26 7 (.slice ap n cp) n (cellsO x.2.1), groupHP (rowsO 0 x.2.1), blk b7 (.cells (List.toArray [.int .i64 G.id, .slice ag G.pods.length cg]) 48 (0, 0)), blk b8 (.cells (List.toArray [.int .i64 G.id, .slice ah G.pods.length ch]) 48 (0, 0))]) (fun x => n - x.1) (0, L, σ4) ⟨by omega, hn.symm, PH.le_refl _, hLb⟩ ⟨rfl, trivial⟩ rfl ⟨fun h => h⟩ ?_
    clear hn hLb
    rintro ⟨i, L, σ5⟩ g2 ⟨hi, hn, hle5, hLb⟩ ihi
    simp only at hi hn hle5 hLb ihi ⊢
    (repeat (first | refine RS.seq ?_ | refine RS.region ?_ | refine RS.regionQ ?_ (by kernel_rfl) (by kernel_rfl) | refine RS.skip ?_ | refine RS.inBlock ?_ | refine RS.block ?_ | refine RS.exit ?_)); refine mvI ?_; refine mvL ?_; refine lenL ?_; refine ltI ?_; refine LS.done ?_
    (repeat (first | refine RS.seq ?_ | refine RS.region ?_ | refine RS.regionQ ?_ (by kernel_rfl) (by kernel_rfl) | refine RS.skip ?_ | refine RS.inBlock ?_ | refine RS.block ?_ | refine RS.exit ?_))
    by_cases hil : i < n
    · refine RS.condT ?_ (h := by simp; omega)
      have hiL : i < L.length := by omega
      have hxb := hLb L[i] (List.getElem_mem _)
      obtain ⟨p0, v1, v2, hx⟩ : ∃ p0 v1 v2, L[i] = (p0, v1, v2) := ⟨_, _, _, rfl⟩
      rw [hx] at hxb
      have hxb : p0.picks.length ≤ 1000 ∧ p0.bears.length ≤ 1000 := hxb
      refine RS.openRowC (v := .slice ap n cp) inferInstance (by omega) (fun bR c0 capR eR hcR hcMR hoR hlR htR => ?_)
      injection eR with eR1 _ eR2
      subst eR1; subst eR2
      have hl7 : n * 7 ≤ c0.length := Nat.le_trans (Nat.mul_le_mul_right 7 hcR) hlR
      refine RS.to (K' := [rowD 0 9 v1 p0.picks, rowD 0 9 v2 p0.bears, groupHP (rowsO 0 (L.eraseIdx i)), blk bR (.cells (List.toArray c0) 26 (0, 0)), blk b7 (.cells (List.toArray [.int .i64 G.id, .slice ag G.pods.length cg]) 48 (0, 0)), blk b8 (.cells (List.toArray [.int .i64 G.id, .slice ah G.pods.length ch]) 48 (0, 0))]) ?_ ⟨fun h => by have := rowsO_take hiL h.swap; rw [hx] at this; exact this⟩
      refine RS.formD v1 (fun a1 c1 e1 hc1 => ?_); subst e1
      refine RS.formD v2 (fun a2 c2 e2 hc2 => ?_); subst e2
      (repeat (first | refine RS.seq ?_ | refine RS.region ?_ | refine RS.regionQ ?_ (by kernel_rfl) (by kernel_rfl) | refine RS.skip ?_ | refine RS.inBlock ?_ | refine RS.block ?_ | refine RS.exit ?_)); refine mvL ?_; refine mvI ?_; refine idx (i := i) ?_; refine fld ?_; refine st (.string _) _ ?_ (hr := by rw [Nat.ble_eq]; omega); refine LS.done ?_
      have hset : (setAt c0 (0 + i * 7 + 0) [.string ⟨#[113]⟩]).length = c0.length := setAt_len _ _ _
      have hat : ∀ j, j < 7 → j ≠ 0 → nth (setAt c0 (0 + i * 7 + 0) [.string ⟨#[113]⟩]) (0 + i * 7 + j) = (podC p0 (.slice a1 p0.picks.length c1) (.slice a2 p0.bears.length c2))[j]? := fun j hj h0 => by
        have h1 := cellsO_at L i hiL j hj
        rw [hx, ← htR, List.getElem?_take, if_pos (by omega)] at h1
        rw [nth_eq, ← h1, setAt_cons, setAt_nil, List.getElem?_set_ne (by omega)]; congr 1; omega
      (repeat (first | refine RS.seq ?_ | refine RS.region ?_ | refine RS.regionQ ?_ (by kernel_rfl) (by kernel_rfl) | refine RS.skip ?_ | refine RS.inBlock ?_ | refine RS.block ?_ | refine RS.exit ?_)); refine asI ?_; refine LS.done ?_
      (repeat (first | refine RS.seq ?_ | refine RS.region ?_ | refine RS.regionQ ?_ (by kernel_rfl) (by kernel_rfl) | refine RS.skip ?_ | refine RS.inBlock ?_ | refine RS.block ?_ | refine RS.exit ?_))
      refine RS.loopF (X := Nat × List ByteArray × PH) 12 58 (fun x => x.1 ≤ p0.picks.length ∧ x.2.1.length = p0.picks.length ∧ PH.le σ5 x.2.2) (fun x => [(12, .int .i64 x.1)]) (fun x => x.2.2) (fun x => [rowD 0 9 (.slice a1 p0.picks.length c1) x.2.1, rowD 0 9 (.slice a2 p0.bears.length c2) p0.bears, groupHP (rowsO 0 (L.eraseIdx i)), blk bR (.cells (List.toArray (setAt c0 (0 + i * 7 + 0) [.string ⟨#[113]⟩])) 26 (0, 0)), blk b7 (.cells (List.toArray [.int .i64 G.id, .slice ag G.pods.length cg]) 48 (0, 0)), blk b8 (.cells (List.toArray [.int .i64 G.id, .slice ah G.pods.length ch]) 48 (0, 0))]) (fun x => p0.picks.length - x.1) (0, p0.picks, σ5) ⟨by omega, rfl, PH.le_refl _⟩ ⟨rfl, trivial⟩ rfl ⟨fun h => h⟩ ?_
      rintro ⟨k, P1, σ6⟩ g3 ⟨hk0, hP0, hle60⟩ ihk
      simp only at hk0 hP0 hle60 ihk ⊢
      (repeat (first | refine RS.seq ?_ | refine RS.region ?_ | refine RS.regionQ ?_ (by kernel_rfl) (by kernel_rfl) | refine RS.skip ?_ | refine RS.inBlock ?_ | refine RS.block ?_ | refine RS.exit ?_)); refine mvI ?_; refine mvL ?_; refine mvI ?_; refine idx (i := i) ?_; refine fld ?_; refine ld1 (v := .slice a1 p0.picks.length c1) ?_ (hv := hat 4 (by omega) (by omega)); refine lenL ?_; refine ltI ?_; refine LS.done ?_
      (repeat (first | refine RS.seq ?_ | refine RS.region ?_ | refine RS.regionQ ?_ (by kernel_rfl) (by kernel_rfl) | refine RS.skip ?_ | refine RS.inBlock ?_ | refine RS.block ?_ | refine RS.exit ?_))
      by_cases hkl : k < p0.picks.length
      · refine RS.condT ?_ (h := by simp; omega)
        refine RS.openRowD (l := P1) (.slice a1 p0.picks.length c1) (fun bp d0 capP eP hcP hcMP hlP htP => ?_)
        injection eP with eP1 _ eP2
        subst eP1; subst eP2
        have hlP : c1 * 1 ≤ d0.length := hlP
        have htP : CellsL (fromN 0 σ6) (d0.take (P1.length * 1)) P1 := htP
        (repeat (first | refine RS.seq ?_ | refine RS.region ?_ | refine RS.skip ?_ | refine RS.inBlock ?_ | refine RS.block ?_ | refine RS.exit ?_)); refine RS.drawK [.free, .free, .free, .free, .ex, .free, .free, .ex, .free, .st] ?_ (by kernel_rfl) (by kernel_rfl); refine D.mvL ?_; refine D.mvI ?_; refine D.idx (i := i) ?_; refine D.fld ?_; refine D.ld1 (v := .slice (some ⟨bp, 0, none⟩) p0.picks.length c1) ?_ (hv := hat 4 (by omega) (by omega)); refine D.mvI ?_; refine D.mvI ?_
        refine D.callP ?_ (hc := fun _ _ w _ _ _ => lname_c _ w)
        refine D.idx (i := k) ?_
        refine D.stB (.string (nameOf by_)) _ ?_ (hr := by omega)
        refine D.done (fun us σ8 hle8 hfs => ?_)
        refine RS.to (K' := [blk bp (.cells (List.toArray (setAt d0 (0 + k * 1) [.string (nameOf by_)])) 9 (0, 0)), rowD 0 9 (.slice a2 p0.bears.length c2) p0.bears, groupHP (rowsO 0 (L.eraseIdx i)), blk bR (.cells (List.toArray (setAt c0 (0 + i * 7 + 0) [.string ⟨#[113]⟩])) 26 (0, 0)), blk b7 (.cells (List.toArray [.int .i64 G.id, .slice ag G.pods.length cg]) 48 (0, 0)), blk b8 (.cells (List.toArray [.int .i64 G.id, .slice ah G.pods.length ch]) 48 (0, 0))]) ?_ ⟨fun h => h⟩
        have hns := nameOf_size by_
        obtain ⟨P', hP'⟩ : ∃ P', P' = P1.set k (nameOf by_) := ⟨_, rfl⟩
        have hPl' : P'.length = p0.picks.length := by rw [hP']; simp [hP0]
        refine RS.closeRowD 0 P' (b := bp) (c0 := setAt d0 (0 + k * 1) [.string (nameOf by_)]) (m := p0.picks.length) (s := 1) (by omega) hcMP (by rw [setAt_len]; exact hlP) ?_ ?_ (hml := hPl'.symm)
        · rw [hP', ← hP0, take_setAt _ _ _ _ (by simp; omega) (by omega), show 0 + k * 1 = k * Rep.sz ByteArray + 0 by show 0 + k * 1 = k * 1 + 0; omega]
          exact (htP.mono (fromN_up hle8)).write k (by omega) 0 _ (by exact Nat.le_refl 1) _ (fun c hc => ⟨by rw [hc.1]; rfl, by show (nameOf by_).size ≤ _; omega⟩)
        · (repeat (first | refine RS.seq ?_ | refine RS.region ?_ | refine RS.regionQ ?_ (by kernel_rfl) (by kernel_rfl) | refine RS.skip ?_ | refine RS.inBlock ?_ | refine RS.block ?_ | refine RS.exit ?_)); refine mvI ?_; (first | refine addN ?_ | refine addI ?_); refine asI ?_; refine LS.done ?_; (repeat (first | refine RS.seq ?_ | refine RS.region ?_ | refine RS.regionQ ?_ (by kernel_rfl) (by kernel_rfl) | refine RS.skip ?_ | refine RS.inBlock ?_ | refine RS.block ?_ | refine RS.exit ?_))
          exact ihk (k + 1, P', σ8) ⟨by omega, hPl', PH.le_trans hle60 hle8⟩ (by omega) ⟨rfl, trivial⟩ (by repeat (first | with_reducible exact Out.refl _ _ _ | exact Out.hv | refine Out.upd ?_ | refine Out.hvIn ?_)) ⟨fun h => h⟩ rfl
      refine RS.condF ?_ (h := by simp; omega)
      clear ihk hkl
      (repeat (first | refine RS.seq ?_ | refine RS.region ?_ | refine RS.regionQ ?_ (by kernel_rfl) (by kernel_rfl) | refine RS.skip ?_ | refine RS.inBlock ?_ | refine RS.block ?_ | refine RS.exit ?_)); refine asI ?_; refine LS.done ?_
      (repeat (first | refine RS.seq ?_ | refine RS.region ?_ | refine RS.regionQ ?_ (by kernel_rfl) (by kernel_rfl) | refine RS.skip ?_ | refine RS.inBlock ?_ | refine RS.block ?_ | refine RS.exit ?_))
      refine RS.loopF (X := Nat × List ByteArray × PH) 13 77 (fun x => x.1 ≤ p0.bears.length ∧ x.2.1.length = p0.bears.length ∧ PH.le σ6 x.2.2) (fun x => [(13, .int .i64 x.1)]) (fun x => x.2.2) (fun x => [rowD 0 9 (.slice a1 p0.picks.length c1) P1, rowD 0 9 (.slice a2 p0.bears.length c2) x.2.1, groupHP (rowsO 0 (L.eraseIdx i)), blk bR (.cells (List.toArray (setAt c0 (0 + i * 7 + 0) [.string ⟨#[113]⟩])) 26 (0, 0)), blk b7 (.cells (List.toArray [.int .i64 G.id, .slice ag G.pods.length cg]) 48 (0, 0)), blk b8 (.cells (List.toArray [.int .i64 G.id, .slice ah G.pods.length ch]) 48 (0, 0))]) (fun x => p0.bears.length - x.1) (0, p0.bears, σ6) ⟨by omega, rfl, PH.le_refl _⟩ ⟨rfl, trivial⟩ rfl ⟨fun h => h⟩ ?_
      rintro ⟨m, P2, σ7⟩ g3 ⟨hk1, hP1, hle61⟩ ihk
      simp only at hk1 hP1 hle61 ihk ⊢
      (repeat (first | refine RS.seq ?_ | refine RS.region ?_ | refine RS.regionQ ?_ (by kernel_rfl) (by kernel_rfl) | refine RS.skip ?_ | refine RS.inBlock ?_ | refine RS.block ?_ | refine RS.exit ?_)); refine mvI ?_; refine mvL ?_; refine mvI ?_; refine idx (i := i) ?_; refine fld ?_; refine ld1 (v := .slice a2 p0.bears.length c2) ?_ (hv := hat 5 (by omega) (by omega)); refine lenL ?_; refine ltI ?_; refine LS.done ?_
      (repeat (first | refine RS.seq ?_ | refine RS.region ?_ | refine RS.regionQ ?_ (by kernel_rfl) (by kernel_rfl) | refine RS.skip ?_ | refine RS.inBlock ?_ | refine RS.block ?_ | refine RS.exit ?_))
      by_cases hkl : m < p0.bears.length
      · refine RS.condT ?_ (h := by simp; omega)
        refine RS.openRowD (l := P2) (.slice a2 p0.bears.length c2) (fun bp d0 capP eP hcP hcMP hlP htP => ?_)
        injection eP with eP1 _ eP2
        subst eP1; subst eP2
        have hlP : c2 * 1 ≤ d0.length := hlP
        have htP : CellsL (fromN 0 σ7) (d0.take (P2.length * 1)) P2 := htP
        (repeat (first | refine RS.seq ?_ | refine RS.region ?_ | refine RS.skip ?_ | refine RS.inBlock ?_ | refine RS.block ?_ | refine RS.exit ?_)); refine RS.drawK [.free, .free, .free, .free, .ex, .free, .free, .ex, .free, .st] ?_ (by kernel_rfl) (by kernel_rfl); refine D.mvL ?_; refine D.mvI ?_; refine D.idx (i := i) ?_; refine D.fld ?_; refine D.ld1 (v := .slice (some ⟨bp, 0, none⟩) p0.bears.length c2) ?_ (hv := hat 5 (by omega) (by omega)); refine D.mvI ?_; refine D.mvI ?_
        refine D.callP ?_ (hc := fun _ _ w _ _ _ => lname_c _ w)
        refine D.idx (i := m) ?_
        refine D.stB (.string (nameOf by_)) _ ?_ (hr := by omega)
        refine D.done (fun us σ8 hle8 hfs => ?_)
        refine RS.to (K' := [blk bp (.cells (List.toArray (setAt d0 (0 + m * 1) [.string (nameOf by_)])) 9 (0, 0)), rowD 0 9 (.slice a1 p0.picks.length c1) P1, groupHP (rowsO 0 (L.eraseIdx i)), blk bR (.cells (List.toArray (setAt c0 (0 + i * 7 + 0) [.string ⟨#[113]⟩])) 26 (0, 0)), blk b7 (.cells (List.toArray [.int .i64 G.id, .slice ag G.pods.length cg]) 48 (0, 0)), blk b8 (.cells (List.toArray [.int .i64 G.id, .slice ah G.pods.length ch]) 48 (0, 0))]) ?_ ⟨fun h => h⟩
        have hns := nameOf_size by_
        obtain ⟨P', hP'⟩ : ∃ P', P' = P2.set m (nameOf by_) := ⟨_, rfl⟩
        have hPl' : P'.length = p0.bears.length := by rw [hP']; simp [hP1]
        refine RS.closeRowD 0 P' (b := bp) (c0 := setAt d0 (0 + m * 1) [.string (nameOf by_)]) (m := p0.bears.length) (s := 1) (by omega) hcMP (by rw [setAt_len]; exact hlP) ?_ ?_ (hml := hPl'.symm)
        · rw [hP', ← hP1, take_setAt _ _ _ _ (by simp; omega) (by omega), show 0 + m * 1 = m * Rep.sz ByteArray + 0 by show 0 + m * 1 = m * 1 + 0; omega]
          exact (htP.mono (fromN_up hle8)).write m (by omega) 0 _ (by exact Nat.le_refl 1) _ (fun c hc => ⟨by rw [hc.1]; rfl, by show (nameOf by_).size ≤ _; omega⟩)
        · (repeat (first | refine RS.seq ?_ | refine RS.region ?_ | refine RS.regionQ ?_ (by kernel_rfl) (by kernel_rfl) | refine RS.skip ?_ | refine RS.inBlock ?_ | refine RS.block ?_ | refine RS.exit ?_)); refine mvI ?_; (first | refine addN ?_ | refine addI ?_); refine asI ?_; refine LS.done ?_; (repeat (first | refine RS.seq ?_ | refine RS.region ?_ | refine RS.regionQ ?_ (by kernel_rfl) (by kernel_rfl) | refine RS.skip ?_ | refine RS.inBlock ?_ | refine RS.block ?_ | refine RS.exit ?_))
          exact ihk (m + 1, P', σ8) ⟨by omega, hPl', PH.le_trans hle61 hle8⟩ (by omega) ⟨rfl, trivial⟩ (by repeat (first | with_reducible exact Out.refl _ _ _ | exact Out.hv | refine Out.upd ?_ | refine Out.hvIn ?_)) ⟨fun h => h.swap⟩ rfl
      refine RS.condF ?_ (h := by simp; omega)
      clear ihk hkl
      obtain ⟨x', hx'⟩ : ∃ x' : OwnP, x' = ({ p0 with name := ⟨#[113]⟩, picks := P1, bears := P2 }, .slice a1 p0.picks.length c1, .slice a2 p0.bears.length c2) := ⟨_, rfl⟩
      refine RS.to (K' := [groupHP (rowsO 0 (L.set i x')), blk bR (.cells (List.toArray (setAt c0 (0 + i * 7 + 0) [.string ⟨#[113]⟩])) 26 (0, 0)), blk b7 (.cells (List.toArray [.int .i64 G.id, .slice ag G.pods.length cg]) 48 (0, 0)), blk b8 (.cells (List.toArray [.int .i64 G.id, .slice ah G.pods.length ch]) 48 (0, 0))]) ?_ ⟨fun h => rowsO_put hiL x' (by rw [hx']; exact h)⟩
      refine RS.closeRow (b := bR) (m := n) (cap := cp) (s := 7) (cs := cellsO (L.set i x')) (FindB.tail (i := FindB.head)) hcR hcMR (by rw [hset]; exact hlR) ?_ ?_ ?_
      · rw [take_setAt _ _ _ _ (by simp; omega) hl7, htR, show 0 + i * 7 + 0 = i * 7 by omega, cellsO_name L i hiL ⟨#[113]⟩ P1 P2, hx, hx']
      · have e := cellsO_name L i hiL ⟨#[113]⟩ P1 P2
        rw [hx] at e; rw [hx', ← e]; exact all_setAt _ _ _ hoR rfl
      · (repeat (first | refine RS.seq ?_ | refine RS.region ?_ | refine RS.regionQ ?_ (by kernel_rfl) (by kernel_rfl) | refine RS.skip ?_ | refine RS.inBlock ?_ | refine RS.block ?_ | refine RS.exit ?_)); refine mvI ?_; (first | refine addN ?_ | refine addI ?_); refine asI ?_; refine LS.done ?_; (repeat (first | refine RS.seq ?_ | refine RS.region ?_ | refine RS.regionQ ?_ (by kernel_rfl) (by kernel_rfl) | refine RS.skip ?_ | refine RS.inBlock ?_ | refine RS.block ?_ | refine RS.exit ?_))
        refine ihi (i + 1, L.set i x', σ7) ⟨by omega, by simp [hn], PH.le_trans hle5 (PH.le_trans hle60 hle61), fun y hy => ?_⟩ (by omega) ⟨rfl, trivial⟩ (by repeat (first | with_reducible exact Out.refl _ _ _ | exact Out.hv | refine Out.upd ?_ | refine Out.hvIn ?_)) ⟨fun h => h⟩ rfl
        rcases List.mem_or_eq_of_mem_set hy with hy | rfl
        · exact hLb y hy
        · rw [hx']; show P1.length ≤ 1000 ∧ P2.length ≤ 1000; omega
    · refine RS.condF ?_ (h := by simp; omega)
      (repeat (first | refine RS.seq ?_ | refine RS.region ?_ | refine RS.regionQ ?_ (by kernel_rfl) (by kernel_rfl) | refine RS.skip ?_ | refine RS.inBlock ?_ | refine RS.block ?_ | refine RS.exit ?_)); refine mvI ?_; (first | refine addN ?_ | refine addI ?_); refine asI ?_; refine LS.done ?_; (repeat (first | refine RS.seq ?_ | refine RS.region ?_ | refine RS.regionQ ?_ (by kernel_rfl) (by kernel_rfl) | refine RS.skip ?_ | refine RS.inBlock ?_ | refine RS.block ?_ | refine RS.exit ?_))
      exact ih (s + 1, σ5) ⟨by omega, by omega, PH.le_trans hle3 (PH.le_trans hle4 hle5)⟩ (by omega) ⟨rfl, trivial⟩ (by repeat (first | with_reducible exact Out.refl _ _ _ | exact Out.hv | refine Out.upd ?_ | refine Out.hvIn ?_)) ⟨fun h => h.tail.tail⟩ rfl
  · refine RS.condF ?_ (h := by simp; omega)
    clear ih hlt
    (repeat (first | refine RS.seq ?_ | refine RS.region ?_ | refine RS.regionQ ?_ (by kernel_rfl) (by kernel_rfl) | refine RS.skip ?_ | refine RS.inBlock ?_ | refine RS.block ?_ | refine RS.exit ?_)); refine fld ?_; refine ld1 (v := .slice _ _ _) ?_; refine fld ?_; refine ld1 (v := .slice _ _ _) ?_
    refine callP ?_ (hc := fun w hw => rpods_c _ _ G.pods w (hgr.mono (PH.le_trans hle3 hw.imm)) (hhr.mono (PH.le_trans hle3 hw.imm)))
    refine mvB ?_
    refine LS.part 82 (fun g4 => ?_) (fun g4 => ?_)
    · refine LS.on ?_; refine ldA [_, _] ?_; refine LS.on ?_
      refine callP ?_ (hc := fun w hw => gang_c _ G 2 w (Rep.mono hr10 (PH.le_trans hle3 hw.imm)))
      refine LS.on ?_; refine eqI ?_; refine pk (v := .bool _) ?_; refine asB ?_; refine LS.done ?_
      (repeat (first | refine RS.seq ?_ | refine RS.region ?_ | refine RS.regionQ ?_ (by kernel_rfl) (by kernel_rfl) | refine RS.skip ?_ | refine RS.inBlock ?_ | refine RS.block ?_ | refine RS.exit ?_)); refine RS.ret1 (v := .bool _) Try.func11 fun w hw => ?_
      exact ⟨retB (by rw [hok]; rfl), hw.below⟩
    · exfalso; simp at g4
end Go.Proofs.Ytejdccgebljmgaa
