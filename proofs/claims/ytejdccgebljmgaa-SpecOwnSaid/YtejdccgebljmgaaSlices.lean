/- The law SpecSlices answers true. -/
import Derived.Test.YtejdccgebljmgaaCopyR
namespace Go.Proofs.Ytejdccgebljmgaa
open Go.JW Go.RowKit

def sumTo (l : List PodD) (S : List Int) : Nat := (S.map fun s => (sliceOf l s).length).sum
theorem sum_one (x : Int) : ∀ {S : List Int}, S.Nodup → ((S.map fun s => if x = s then 1 else 0).sum : Nat) = if x ∈ S then 1 else 0 := by
  intro S
  induction S with
  | nil => intro _; simp
  | cons a S ih =>
    intro h
    obtain ⟨h1, h2⟩ := List.nodup_cons.1 h
    rw [List.map_cons, List.sum_cons, ih h2]
    by_cases e : x = a
    · subst e; simp [h1]
    · simp [e]
theorem sum_add (f g : Int → Nat) : ∀ S : List Int, (S.map fun s => f s + g s).sum = (S.map f).sum + (S.map g).sum := by
  intro S
  induction S with
  | nil => rfl
  | cons a S ih => simp only [List.map_cons, List.sum_cons, ih]; omega
theorem sumTo_all {S : List Int} (hS : S.Nodup) : ∀ {l : List PodD}, (∀ p ∈ l, p.shard ∈ S) → sumTo l S = l.length := by
  intro l
  induction l with
  | nil => intro _; simp only [sumTo, sliceOf, List.filter_nil, List.length_nil]; clear hS; induction S with
    | nil => rfl
    | cons a S ih => simpa using ih
  | cons p l ih =>
    intro h
    have e : sumTo (p :: l) S = (S.map fun s => (if p.shard = s then 1 else 0) + (sliceOf l s).length).sum := by
      unfold sumTo
      congr 1
      refine List.map_congr_left fun s _ => ?_
      simp only [sliceOf, List.filter_cons]
      by_cases c : p.shard = s <;> simp [c]; omega
    rw [e, sum_add, sum_one _ hS, if_pos (h p (by simp))]
    have := ih fun q hq => h q (by simp [hq])
    unfold sumTo at this
    rw [this, List.length_cons]; omega
theorem sumTo_succ (l : List PodD) (S : List Int) (k : Nat) (hk : k < S.length) : sumTo l (S.take (k + 1)) = sumTo l (S.take k) + (sliceOf l S[k]).length := by
  unfold sumTo
  rw [List.take_add_one, List.getElem?_eq_getElem hk]
  simp only [Option.toList_some, List.map_append, List.sum_append, List.map_cons, List.map_nil, List.sum_cons, List.sum_nil, Nat.add_zero]
theorem sumTo_le (l : List PodD) (S : List Int) (k : Nat) : sumTo l (S.take k) ≤ sumTo l S := by
  conv => rhs; rw [← List.take_append_drop k S]
  simp only [sumTo, List.map_append, List.sum_append]; omega
theorem rising_nodup {l : List Int} (h : Rising l) : l.Nodup := List.Pairwise.imp (fun h => by omega) h
theorem sumTo_shards (l : List PodD) : sumTo l (shardsOf l) = l.length := sumTo_all (rising_nodup (shards_rising l)) fun p hp => by rw [mem_shards]; exact List.mem_map.2 ⟨p, hp, rfl⟩
theorem slice_pos {l : List PodD} {s : Int} (h : s ∈ shardsOf l) : 0 < (sliceOf l s).length := by
  rw [mem_shards] at h
  obtain ⟨p, hp, e⟩ := List.mem_map.1 h
  exact List.length_pos_of_mem (List.mem_filter.2 ⟨hp, by simpa using e⟩)
def Small (g : GangD) : Prop := g.pods.length ≤ 14 ∧ ∀ p ∈ g.pods, p.picks.length ≤ 1000 ∧ p.bears.length ≤ 1000
theorem small_few {g : GangD} (h : fewGang g = true) : Small g := by
  simp only [fewGang, Bool.and_eq_true, decide_eq_true_eq, List.all_eq_true] at h
  refine ⟨h.2, fun p hp => ?_⟩
  have := h.1 p hp
  simp only [fewPod, few, Bool.and_eq_true, decide_eq_true_eq] at this
  omega
theorem set_len (c : Prop) [Decidable c] (n : Int) : (if c then setOf n else []).length ≤ 4 := by
  split
  · exact (setN_size _ 4 (by omega)).2
  · simp
theorem podOf_small (a n s : Int) : (podOf a n s).picks.length ≤ 1000 ∧ (podOf a n s).bears.length ≤ 1000 :=
  ⟨Nat.le_trans (set_len _ _) (by omega), Nat.le_trans (set_len _ _) (by omega)⟩
theorem small_gangOf (id : Int) (ns : List Int) (s : Int) : Small (gangOf id ns s) := by
  refine ⟨by have := gangOf_len id ns s; omega, fun p hp => ?_⟩
  simp only [gangOf] at hp
  split at hp
  · simp at hp; subst hp; exact podOf_small _ _ _
  · simp only [podsTo, List.mem_map] at hp
    obtain ⟨i, _, rfl⟩ := hp; exact podOf_small _ _ _
theorem RowAt.gang {σ : PH} {b o : Nat} {l : List GangD} (h : RowAt σ b o l) (i : Nat) (hi : i < l.length) : ∃ vs, Rep.rep σ vs l[i] ∧ vs.length = 2 ∧ ∀ j, j < 2 → σ.cell b (o + i * 2 + j) = vs[j]? := by
  obtain ⟨vs, h1, h2⟩ := h i hi
  exact ⟨vs, h2, Rep.len h2, h1⟩
theorem slices_c (cs : List Value) (raw : GangD) (id : Int) (v : Value) (ns : List Int) (w : World) (hr : Rep.rep (hp w) cs raw) (hid : I64 id) (hns : RepL (hp w) v ns) :
    Calls Try.prog 6 #[.agg cs.toArray, .int .i64 id, v] w fun e w' => e = .returned (.bool true) ∧ Below w.heap.size w w' := by
  have hr0 := hr
  obtain ⟨vr, rfl, hri, hrl⟩ := hr
  obtain ⟨ar, cr, rfl⟩ := hrl.form
  obtain ⟨an, cn, rfl⟩ := hns.form
  refine RS.enter Try.func6 Try.ntmps6 rfl rfl ?_
  (repeat (first | refine RS.seq ?_ | refine RS.region ?_ | refine RS.regionQ ?_ (by kernel_rfl) (by kernel_rfl) | refine RS.skip ?_ | refine RS.inBlock ?_ | refine RS.block ?_ | refine RS.exit ?_)); refine box_ (v := .agg _) (cs := [_, _]) (fun b3 => ?_); refine asB ?_; refine LS.done ?_
  (repeat (first | refine RS.seq ?_ | refine RS.region ?_ | refine RS.regionQ ?_ (by kernel_rfl) (by kernel_rfl) | refine RS.skip ?_ | refine RS.inBlock ?_ | refine RS.block ?_ | refine RS.exit ?_)); skip
  refine callP ?_ (hc := fun w _ => known_c w)
  refine not_ ?_; refine LS.done ?_
  (repeat (first | refine RS.seq ?_ | refine RS.region ?_ | refine RS.regionQ ?_ (by kernel_rfl) (by kernel_rfl) | refine RS.skip ?_ | refine RS.inBlock ?_ | refine RS.block ?_ | refine RS.exit ?_)); refine RS.condF ?_
  (repeat (first | refine RS.seq ?_ | refine RS.region ?_ | refine RS.regionQ ?_ (by kernel_rfl) (by kernel_rfl) | refine RS.skip ?_ | refine RS.inBlock ?_ | refine RS.block ?_ | refine RS.exit ?_)); refine ldA [_, _] ?_
  refine callP ?_ (hc := fun w hw => fewGang_c _ raw w (Rep.mono hr0 hw.imm))
  refine not_ ?_; refine LS.done ?_
  (repeat (first | refine RS.seq ?_ | refine RS.region ?_ | refine RS.regionQ ?_ (by kernel_rfl) (by kernel_rfl) | refine RS.skip ?_ | refine RS.inBlock ?_ | refine RS.block ?_ | refine RS.exit ?_)); refine RS.cond (fun c => ?_) (fun c => ?_)
  · (repeat (first | refine RS.seq ?_ | refine RS.region ?_ | refine RS.regionQ ?_ (by kernel_rfl) (by kernel_rfl) | refine RS.skip ?_ | refine RS.inBlock ?_ | refine RS.block ?_ | refine RS.exit ?_)); refine asB ?_; refine LS.done ?_; (repeat (first | refine RS.seq ?_ | refine RS.region ?_ | refine RS.regionQ ?_ (by kernel_rfl) (by kernel_rfl) | refine RS.skip ?_ | refine RS.inBlock ?_ | refine RS.block ?_ | refine RS.exit ?_)); refine RS.ret1 (v := .bool _) Try.func6 fun w hw => ?_
    exact ⟨rfl, hw.below⟩
  have hsm : ∀ g ∈ [raw, gangOf id ns 4], Small g := fun g hg => by
    simp only [List.mem_cons, List.mem_nil_iff, or_false] at hg
    rcases hg with rfl | rfl
    · exact small_few (by simpa using c)
    · exact small_gangOf _ _ _
  clear c
  (repeat (first | refine RS.seq ?_ | refine RS.region ?_ | refine RS.skip ?_ | refine RS.inBlock ?_ | refine RS.block ?_ | refine RS.exit ?_)); refine RS.drawK [.ex, .free, .free, .ex, .ex, .ex] ?_ (by kernel_rfl) (by kernel_rfl); refine D.ldA [_, _] ?_; refine D.mvI ?_; refine D.mvL ?_
  refine D.callN (fun v τ => RepA τ v (gangOf id ns 4)) ?_ (hc := fun _ _ w hle _ hw => lgang_w id 4 ns _ hid (by omega) w (hns.mono (PH.le_trans hle hw.imm)))
  refine D.litT 0 [raw, gangOf id ns 4] (vs := fun us => [.agg (List.toArray [.int .i64 raw.id, .slice ar raw.pods.length cr]), us 21]) ?_ (fun us σ' hle hf => by rw [fromN_zero]; obtain ⟨⟨τ, h1, h2, h3⟩, _⟩ := hf; exact ⟨Rep.mono hr0 hle, (h1.mono h2).cv, trivial⟩)
  refine D.asU (fun v σ => RepL (fromN 0 σ) v [raw, gangOf id ns 4]) (fun v σ1 σ2 h hs => h.mono (fromN_up hs)) ?_ (fun us σ' _ hf => hf.1)
  refine D.done (fun us σ0 hle0 hfs => ?_)
  have h7 : RepL σ0 (us 7) [raw, gangOf id ns 4] := by have h : RepL (fromN 0 σ0) (us 7) _ := hfs.1; rwa [fromN_zero] at h
  clear hfs
  obtain ⟨v7, hv7⟩ : ∃ v, v = us 7 := ⟨_, rfl⟩
  rw [← hv7] at h7
  obtain ⟨GL, hGL⟩ : ∃ GL, GL = [raw, gangOf id ns 4] := ⟨_, rfl⟩
  have hGl : GL.length = 2 := by rw [hGL]; rfl
  rw [← hGL] at h7 hsm
  clear hGL
  obtain ⟨a7, c7, rfl⟩ := h7.form
  refine RS.as 7 (.slice a7 GL.length c7) hv7.symm ?_
  clear hv7
  obtain ⟨b7, o7, rfl, hrow⟩ := h7.addr (fun h => by simp [h] at hGl)
  (repeat (first | refine RS.seq ?_ | refine RS.region ?_ | refine RS.regionQ ?_ (by kernel_rfl) (by kernel_rfl) | refine RS.skip ?_ | refine RS.inBlock ?_ | refine RS.block ?_ | refine RS.exit ?_)); refine asI ?_; refine LS.done ?_
  (repeat (first | refine RS.seq ?_ | refine RS.region ?_ | refine RS.regionQ ?_ (by kernel_rfl) (by kernel_rfl) | refine RS.skip ?_ | refine RS.inBlock ?_ | refine RS.block ?_ | refine RS.exit ?_))
  refine RS.loopF (X := Nat × PH) 8 99 (fun x => x.1 ≤ 2 ∧ PH.le σ0 x.2) (fun x => [(8, .int .i64 x.1)]) (fun x => x.2) (fun x => [blk b3 (.cells (List.toArray [.int .i64 raw.id, .slice ar raw.pods.length cr]) 48 (0, 0))]) (fun x => 2 - x.1) (0, σ0) ⟨by omega, PH.le_refl _⟩ ⟨rfl, trivial⟩ rfl ⟨fun h => h⟩ ?_
  rintro ⟨i, σ⟩ gg ⟨hi, hle⟩ ih
  simp only at hi hle ih ⊢
  (repeat (first | refine RS.seq ?_ | refine RS.region ?_ | refine RS.regionQ ?_ (by kernel_rfl) (by kernel_rfl) | refine RS.skip ?_ | refine RS.inBlock ?_ | refine RS.block ?_ | refine RS.exit ?_)); refine mvI ?_; refine ltI ?_; refine LS.done ?_
  (repeat (first | refine RS.seq ?_ | refine RS.region ?_ | refine RS.regionQ ?_ (by kernel_rfl) (by kernel_rfl) | refine RS.skip ?_ | refine RS.inBlock ?_ | refine RS.block ?_ | refine RS.exit ?_))
  by_cases hlt : i < 2
  · refine RS.condT ?_ (h := by simp; omega)
    obtain ⟨vs, hvr, hvl, hvc⟩ := RowAt.gang (hrow.mono hle) i (by omega)
    obtain ⟨G, hG⟩ : ∃ G, G = GL[i] := ⟨_, rfl⟩
    have hGs := hsm GL[i] (List.getElem_mem _)
    rw [← hG] at hvr hGs
    clear hG
    obtain ⟨hG14, hGb⟩ := hGs
    (repeat (first | refine RS.seq ?_ | refine RS.region ?_ | refine RS.regionQ ?_ (by kernel_rfl) (by kernel_rfl) | refine RS.skip ?_ | refine RS.inBlock ?_ | refine RS.block ?_ | refine RS.exit ?_)); refine mvL ?_; refine mvI ?_; refine idx (i := i) ?_; refine ldSA (vs := vs) hvl hvc ?_
    refine callT (fun v τ => RepL τ v (shardsOf G.pods)) (fun v9 τ2 σ2 hq2 hN2 hle2 hτ2 => ?_) (fun w' hw => shards_c _ G w' (Rep.mono hvr hw.imm) (by omega))
    obtain ⟨a9, c9, rfl⟩ := hq2.form
    have h9 := hq2.mono hτ2
    refine asL ?_; refine LS.done ?_
    (repeat (first | refine RS.seq ?_ | refine RS.region ?_ | refine RS.regionQ ?_ (by kernel_rfl) (by kernel_rfl) | refine RS.skip ?_ | refine RS.inBlock ?_ | refine RS.block ?_ | refine RS.exit ?_)); refine mvL ?_; refine mvL ?_; refine mvI ?_; refine idx (i := i) ?_; refine ldSA (vs := vs) hvl (PH.cells_mono hle2 hvl hvc) ?_
    refine callT (fun v τ => RepL τ v (shardsOf G.pods)) (fun v37 τ3 σ3 hq3 hN3 hle3 hτ3 => ?_) (fun w' hw => rshards_c _ G w' (Rep.mono hvr (PH.le_trans hle2 hw.imm)) (by omega))
    obtain ⟨a37, c37, rfl⟩ := hq3.form
    refine callP ?_ (hc := fun w hw => rints_c _ _ (shardsOf G.pods) w ((h9.mono hle3).mono hw.imm) ((hq3.mono hτ3).mono hw.imm))
    refine not_ ?_; refine LS.done ?_
    (repeat (first | refine RS.seq ?_ | refine RS.region ?_ | refine RS.regionQ ?_ (by kernel_rfl) (by kernel_rfl) | refine RS.skip ?_ | refine RS.inBlock ?_ | refine RS.block ?_ | refine RS.exit ?_)); refine RS.condF ?_
    (repeat (first | refine RS.seq ?_ | refine RS.region ?_ | refine RS.regionQ ?_ (by kernel_rfl) (by kernel_rfl) | refine RS.skip ?_ | refine RS.inBlock ?_ | refine RS.block ?_ | refine RS.exit ?_)); refine asI ?_; refine LS.done ?_
    (repeat (first | refine RS.seq ?_ | refine RS.region ?_ | refine RS.regionQ ?_ (by kernel_rfl) (by kernel_rfl) | refine RS.skip ?_ | refine RS.inBlock ?_ | refine RS.block ?_ | refine RS.exit ?_)); refine asI ?_; refine LS.done ?_
    (repeat (first | refine RS.seq ?_ | refine RS.region ?_ | refine RS.regionQ ?_ (by kernel_rfl) (by kernel_rfl) | refine RS.skip ?_ | refine RS.inBlock ?_ | refine RS.block ?_ | refine RS.exit ?_))
    have hSl := shards_len G.pods
    have hle03 := PH.le_trans hle2 hle3
    have h93 := h9.mono hle3
    refine RS.loopF (X := Nat × PH) 10 76 (fun x => x.1 ≤ (shardsOf G.pods).length ∧ PH.le σ3 x.2) (fun x => [(11, .int .i64 x.1), (10, .int .i64 (sumTo G.pods ((shardsOf G.pods).take x.1) : Nat))]) (fun x => x.2) (fun x => [blk b3 (.cells (List.toArray [.int .i64 raw.id, .slice ar raw.pods.length cr]) 48 (0, 0))]) (fun x => (shardsOf G.pods).length - x.1) (0, σ3) ⟨by omega, PH.le_refl _⟩ ⟨rfl, rfl, trivial⟩ rfl ⟨fun h => h⟩ ?_
    rintro ⟨k, σ4⟩ gk ⟨hk, hle4⟩ ihk
    simp only at hk hle4 ihk ⊢
    (repeat (first | refine RS.seq ?_ | refine RS.region ?_ | refine RS.regionQ ?_ (by kernel_rfl) (by kernel_rfl) | refine RS.skip ?_ | refine RS.inBlock ?_ | refine RS.block ?_ | refine RS.exit ?_)); refine mvI ?_; refine mvL ?_; refine lenL ?_; refine ltI ?_; refine LS.done ?_
    (repeat (first | refine RS.seq ?_ | refine RS.region ?_ | refine RS.regionQ ?_ (by kernel_rfl) (by kernel_rfl) | refine RS.skip ?_ | refine RS.inBlock ?_ | refine RS.block ?_ | refine RS.exit ?_))
    by_cases hkl : k < (shardsOf G.pods).length
    · refine RS.condT ?_ (h := by simp; omega)
      obtain ⟨b9, o9, e9, hrow9⟩ := (h93.mono hle4).addr (fun h => by simp [h] at hkl)
      subst e9
      obtain ⟨S, hS⟩ : ∃ S, S = (shardsOf G.pods)[k] := ⟨_, rfl⟩
      obtain ⟨hc9, h64⟩ := hrow9.int k hkl
      have hSm : S ∈ shardsOf G.pods := by rw [hS]; exact List.getElem_mem _
      rw [← hS] at hc9 h64
      have hle04 := PH.le_trans hle03 hle4
      (repeat (first | refine RS.seq ?_ | refine RS.region ?_ | refine RS.skip ?_ | refine RS.inBlock ?_ | refine RS.block ?_ | refine RS.exit ?_)); refine RS.drawK [.free, .free, .free, .ex, .free, .free, .free, .ex, .ex, .ex] ?_ (by kernel_rfl) (by kernel_rfl); refine D.mvL ?_; refine D.mvI ?_; refine D.idx (i := i) ?_; refine D.ldSA (vs := vs) hvl (PH.cells_mono hle04 hvl hvc) ?_; refine D.mvL ?_; refine D.mvI ?_; refine D.idx (i := k) ?_; refine D.ldS hc9 ?_
      refine D.callN (fun v τ => RepL τ v (sliceOf G.pods S)) ?_ (hc := fun _ _ w hle _ hw => slice_w _ G S w (Rep.mono hvr (PH.le_trans hle04 (PH.le_trans hle hw.imm))) (by omega) hGb)
      refine D.asU (fun v σ => RepL σ v (sliceOf G.pods S)) (fun v σ1 σ2 h hs => h.mono hs) ?_ (fun us σ' _ hf => let ⟨⟨τ, h1, h2, _⟩, _⟩ := hf; h1.mono h2)
      refine D.done (fun us σ5 hle5 hfs => ?_)
      have h12 : RepL σ5 (us 12) (sliceOf G.pods S) := hfs.1
      clear hfs
      obtain ⟨v12, hv12⟩ : ∃ v, v = us 12 := ⟨_, rfl⟩
      rw [← hv12] at h12
      obtain ⟨a12, c12, rfl⟩ := h12.form
      refine RS.as 12 (.slice a12 (sliceOf G.pods S).length c12) hv12.symm ?_
      clear hv12
      have hpos := slice_pos hSm
      have hS14 : (sliceOf G.pods S).length ≤ 14 := Nat.le_trans (List.length_filter_le _ _) hG14
      have hle05 := PH.le_trans hle04 hle5
      (repeat (first | refine RS.seq ?_ | refine RS.region ?_ | refine RS.skip ?_ | refine RS.inBlock ?_ | refine RS.block ?_ | refine RS.exit ?_)); refine RS.drawG [(67, some false)] [.free, .free, .free, .free, .ex, .free, .free, .free, .ex, .ex, .ex, .free, .free, .free, .free, .free, .free] [blk b3 (.cells (List.toArray [.int .i64 raw.id, .slice ar raw.pods.length cr]) 48 (0, 0))] ?_ (by kernel_rfl) (by kernel_rfl) (by kernel_rfl) ⟨fun h => h⟩; simp only [ers, ersO, onOff, glook, nthO, List.map_cons, List.map_nil, Option.bind_some, Option.map_some, Nat.beq, cond_true, cond_false, BEq.beq]; refine D.mvL ?_; refine D.mvL ?_; refine D.mvI ?_; refine D.idx (i := i) ?_; refine D.ldSA (vs := vs) hvl (PH.cells_mono hle05 hvl hvc) ?_; refine D.mvL ?_; refine D.mvI ?_; refine D.idx (i := k) ?_; refine D.ldS (PH.cell_mono hle5 hc9) ?_
      refine D.callN (fun v τ => RepL τ v (sliceOf G.pods S)) ?_ (hc := fun _ _ w hle _ hw => rslice_c _ G S w (Rep.mono hvr (PH.le_trans hle05 (PH.le_trans hle hw.imm))) (by omega) hGb)
      refine D.callP ?_ (hc := fun us _ w hle hf hw => rpods_c _ _ (sliceOf G.pods S) w (h12.mono (PH.le_trans hle hw.imm)) (let ⟨⟨τ, h1, h2, _⟩, _⟩ := hf; h1.mono (PH.le_trans h2 hw.imm)))
      refine D.not_ ?_; refine D.mvB ?_; refine D.mvL ?_; refine D.lenL ?_; refine D.eqI ?_; refine D.pk (v := .bool _) ?_; refine D.doneG [(67, some false)] ⟨⟨rfl, rfl⟩, trivial⟩ (fun us σ1 hle1 hfs => ?_)
      refine RS.to (K' := [blk b3 (.cells (List.toArray [.int .i64 raw.id, .slice ar raw.pods.length cr]) 48 (0, 0))]) ?_ ⟨fun h => h⟩
      have hsum := sumTo_succ G.pods (shardsOf G.pods) k hkl
      have hsle := sumTo_le G.pods (shardsOf G.pods) k
      have hsle2 := sumTo_le G.pods (shardsOf G.pods) (k + 1)
      rw [sumTo_shards] at hsle hsle2
      rw [← hS] at hsum
      (repeat (first | refine RS.seq ?_ | refine RS.region ?_ | refine RS.regionQ ?_ (by kernel_rfl) (by kernel_rfl) | refine RS.skip ?_ | refine RS.inBlock ?_ | refine RS.block ?_ | refine RS.exit ?_)); refine RS.condF ?_ (h := decide_eq_false (by omega))
      (repeat (first | refine RS.seq ?_ | refine RS.region ?_ | refine RS.regionQ ?_ (by kernel_rfl) (by kernel_rfl) | refine RS.skip ?_ | refine RS.inBlock ?_ | refine RS.block ?_ | refine RS.exit ?_)); refine mvI ?_; refine mvL ?_; refine lenL ?_; (first | refine addN ?_ | refine addI ?_); refine asI ?_; refine LS.done ?_; (repeat (first | refine RS.seq ?_ | refine RS.region ?_ | refine RS.regionQ ?_ (by kernel_rfl) (by kernel_rfl) | refine RS.skip ?_ | refine RS.inBlock ?_ | refine RS.block ?_ | refine RS.exit ?_)); refine mvI ?_; (first | refine addN ?_ | refine addI ?_); refine asI ?_; refine LS.done ?_; (repeat (first | refine RS.seq ?_ | refine RS.region ?_ | refine RS.regionQ ?_ (by kernel_rfl) (by kernel_rfl) | refine RS.skip ?_ | refine RS.inBlock ?_ | refine RS.block ?_ | refine RS.exit ?_))
      exact ihk (k + 1, σ1) ⟨hkl, PH.le_trans hle4 (PH.le_trans hle5 hle1)⟩ (by omega) ⟨rfl, intV (by rw [hsum, Int.natCast_add]), trivial⟩ (by repeat (first | with_reducible exact Out.refl _ _ _ | exact Out.hv | refine Out.upd ?_ | refine Out.hvIn ?_)) ⟨fun h => h⟩ rfl
    · refine RS.condF ?_ (h := by simp; omega)
      obtain rfl : k = (shardsOf G.pods).length := by omega
      rw [List.take_length, sumTo_shards]
      clear ihk hkl
      have hle04 := PH.le_trans hle03 hle4
      obtain ⟨vG, rfl, hGi, hGr⟩ := hvr
      obtain ⟨aG, cG, rfl⟩ := hGr.form
      have hvr : Rep.rep σ [.int .i64 G.id, .slice aG G.pods.length cG] G := ⟨_, rfl, hGi, hGr⟩
      (repeat (first | refine RS.seq ?_ | refine RS.region ?_ | refine RS.skip ?_ | refine RS.inBlock ?_ | refine RS.block ?_ | refine RS.exit ?_)); refine RS.drawG [(84, some false)] [.free, .free, .free, .free, .free, .ex, .free, .free, .free, .free, .free, .free, .ex, .ex, .ex, .free, .free, .free, .ex, .ex, .ex, .free, .free] [blk b3 (.cells (List.toArray [.int .i64 raw.id, .slice ar raw.pods.length cr]) 48 (0, 0))] ?_ (by kernel_rfl) (by kernel_rfl) (by kernel_rfl) ⟨fun h => h⟩; simp only [ers, ersO, onOff, glook, nthO, List.map_cons, List.map_nil, Option.bind_some, Option.map_some, Nat.beq, cond_true, cond_false, BEq.beq]; refine D.mvI ?_; refine D.mvL ?_; refine D.mvI ?_; refine D.idx (i := i) ?_; refine D.fld ?_; refine D.ldS (PH.cell_mono hle04 (hvc 1 (by omega))) ?_; refine D.lenL ?_; refine D.neI ?_; refine D.mv (v := .bool false) ?_ (hx := fun us => boolV (by simp)); refine D.mvL ?_; refine D.mvI ?_; refine D.idx (i := i) ?_; refine D.ldSA (vs := [.int .i64 G.id, .slice aG G.pods.length cG]) hvl (PH.cells_mono hle04 hvl hvc) ?_
      refine D.callN (fun v τ => RepL τ v (sliceOf G.pods 77)) ?_ (hc := fun _ _ w hle _ hw => slice_w _ G 77 w (Rep.mono hvr (PH.le_trans hle04 (PH.le_trans hle hw.imm))) (by omega) hGb)
      refine D.lenU 89 (sliceOf G.pods 77).length ?_ (fun us σ' _ hf => let ⟨⟨τ, h1, h2, _⟩, _⟩ := hf; h1.form); refine D.mvL ?_; refine D.mvI ?_; refine D.idx (i := i) ?_; refine D.ldSA (vs := [.int .i64 G.id, .slice aG G.pods.length cG]) hvl (PH.cells_mono hle04 hvl hvc) ?_
      refine D.callN (fun v τ => RepL τ v (sliceOf G.pods 77)) ?_ (hc := fun _ _ w hle _ hw => rslice_c _ G 77 w (Rep.mono hvr (PH.le_trans hle04 (PH.le_trans hle hw.imm))) (by omega) hGb)
      refine D.lenU 95 (sliceOf G.pods 77).length ?_ (fun us σ' _ hf => let ⟨⟨τ, h1, h2, _⟩, _⟩ := hf; h1.form); refine D.neI ?_; refine D.pk (v := .bool _) ?_; refine D.doneG [(84, some false)] ⟨⟨rfl, rfl⟩, trivial⟩ (fun us σ1 hle1 hfs => ?_)
      refine RS.to (K' := [blk b3 (.cells (List.toArray [.int .i64 raw.id, .slice ar raw.pods.length cr]) 48 (0, 0))]) ?_ ⟨fun h => h⟩
      (repeat (first | refine RS.seq ?_ | refine RS.region ?_ | refine RS.regionQ ?_ (by kernel_rfl) (by kernel_rfl) | refine RS.skip ?_ | refine RS.inBlock ?_ | refine RS.block ?_ | refine RS.exit ?_)); refine RS.condF ?_ (h := by simp)
      (repeat (first | refine RS.seq ?_ | refine RS.region ?_ | refine RS.regionQ ?_ (by kernel_rfl) (by kernel_rfl) | refine RS.skip ?_ | refine RS.inBlock ?_ | refine RS.block ?_ | refine RS.exit ?_)); refine mvI ?_; (first | refine addN ?_ | refine addI ?_); refine asI ?_; refine LS.done ?_; (repeat (first | refine RS.seq ?_ | refine RS.region ?_ | refine RS.regionQ ?_ (by kernel_rfl) (by kernel_rfl) | refine RS.skip ?_ | refine RS.inBlock ?_ | refine RS.block ?_ | refine RS.exit ?_))
      exact ih (i + 1, σ1) ⟨by omega, PH.le_trans hle (PH.le_trans hle04 hle1)⟩ (by omega) ⟨rfl, trivial⟩ (by repeat (first | with_reducible exact Out.refl _ _ _ | exact Out.hv | refine Out.upd ?_ | refine Out.hvIn ?_)) ⟨fun h => h⟩ rfl
  · refine RS.condF ?_ (h := by simp; omega)
    (repeat (first | refine RS.seq ?_ | refine RS.region ?_ | refine RS.regionQ ?_ (by kernel_rfl) (by kernel_rfl) | refine RS.skip ?_ | refine RS.inBlock ?_ | refine RS.block ?_ | refine RS.exit ?_)); refine asB ?_; refine LS.done ?_; (repeat (first | refine RS.seq ?_ | refine RS.region ?_ | refine RS.regionQ ?_ (by kernel_rfl) (by kernel_rfl) | refine RS.skip ?_ | refine RS.inBlock ?_ | refine RS.block ?_ | refine RS.exit ?_)); refine RS.ret1 (v := .bool _) Try.func6 fun w hw => ?_
    exact ⟨rfl, hw.below⟩
end Go.Proofs.Ytejdccgebljmgaa
