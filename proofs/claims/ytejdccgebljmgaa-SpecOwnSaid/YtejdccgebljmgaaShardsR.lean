/- Contracts: a gang's shards, as the document has them; rows that are the same. -/
import Derived.Test.YtejdccgebljmgaaShards
namespace Go.Proofs.Ytejdccgebljmgaa
open Go.JW Go.RowKit

theorem ins_rising {o : List Int} (h : Rising o) {k : Nat} {x : Int} (hk : k ≤ o.length) (h1 : ∀ j (_ : j < k) (hj' : j < o.length), o[j] < x) (h2 : k = o.length ∨ o.getD k 0 ≠ x) (h3 : ¬ (k < o.length ∧ o.getD k 0 < x)) : Rising (o.take k ++ [x] ++ o.drop k) := by
  unfold Rising at *
  rw [List.append_assoc, List.pairwise_append]
  refine ⟨h.take, ?_, ?_⟩
  · rw [List.singleton_append, List.pairwise_cons]
    refine ⟨fun y hy => ?_, h.drop⟩
    obtain ⟨j, hj, rfl⟩ := List.mem_iff_getElem.1 hy
    rw [List.length_drop] at hj
    rw [List.getElem_drop]
    have hkl : k < o.length := by omega
    have e : o.getD k 0 = o[k] := by simp [List.getD_eq_getElem?_getD, hkl]
    rw [e] at h2 h3
    have h4 : x < o[k] := by
      rcases h2 with h2 | h2
      · omega
      · have : ¬ (o[k] < x) := fun h => h3 ⟨hkl, h⟩
        omega
    rcases Nat.eq_zero_or_pos j with h0 | h0
    · subst h0; simpa using h4
    · have := List.pairwise_iff_getElem.1 h k (k + j) hkl (by omega) (by omega)
      omega
  · intro a ha b hb
    obtain ⟨j, hj, rfl⟩ := List.mem_iff_getElem.1 ha
    rw [List.length_take] at hj
    rw [List.getElem_take]
    have hjx := h1 j (by omega) (by omega)
    rcases List.mem_append.1 hb with hb | hb
    · simp at hb; subst hb; exact hjx
    · obtain ⟨i, hi, rfl⟩ := List.mem_iff_getElem.1 hb
      rw [List.length_drop] at hi
      rw [List.getElem_drop]
      exact List.pairwise_iff_getElem.1 h j (k + i) (by omega) (by omega) (by omega)
theorem ins_mem {o : List Int} {k : Nat} {x y : Int} : y ∈ o.take k ++ [x] ++ o.drop k ↔ y ∈ o ∨ y = x := by
  rw [List.mem_append, List.mem_append, List.mem_singleton]
  conv => rhs; rw [← List.take_append_drop k o, List.mem_append]
  constructor
  · rintro ((h | h) | h)
    · exact .inl (.inl h)
    · exact .inr h
    · exact .inl (.inr h)
  · rintro ((h | h) | h)
    · exact .inl (.inl h)
    · exact .inr h
    · exact .inl (.inr h)
theorem rshards_c (cs : List Value) (g : GangD) (w : World) (hr : Rep.rep (hp w) cs g) (hb : g.pods.length ≤ 1000) : Calls Try.prog 28 #[.agg cs.toArray] w fun e w' => ∃ v, e = .returned v ∧ Below w.heap.size w w' ∧ RepL (since w w') v (shardsOf g.pods) := by
  obtain ⟨v, rfl, hid, hl⟩ := hr
  obtain ⟨a, cap, rfl⟩ := hl.form
  have hlen : g.pods.length ≤ 140737488355328 := hl.1
  refine RS.enter Try.func28 Try.ntmps28 rfl rfl ?_
  (repeat (first | refine RS.seq ?_ | refine RS.region ?_ | refine RS.regionQ ?_ (by kernel_rfl) (by kernel_rfl) | refine RS.skip ?_ | refine RS.inBlock ?_ | refine RS.block ?_ | refine RS.exit ?_)); refine box_ (v := .agg _) (cs := [_, _]) (fun b1 => ?_); refine asL ?_; refine LS.done ?_
  (repeat (first | refine RS.seq ?_ | refine RS.region ?_ | refine RS.regionQ ?_ (by kernel_rfl) (by kernel_rfl) | refine RS.skip ?_ | refine RS.inBlock ?_ | refine RS.block ?_ | refine RS.exit ?_)); refine asL ?_; refine LS.done ?_
  (repeat (first | refine RS.seq ?_ | refine RS.region ?_ | refine RS.regionQ ?_ (by kernel_rfl) (by kernel_rfl) | refine RS.skip ?_ | refine RS.inBlock ?_ | refine RS.block ?_ | refine RS.exit ?_)); refine asI ?_; refine LS.done ?_
  (repeat (first | refine RS.seq ?_ | refine RS.region ?_ | refine RS.regionQ ?_ (by kernel_rfl) (by kernel_rfl) | refine RS.skip ?_ | refine RS.inBlock ?_ | refine RS.block ?_ | refine RS.exit ?_))
  refine RS.loopF (X := Nat × Value × List Int × PH) 3 66 (fun x => x.1 ≤ g.pods.length ∧ PH.le (hp w) x.2.2.2 ∧ RepL (fromN w.heap.size x.2.2.2) x.2.1 x.2.2.1 ∧ Rising x.2.2.1 ∧ (∀ y, y ∈ x.2.2.1 ↔ y ∈ shardL (g.pods.take x.1)) ∧ x.2.2.1.length ≤ x.1) (fun x => [(4, .int .i64 x.1), (3, x.2.1)]) (fun x => x.2.2.2) (fun _ => [blk b1 (.cells (List.toArray [.int .i64 g.id, .slice a g.pods.length cap]) 48 (0, 0))]) (fun x => g.pods.length - x.1) (0, .slice none 0 0, [], hp w) ⟨by omega, PH.le_refl _, RepL.nil _ _ _, List.Pairwise.nil, by simp [shardL], by simp⟩ ⟨rfl, rfl, trivial⟩ rfl ⟨fun h => h⟩ ?_
  rintro ⟨i, ov, o, σ⟩ gg ⟨hi, hle, hrep, hris, hmem, hol⟩ ih
  simp only at hi hle hrep hris hmem hol ih ⊢
  obtain ⟨ao, co, rfl⟩ := hrep.form
  (repeat (first | refine RS.seq ?_ | refine RS.region ?_ | refine RS.regionQ ?_ (by kernel_rfl) (by kernel_rfl) | refine RS.skip ?_ | refine RS.inBlock ?_ | refine RS.block ?_ | refine RS.exit ?_)); refine mvI ?_; refine fld ?_; refine ld1 (v := .slice _ _ _) ?_; refine lenL ?_; refine ltI ?_; refine LS.done ?_
  (repeat (first | refine RS.seq ?_ | refine RS.region ?_ | refine RS.regionQ ?_ (by kernel_rfl) (by kernel_rfl) | refine RS.skip ?_ | refine RS.inBlock ?_ | refine RS.block ?_ | refine RS.exit ?_))
  by_cases hlt : i < g.pods.length
  · refine RS.condT ?_ (h := by simp; omega)
    obtain ⟨b, off, rfl, hrow⟩ := hl.addr (fun h => by simp [h] at hlt)
    obtain ⟨hcell, h64⟩ := RowAt.podShard (hrow.mono hle) i hlt
    obtain ⟨x, hx⟩ : ∃ x, x = g.pods[i].shard := ⟨_, rfl⟩
    rw [← hx] at hcell h64
    have hok : ∀ k, k < o.length → ∃ b o', ao = some ⟨b, o', none⟩ ∧ σ.cell b (o' + k * 1) = some (.int .i64 (o.getD k 0)) := fun k hk => by
      obtain ⟨b', o', e, r⟩ := hrep.addr (fun h => by simp [h] at hk)
      obtain ⟨h1, _⟩ := r.int k hk
      exact ⟨b', o', e, by rw [show o.getD k 0 = o[k] from by simp [List.getD_eq_getElem?_getD, hk]]; exact PH.cell_mono (fromN_le _ _) h1⟩
    (repeat (first | refine RS.seq ?_ | refine RS.region ?_ | refine RS.regionQ ?_ (by kernel_rfl) (by kernel_rfl) | refine RS.skip ?_ | refine RS.inBlock ?_ | refine RS.block ?_ | refine RS.exit ?_)); refine asI ?_; refine LS.done ?_
    (repeat (first | refine RS.seq ?_ | refine RS.region ?_ | refine RS.regionQ ?_ (by kernel_rfl) (by kernel_rfl) | refine RS.skip ?_ | refine RS.inBlock ?_ | refine RS.block ?_ | refine RS.exit ?_))
    refine RS.loopF (X := Nat) 5 32 (fun k => k ≤ o.length ∧ ∀ j (hj : j < k) (hj' : j < o.length), o[j] < x) (fun k => [(5, .int .i64 k)]) (fun _ => σ) (fun _ => [blk b1 (.cells (List.toArray [.int .i64 g.id, .slice (some ⟨b, off, none⟩) g.pods.length cap]) 48 (0, 0))]) (fun k => o.length - k) 0 ⟨by omega, fun j hj => by omega⟩ ⟨rfl, trivial⟩ rfl ⟨fun h => h⟩ ?_
    rintro k gk ⟨hk, hlts⟩ ihk
    (repeat (first | refine RS.seq ?_ | refine RS.region ?_ | refine RS.regionQ ?_ (by kernel_rfl) (by kernel_rfl) | refine RS.skip ?_ | refine RS.inBlock ?_ | refine RS.block ?_ | refine RS.exit ?_))
    refine LS.cut 13 30 [(29, .bool (decide (k < o.length ∧ o.getD k 0 < x)))] (fun gc => ?_) (fun J => ?_)
    rotate_left
    · refine mvI ?_; refine mvL ?_; refine lenL ?_; refine ltI ?_; refine mvB ?_
      refine LS.part 17 (fun g1 => ?_) (fun g1 => ?_)
      · simp only [decide_eq_true_eq] at g1
        obtain ⟨b', o', e', hc'⟩ := hok k (by omega)
        subst e'
        refine LS.on ?_; refine mvL ?_; refine LS.on ?_; refine mvI ?_; refine LS.on ?_; refine idx (i := k) ?_; refine LS.on ?_; refine ldS hc' ?_; refine LS.on ?_; refine fld ?_; refine LS.on ?_; refine ld1 (v := .slice _ _ _) ?_; refine LS.on ?_; refine mvI ?_; refine LS.on ?_; refine idx (i := i) ?_; refine LS.on ?_; refine fld ?_; refine LS.on ?_; refine ldS hcell ?_; refine LS.on ?_; refine ltI ?_; refine pk (v := .bool _) ?_; refine LS.done ?_
        exact J ⟨boolV (decide_eq_decide.2 (by omega)), trivial⟩ (by repeat (first | with_reducible exact Out.refl _ _ _ | exact Out.hv | refine Out.upd ?_ | refine Out.hvIn ?_))
      · simp only [decide_eq_false_iff_not] at g1
        refine LS.off ?_; refine LS.off ?_; refine LS.off ?_; refine LS.off ?_; refine LS.off ?_; refine LS.off ?_; refine LS.off ?_; refine LS.off ?_; refine LS.off ?_; refine LS.off ?_; refine LS.off ?_; refine pk (v := .bool _) ?_; refine LS.done ?_
        exact J ⟨boolV (by symm; exact decide_eq_false (by omega)), trivial⟩ (by repeat (first | with_reducible exact Out.refl _ _ _ | exact Out.hv | refine Out.upd ?_ | refine Out.hvIn ?_))
    (repeat (first | refine RS.seq ?_ | refine RS.region ?_ | refine RS.regionQ ?_ (by kernel_rfl) (by kernel_rfl) | refine RS.skip ?_ | refine RS.inBlock ?_ | refine RS.block ?_ | refine RS.exit ?_))
    refine RS.cond (fun c => ?_) (fun c => ?_)
    · simp only [decide_eq_true_eq] at c
      (repeat (first | refine RS.seq ?_ | refine RS.region ?_ | refine RS.regionQ ?_ (by kernel_rfl) (by kernel_rfl) | refine RS.skip ?_ | refine RS.inBlock ?_ | refine RS.block ?_ | refine RS.exit ?_)); refine mvI ?_; (first | refine addN ?_ | refine addI ?_); refine asI ?_; refine LS.done ?_; (repeat (first | refine RS.seq ?_ | refine RS.region ?_ | refine RS.regionQ ?_ (by kernel_rfl) (by kernel_rfl) | refine RS.skip ?_ | refine RS.inBlock ?_ | refine RS.block ?_ | refine RS.exit ?_))
      refine ihk (k + 1) ⟨by omega, fun j hj hj' => ?_⟩ (by omega) ⟨rfl, trivial⟩ (by repeat (first | with_reducible exact Out.refl _ _ _ | exact Out.hv | refine Out.upd ?_ | refine Out.hvIn ?_)) ⟨fun h => h⟩ rfl
      rcases Nat.lt_or_ge j k with h | h
      · exact hlts j h hj'
      · obtain rfl : j = k := by omega
        have := c.2
        rwa [show o.getD j 0 = o[j] from by simp [List.getD_eq_getElem?_getD, hj']] at this
    · simp only [decide_eq_false_iff_not] at c
      clear ihk
      (repeat (first | refine RS.seq ?_ | refine RS.region ?_ | refine RS.regionQ ?_ (by kernel_rfl) (by kernel_rfl) | refine RS.skip ?_ | refine RS.inBlock ?_ | refine RS.block ?_ | refine RS.exit ?_))
      refine LS.cut 32 49 [(48, .bool (decide (k = o.length ∨ o.getD k 0 ≠ x)))] (fun gc => ?_) (fun J => ?_)
      rotate_left
      · refine mvI ?_; refine mvL ?_; refine lenL ?_; refine eqI ?_; refine mvB ?_
        refine LS.part 36 (fun g1 => ?_) (fun g1 => ?_)
        · simp only [decide_eq_true_eq] at g1
          refine LS.off ?_; refine LS.off ?_; refine LS.off ?_; refine LS.off ?_; refine LS.off ?_; refine LS.off ?_; refine LS.off ?_; refine LS.off ?_; refine LS.off ?_; refine LS.off ?_; refine LS.off ?_; refine pk (v := .bool _) ?_; refine LS.done ?_
          exact J ⟨boolV (by symm; exact decide_eq_true (by omega)), trivial⟩ (by repeat (first | with_reducible exact Out.refl _ _ _ | exact Out.hv | refine Out.upd ?_ | refine Out.hvIn ?_))
        · simp only [decide_eq_false_iff_not] at g1
          obtain ⟨b', o', e', hc'⟩ := hok k (by omega)
          subst e'
          refine LS.on ?_; refine mvL ?_; refine LS.on ?_; refine mvI ?_; refine LS.on ?_; refine idx (i := k) ?_; refine LS.on ?_; refine ldS hc' ?_; refine LS.on ?_; refine fld ?_; refine LS.on ?_; refine ld1 (v := .slice _ _ _) ?_; refine LS.on ?_; refine mvI ?_; refine LS.on ?_; refine idx (i := i) ?_; refine LS.on ?_; refine fld ?_; refine LS.on ?_; refine ldS hcell ?_; refine LS.on ?_; refine neI ?_; refine pk (v := .bool _) ?_; refine LS.done ?_
          exact J ⟨boolV (by rw [← decide_not]; exact decide_eq_decide.2 (by omega)), trivial⟩ (by repeat (first | with_reducible exact Out.refl _ _ _ | exact Out.hv | refine Out.upd ?_ | refine Out.hvIn ?_))
      have hmem' : ∀ y, y ∈ shardL (g.pods.take (i + 1)) ↔ y ∈ o ∨ y = x := fun y => by
        rw [List.take_add_one, List.getElem?_eq_getElem hlt, shardL, List.map_append, List.mem_append, hmem y]
        simp [shardL, hx]
      (repeat (first | refine RS.seq ?_ | refine RS.region ?_ | refine RS.regionQ ?_ (by kernel_rfl) (by kernel_rfl) | refine RS.skip ?_ | refine RS.inBlock ?_ | refine RS.block ?_ | refine RS.exit ?_))
      refine RS.cond (fun d => ?_) (fun d => ?_)
      · simp only [decide_eq_true_eq] at d
        obtain ⟨o1, ho1⟩ : ∃ o1, o1 = o.take k := ⟨_, rfl⟩
        obtain ⟨o2, ho2⟩ : ∃ o2, o2 = o.drop k := ⟨_, rfl⟩
        have hl1 : o1.length = k := by rw [ho1, List.length_take]; omega
        have hl2 : o2.length = o.length - k := by rw [ho2, List.length_drop]
        have hr1 : RepL (fromN w.heap.size σ) (.slice ao k co) o1 := by rw [ho1]; exact hrep.take k hk
        have hr2 := hrep.drop k hk
        rw [← ho2] at hr2
        (repeat (first | refine RS.seq ?_ | refine RS.region ?_ | refine RS.skip ?_ | refine RS.inBlock ?_ | refine RS.block ?_ | refine RS.exit ?_)); refine RS.drawK [.ex, .free, .free, .free, .eff, .free, .ex, .free, .free, .free, .ex, .ex, .eff, .free, .free, .free, .eff, .eff] ?_ (by kernel_rfl) (by kernel_rfl); refine D.lit0 ?_; refine D.mvL ?_; refine D.mvI ?_; refine D.slcHi k ?_ (hl := by have := hrep.cap; omega); refine D.app0 49 w.heap.size o1 (vy := fun _ => .slice ao k co) ?_ (fun us σ' hle hf => ⟨hf.1, _, hr1, fromN_up hle⟩); refine D.fld ?_; refine D.ld1 (v := .slice _ _ _) ?_; refine D.mvI ?_; refine D.idx (i := i) ?_; refine D.fld ?_; refine D.ldS hcell ?_
        refine D.litT w.heap.size [x] (vs := fun us => [.int .i64 x]) ?_ (fun us σ' hle hf => by exact ⟨⟨rfl, h64⟩, trivial⟩)
        refine D.appU 53 [x] (vy := fun us => us 60) ?_ (fun us σ' hle hf => ⟨_, hf.1, PH.le_refl _⟩)
        refine D.mvL ?_; refine D.mvI ?_; refine D.slcLo k ?_; refine D.appU 61 o2 (vy := fun _ => _) ?_ (fun us σ' hle hf => ⟨_, hr2, fromN_up hle⟩) (hb := by simp; omega) (hm := by simp; omega); refine D.mvD 65 ?_; refine D.done (fun us σ1 hle1 hfs => ?_)
        refine RS.to (K' := [rowD w.heap.size 3 (us 3) (o1 ++ [x] ++ o2), blk b1 (.cells (List.toArray [.int .i64 g.id, .slice (some ⟨b, off, none⟩) g.pods.length cap]) 48 (0, 0))]) ?_ ⟨fun h => h⟩
        refine RS.freezeD (l := o1 ++ [x] ++ o2) (us 3) (fun σ2 hle2 hrep2 => ?_) (hl := by simp; omega)
        rw [ho1, ho2] at hrep2
        (repeat (first | refine RS.seq ?_ | refine RS.region ?_ | refine RS.regionQ ?_ (by kernel_rfl) (by kernel_rfl) | refine RS.skip ?_ | refine RS.inBlock ?_ | refine RS.block ?_ | refine RS.exit ?_)); refine mvI ?_; (first | refine addN ?_ | refine addI ?_); refine asI ?_; refine LS.done ?_; (repeat (first | refine RS.seq ?_ | refine RS.region ?_ | refine RS.regionQ ?_ (by kernel_rfl) (by kernel_rfl) | refine RS.skip ?_ | refine RS.inBlock ?_ | refine RS.block ?_ | refine RS.exit ?_))
        exact ih (i + 1, us 3, o.take k ++ [x] ++ o.drop k, σ2) ⟨by omega, PH.le_trans hle (PH.le_trans hle1 hle2), hrep2, ins_rising hris hk hlts d c, fun y => by rw [ins_mem, hmem'], by simp; omega⟩ (by omega) ⟨rfl, rfl, trivial⟩ (by repeat (first | with_reducible exact Out.refl _ _ _ | exact Out.hv | refine Out.upd ?_ | refine Out.hvIn ?_)) ⟨fun h => h⟩ rfl
      · simp only [decide_eq_false_iff_not, not_or, Classical.not_not] at d
        (repeat (first | refine RS.seq ?_ | refine RS.region ?_ | refine RS.regionQ ?_ (by kernel_rfl) (by kernel_rfl) | refine RS.skip ?_ | refine RS.inBlock ?_ | refine RS.block ?_ | refine RS.exit ?_)); refine mvI ?_; (first | refine addN ?_ | refine addI ?_); refine asI ?_; refine LS.done ?_; (repeat (first | refine RS.seq ?_ | refine RS.region ?_ | refine RS.regionQ ?_ (by kernel_rfl) (by kernel_rfl) | refine RS.skip ?_ | refine RS.inBlock ?_ | refine RS.block ?_ | refine RS.exit ?_))
        refine ih (i + 1, .slice ao o.length co, o, σ) ⟨by omega, hle, hrep, hris, fun y => ?_, Nat.le_succ_of_le hol⟩ (by omega) ⟨rfl, rfl, trivial⟩ (by repeat (first | with_reducible exact Out.refl _ _ _ | exact Out.hv | refine Out.upd ?_ | refine Out.hvIn ?_)) ⟨fun h => h⟩ rfl
        rw [hmem']
        have hxo : x ∈ o := by
          have e : o.getD k 0 = o[k]'(by omega) := by simp [List.getD_eq_getElem?_getD, show k < o.length by omega]
          rw [e] at d; rw [← d.2]; exact List.getElem_mem _
        exact ⟨.inl, fun h => h.elim id fun h => h ▸ hxo⟩
  · refine RS.condF ?_ (h := by simp; omega)
    obtain rfl : i = g.pods.length := by omega
    rw [List.take_length] at hmem
    have eo : o = shardsOf g.pods := hris.ext (shards_rising _) fun y => by rw [hmem, mem_shards]
    (repeat (first | refine RS.seq ?_ | refine RS.region ?_ | refine RS.regionQ ?_ (by kernel_rfl) (by kernel_rfl) | refine RS.skip ?_ | refine RS.inBlock ?_ | refine RS.block ?_ | refine RS.exit ?_)); refine mvL ?_; refine asL ?_; refine LS.done ?_; (repeat (first | refine RS.seq ?_ | refine RS.region ?_ | refine RS.regionQ ?_ (by kernel_rfl) (by kernel_rfl) | refine RS.skip ?_ | refine RS.inBlock ?_ | refine RS.block ?_ | refine RS.exit ?_)); refine RS.ret1 (v := .slice _ _ _) Try.func28 fun w hw => ?_
    refine ⟨_, rfl, hw.below, ?_⟩
    rw [← eo]
    exact hrep.mono hw.since_le
end Go.Proofs.Ytejdccgebljmgaa
