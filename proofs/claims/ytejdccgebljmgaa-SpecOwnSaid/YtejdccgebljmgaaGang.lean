/- Contracts: gangs. -/
import Derived.Test.YtejdccgebljmgaaRight
namespace Go.Proofs.Ytejdccgebljmgaa
open Go.JW Go.RowKit

def firstErr (s : Int) : List PodD → Int
  | [] => 0
  | p :: l => if podErr p s ≠ 0 then podErr p s else firstErr s l
theorem firstErr_take {s : Int} {l : List PodD} {k : Nat} (hk : k < l.length) (h : firstErr s (l.take k) = 0) (hall : ∀ i (hi : i < k), podErr (l[i]'(by omega)) s = 0) (he : podErr l[k] s ≠ 0) : firstErr s l = podErr l[k] s := by
  induction l generalizing k with
  | nil => simp at hk
  | cons p l ih =>
    cases k with
    | zero => simp only [firstErr, List.getElem_cons_zero] at he ⊢; rw [if_pos he]
    | succ k =>
      have h0 := hall 0 (by omega)
      simp only [List.getElem_cons_zero] at h0
      simp only [firstErr, List.getElem_cons_succ] at he ⊢
      rw [if_neg (by simp [h0])]
      simp only [List.take_succ_cons, firstErr] at h
      rw [if_neg (by simp [h0])] at h
      exact ih (by simpa using hk) h (fun i hi => by have := hall (i + 1) (by omega); simpa using this) he
theorem firstErr_zero {s : Int} {l : List PodD} (hall : ∀ i (hi : i < l.length), podErr l[i] s = 0) : firstErr s l = 0 := by
  induction l with
  | nil => rfl
  | cons p l ih =>
    have h0 := hall 0 (by simp)
    simp only [List.getElem_cons_zero] at h0
    simp only [firstErr]
    rw [if_neg (by simp [h0])]
    exact ih fun i hi => by have := hall (i + 1) (by simp; omega); simpa using this
/-- Some name stands twice among the first k. -/
def Dup (l : List PodD) (k : Nat) : Prop := ∃ i j, j < i ∧ i < k ∧ ∃ (hi : i < l.length) (hj : j < l.length), l[i].name = l[j].name
open Classical in
noncomputable def gangErr (g : GangD) (s : Int) : Int :=
  if g.id < 1 ∨ 999999 < g.id then 2 else if g.pods.length < 1 ∨ 8 < g.pods.length then 3 else if firstErr s g.pods ≠ 0 then firstErr s g.pods else if Dup g.pods g.pods.length then 4 else 0
theorem RowAt.pod {σ : PH} {b o : Nat} {l : List PodD} (h : RowAt σ b o l) (i : Nat) (hi : i < l.length) : ∃ vs, Rep.rep σ vs l[i] ∧ vs.length = 7 ∧ ∀ j, j < 7 → σ.cell b (o + i * 7 + j) = vs[j]? := by
  obtain ⟨vs, h1, h2⟩ := h i hi
  exact ⟨vs, h2, Rep.len h2, h1⟩
theorem RowAt.podName {σ : PH} {b o : Nat} {l : List PodD} (h : RowAt σ b o l) (i : Nat) (hi : i < l.length) : σ.cell b (o + i * 7 + 0) = some (.string l[i].name) := by
  obtain ⟨vs, h1, _, h2⟩ := RowAt.pod h i hi
  obtain ⟨vp, vb, rfl, _⟩ := h1
  exact h2 0 (by omega)
theorem rgang_c (cs : List Value) (g : GangD) (s : Int) (w : World) (hr : Rep.rep (hp w) cs g) : Calls Try.prog 34 #[.agg cs.toArray, .int .i64 s] w fun e w' => e = .returned (.int .i64 (gangErr g s)) ∧ Below w.heap.size w w' := by
  obtain ⟨v, rfl, hid, hl⟩ := hr
  obtain ⟨a, cap, rfl⟩ := hl.form
  have hlen : g.pods.length ≤ 140737488355328 := hl.1
  refine RS.enter Try.func34 Try.ntmps34 rfl rfl ?_
  (repeat (first | refine RS.seq ?_ | refine RS.region ?_ | refine RS.regionQ ?_ (by kernel_rfl) (by kernel_rfl) | refine RS.skip ?_ | refine RS.inBlock ?_ | refine RS.block ?_ | refine RS.exit ?_)); refine box_ (v := .agg _) (cs := [_, _]) (fun b2 => ?_); refine asI ?_; refine LS.done ?_
  (repeat (first | refine RS.seq ?_ | refine RS.region ?_ | refine RS.regionQ ?_ (by kernel_rfl) (by kernel_rfl) | refine RS.skip ?_ | refine RS.inBlock ?_ | refine RS.block ?_ | refine RS.exit ?_))
  refine LS.cut 9 17 [(16, .bool (decide (g.id < 1 ∨ 999999 < g.id)))] (fun gg => ?_) (fun J => ?_)
  rotate_left
  · refine fld ?_; refine ld1 (v := .int _ _) ?_; refine ltI ?_; refine mvB ?_
    refine LS.part 12 (fun g1 => ?_) (fun g1 => ?_)
    · refine LS.off ?_; refine LS.off ?_; refine LS.off ?_; refine pk (v := .bool _) ?_; refine LS.done ?_
      simp only [decide_eq_true_eq] at g1
      exact J ⟨boolV (by symm; exact decide_eq_true (by omega)), trivial⟩ (by repeat (first | with_reducible exact Out.refl _ _ _ | exact Out.hv | refine Out.upd ?_ | refine Out.hvIn ?_))
    · refine LS.on ?_; refine fld ?_; refine LS.on ?_; refine ld1 (v := .int _ _) ?_; refine LS.on ?_; refine gtI ?_; refine pk (v := .bool _) ?_; refine LS.done ?_
      simp only [decide_eq_false_iff_not] at g1
      exact J ⟨boolV (decide_eq_decide.2 (by omega)), trivial⟩ (by repeat (first | with_reducible exact Out.refl _ _ _ | exact Out.hv | refine Out.upd ?_ | refine Out.hvIn ?_))
  (repeat (first | refine RS.seq ?_ | refine RS.region ?_ | refine RS.regionQ ?_ (by kernel_rfl) (by kernel_rfl) | refine RS.skip ?_ | refine RS.inBlock ?_ | refine RS.block ?_ | refine RS.exit ?_))
  refine RS.cond (fun c0 => ?_) (fun c0 => ?_)
  · simp only [decide_eq_true_eq] at c0
    (repeat (first | refine RS.seq ?_ | refine RS.region ?_ | refine RS.regionQ ?_ (by kernel_rfl) (by kernel_rfl) | refine RS.skip ?_ | refine RS.inBlock ?_ | refine RS.block ?_ | refine RS.exit ?_)); refine asI ?_; refine LS.done ?_; (repeat (first | refine RS.seq ?_ | refine RS.region ?_ | refine RS.regionQ ?_ (by kernel_rfl) (by kernel_rfl) | refine RS.skip ?_ | refine RS.inBlock ?_ | refine RS.block ?_ | refine RS.exit ?_)); refine RS.ret1 (v := .int _ _) Try.func34 fun w hw => ?_
    exact ⟨retI (by rw [gangErr, if_pos c0]), hw.below⟩
  simp only [decide_eq_false_iff_not] at c0
  (repeat (first | refine RS.seq ?_ | refine RS.region ?_ | refine RS.regionQ ?_ (by kernel_rfl) (by kernel_rfl) | refine RS.skip ?_ | refine RS.inBlock ?_ | refine RS.block ?_ | refine RS.exit ?_))
  refine LS.cut 17 27 [(26, .bool (decide (g.pods.length < 1 ∨ 8 < g.pods.length)))] (fun gg2 => ?_) (fun J => ?_)
  rotate_left
  · refine fld ?_; refine ld1 (v := .slice _ _ _) ?_; refine lenL ?_; refine ltI ?_; refine mvB ?_
    refine LS.part 21 (fun g1 => ?_) (fun g1 => ?_)
    · refine LS.off ?_; refine LS.off ?_; refine LS.off ?_; refine LS.off ?_; refine pk (v := .bool _) ?_; refine LS.done ?_
      simp only [decide_eq_true_eq] at g1
      exact J ⟨boolV (by symm; exact decide_eq_true (by omega)), trivial⟩ (by repeat (first | with_reducible exact Out.refl _ _ _ | exact Out.hv | refine Out.upd ?_ | refine Out.hvIn ?_))
    · refine LS.on ?_; refine fld ?_; refine LS.on ?_; refine ld1 (v := .slice _ _ _) ?_; refine LS.on ?_; refine lenL ?_; refine LS.on ?_; refine gtI ?_; refine pk (v := .bool _) ?_; refine LS.done ?_
      simp only [decide_eq_false_iff_not] at g1
      exact J ⟨boolV (decide_eq_decide.2 (by omega)), trivial⟩ (by repeat (first | with_reducible exact Out.refl _ _ _ | exact Out.hv | refine Out.upd ?_ | refine Out.hvIn ?_))
  (repeat (first | refine RS.seq ?_ | refine RS.region ?_ | refine RS.regionQ ?_ (by kernel_rfl) (by kernel_rfl) | refine RS.skip ?_ | refine RS.inBlock ?_ | refine RS.block ?_ | refine RS.exit ?_))
  refine RS.cond (fun c1 => ?_) (fun c1 => ?_)
  · simp only [decide_eq_true_eq] at c1
    (repeat (first | refine RS.seq ?_ | refine RS.region ?_ | refine RS.regionQ ?_ (by kernel_rfl) (by kernel_rfl) | refine RS.skip ?_ | refine RS.inBlock ?_ | refine RS.block ?_ | refine RS.exit ?_)); refine asI ?_; refine LS.done ?_; (repeat (first | refine RS.seq ?_ | refine RS.region ?_ | refine RS.regionQ ?_ (by kernel_rfl) (by kernel_rfl) | refine RS.skip ?_ | refine RS.inBlock ?_ | refine RS.block ?_ | refine RS.exit ?_)); refine RS.ret1 (v := .int _ _) Try.func34 fun w hw => ?_
    exact ⟨retI (by rw [gangErr, if_neg c0, if_pos c1]), hw.below⟩
  simp only [decide_eq_false_iff_not] at c1
  obtain ⟨b, o, rfl, hrow⟩ := hl.addr (fun h => by simp [h] at c1)
  (repeat (first | refine RS.seq ?_ | refine RS.region ?_ | refine RS.regionQ ?_ (by kernel_rfl) (by kernel_rfl) | refine RS.skip ?_ | refine RS.inBlock ?_ | refine RS.block ?_ | refine RS.exit ?_)); refine asI ?_; refine LS.done ?_
  (repeat (first | refine RS.seq ?_ | refine RS.region ?_ | refine RS.regionQ ?_ (by kernel_rfl) (by kernel_rfl) | refine RS.skip ?_ | refine RS.inBlock ?_ | refine RS.block ?_ | refine RS.exit ?_))
  refine RS.loopF (X := Nat) 5 44 (fun k => k ≤ g.pods.length ∧ (∀ i (hi : i < k) (hi' : i < g.pods.length), podErr g.pods[i] s = 0)) (fun k => [(5, .int .i64 k)]) (fun _ => hp w) (fun _ => [blk b2 (.cells (List.toArray [.int .i64 g.id, .slice (some ⟨b, o, none⟩) g.pods.length cap]) 48 (0, 0))]) (fun k => g.pods.length - k) 0 ⟨by omega, fun i hi => by omega⟩ ⟨rfl, trivial⟩ rfl ⟨fun h => h⟩ ?_
  rintro k gg3 ⟨hk, hs⟩ ih
  (repeat (first | refine RS.seq ?_ | refine RS.region ?_ | refine RS.regionQ ?_ (by kernel_rfl) (by kernel_rfl) | refine RS.skip ?_ | refine RS.inBlock ?_ | refine RS.block ?_ | refine RS.exit ?_)); refine mvI ?_; refine fld ?_; refine ld1 (v := .slice _ _ _) ?_; refine lenL ?_; refine ltI ?_; refine LS.done ?_
  (repeat (first | refine RS.seq ?_ | refine RS.region ?_ | refine RS.regionQ ?_ (by kernel_rfl) (by kernel_rfl) | refine RS.skip ?_ | refine RS.inBlock ?_ | refine RS.block ?_ | refine RS.exit ?_))
  by_cases hlt : k < g.pods.length
  · refine RS.condT ?_ (h := by simp; exact hlt)
    obtain ⟨vs, hvr, hvl, hvc⟩ := RowAt.pod hrow k hlt
    (repeat (first | refine RS.seq ?_ | refine RS.region ?_ | refine RS.regionQ ?_ (by kernel_rfl) (by kernel_rfl) | refine RS.skip ?_ | refine RS.inBlock ?_ | refine RS.block ?_ | refine RS.exit ?_)); refine fld ?_; refine ld1 (v := .slice _ _ _) ?_; refine mvI ?_; refine idx (i := k) ?_; refine ldSA (vs := vs) hvl hvc ?_; refine mvI ?_
    refine callP ?_ (hc := fun w hw => rpod_c _ g.pods[k] s w (Rep.mono hvr hw.imm))
    refine asI ?_; refine LS.done ?_
    (repeat (first | refine RS.seq ?_ | refine RS.region ?_ | refine RS.regionQ ?_ (by kernel_rfl) (by kernel_rfl) | refine RS.skip ?_ | refine RS.inBlock ?_ | refine RS.block ?_ | refine RS.exit ?_)); refine mvI ?_; refine neI ?_; refine LS.done ?_; (repeat (first | refine RS.seq ?_ | refine RS.region ?_ | refine RS.regionQ ?_ (by kernel_rfl) (by kernel_rfl) | refine RS.skip ?_ | refine RS.inBlock ?_ | refine RS.block ?_ | refine RS.exit ?_))
    refine RS.cond (fun c => ?_) (fun c => ?_)
    · (repeat (first | refine RS.seq ?_ | refine RS.region ?_ | refine RS.regionQ ?_ (by kernel_rfl) (by kernel_rfl) | refine RS.skip ?_ | refine RS.inBlock ?_ | refine RS.block ?_ | refine RS.exit ?_)); refine mvI ?_; refine asI ?_; refine LS.done ?_; (repeat (first | refine RS.seq ?_ | refine RS.region ?_ | refine RS.regionQ ?_ (by kernel_rfl) (by kernel_rfl) | refine RS.skip ?_ | refine RS.inBlock ?_ | refine RS.block ?_ | refine RS.exit ?_)); refine RS.ret1 (v := .int _ _) Try.func34 fun w hw => ?_
      simp at c
      have hfe : firstErr s g.pods = podErr g.pods[k] s := firstErr_take hlt (firstErr_zero fun i hi => by rw [List.length_take] at hi; rw [List.getElem_take]; exact hs i (by omega) _) (fun i hi => hs i hi (by omega)) c
      exact ⟨retI (by rw [gangErr, if_neg c0, if_neg c1, hfe, if_pos c]), hw.below⟩
    · (repeat (first | refine RS.seq ?_ | refine RS.region ?_ | refine RS.regionQ ?_ (by kernel_rfl) (by kernel_rfl) | refine RS.skip ?_ | refine RS.inBlock ?_ | refine RS.block ?_ | refine RS.exit ?_)); refine mvI ?_; (first | refine addN ?_ | refine addI ?_); refine asI ?_; refine LS.done ?_; (repeat (first | refine RS.seq ?_ | refine RS.region ?_ | refine RS.regionQ ?_ (by kernel_rfl) (by kernel_rfl) | refine RS.skip ?_ | refine RS.inBlock ?_ | refine RS.block ?_ | refine RS.exit ?_))
      simp at c
      refine ih (k + 1) ⟨hlt, fun i hi hi' => ?_⟩ (by omega) ⟨rfl, trivial⟩ (by repeat (first | with_reducible exact Out.refl _ _ _ | exact Out.hv | refine Out.upd ?_ | refine Out.hvIn ?_)) ⟨fun h => h⟩ rfl
      rcases Nat.lt_or_ge i k with h | h
      · exact hs i h hi'
      · obtain rfl : i = k := by omega
        exact c
  refine RS.condF ?_ (h := by simp; omega)
  obtain rfl : k = g.pods.length := by omega
  have hfe : firstErr s g.pods = 0 := firstErr_zero fun i hi => hs i hi hi
  clear ih hs
  (repeat (first | refine RS.seq ?_ | refine RS.region ?_ | refine RS.regionQ ?_ (by kernel_rfl) (by kernel_rfl) | refine RS.skip ?_ | refine RS.inBlock ?_ | refine RS.block ?_ | refine RS.exit ?_)); refine asI ?_; refine LS.done ?_
  (repeat (first | refine RS.seq ?_ | refine RS.region ?_ | refine RS.regionQ ?_ (by kernel_rfl) (by kernel_rfl) | refine RS.skip ?_ | refine RS.inBlock ?_ | refine RS.block ?_ | refine RS.exit ?_))
  refine RS.loopF (X := Nat) 7 69 (fun k => k ≤ g.pods.length ∧ ¬ Dup g.pods k) (fun k => [(7, .int .i64 k)]) (fun _ => hp w) (fun _ => [blk b2 (.cells (List.toArray [.int .i64 g.id, .slice (some ⟨b, o, none⟩) g.pods.length cap]) 48 (0, 0))]) (fun k => g.pods.length - k) 0 ⟨by omega, fun ⟨i, j, h1, h2, _⟩ => by omega⟩ ⟨rfl, trivial⟩ rfl ⟨fun h => h⟩ ?_
  rintro k gg4 ⟨hk, hs⟩ ih
  (repeat (first | refine RS.seq ?_ | refine RS.region ?_ | refine RS.regionQ ?_ (by kernel_rfl) (by kernel_rfl) | refine RS.skip ?_ | refine RS.inBlock ?_ | refine RS.block ?_ | refine RS.exit ?_)); refine mvI ?_; refine fld ?_; refine ld1 (v := .slice _ _ _) ?_; refine lenL ?_; refine ltI ?_; refine LS.done ?_
  (repeat (first | refine RS.seq ?_ | refine RS.region ?_ | refine RS.regionQ ?_ (by kernel_rfl) (by kernel_rfl) | refine RS.skip ?_ | refine RS.inBlock ?_ | refine RS.block ?_ | refine RS.exit ?_))
  by_cases hlt : k < g.pods.length
  · refine RS.condT ?_ (h := by simp; exact hlt)
    (repeat (first | refine RS.seq ?_ | refine RS.region ?_ | refine RS.regionQ ?_ (by kernel_rfl) (by kernel_rfl) | refine RS.skip ?_ | refine RS.inBlock ?_ | refine RS.block ?_ | refine RS.exit ?_)); refine asI ?_; refine LS.done ?_
    (repeat (first | refine RS.seq ?_ | refine RS.region ?_ | refine RS.regionQ ?_ (by kernel_rfl) (by kernel_rfl) | refine RS.skip ?_ | refine RS.inBlock ?_ | refine RS.block ?_ | refine RS.exit ?_))
    refine RS.loopF (X := Nat) 8 69 (fun m => m ≤ k ∧ ∀ j (hj : j < m) (hj' : j < g.pods.length), g.pods[k].name ≠ g.pods[j].name) (fun m => [(8, .int .i64 m)]) (fun _ => hp w) (fun _ => [blk b2 (.cells (List.toArray [.int .i64 g.id, .slice (some ⟨b, o, none⟩) g.pods.length cap]) 48 (0, 0))]) (fun m => k - m) 0 ⟨by omega, fun i hi => by omega⟩ ⟨rfl, trivial⟩ rfl ⟨fun h => h⟩ ?_
    rintro m gg5 ⟨hm, hm2⟩ ih2
    (repeat (first | refine RS.seq ?_ | refine RS.region ?_ | refine RS.regionQ ?_ (by kernel_rfl) (by kernel_rfl) | refine RS.skip ?_ | refine RS.inBlock ?_ | refine RS.block ?_ | refine RS.exit ?_)); refine mvI ?_; refine mvI ?_; refine ltI ?_; refine LS.done ?_
    (repeat (first | refine RS.seq ?_ | refine RS.region ?_ | refine RS.regionQ ?_ (by kernel_rfl) (by kernel_rfl) | refine RS.skip ?_ | refine RS.inBlock ?_ | refine RS.block ?_ | refine RS.exit ?_))
    by_cases hlt2 : m < k
    · refine RS.condT ?_ (h := by simp; exact hlt2)
      have e1 := RowAt.podName hrow k hlt
      have e2 := RowAt.podName hrow m (by omega)
      (repeat (first | refine RS.seq ?_ | refine RS.region ?_ | refine RS.regionQ ?_ (by kernel_rfl) (by kernel_rfl) | refine RS.skip ?_ | refine RS.inBlock ?_ | refine RS.block ?_ | refine RS.exit ?_)); refine fld ?_; refine ld1 (v := .slice _ _ _) ?_; refine mvI ?_; refine idx (i := k) ?_; refine fld ?_; refine ldS e1 ?_; refine fld ?_; refine ld1 (v := .slice _ _ _) ?_; refine mvI ?_; refine idx (i := m) ?_; refine fld ?_; refine ldS e2 ?_; refine eqS ?_; refine LS.done ?_
      (repeat (first | refine RS.seq ?_ | refine RS.region ?_ | refine RS.regionQ ?_ (by kernel_rfl) (by kernel_rfl) | refine RS.skip ?_ | refine RS.inBlock ?_ | refine RS.block ?_ | refine RS.exit ?_))
      refine RS.cond (fun c => ?_) (fun c => ?_)
      · (repeat (first | refine RS.seq ?_ | refine RS.region ?_ | refine RS.regionQ ?_ (by kernel_rfl) (by kernel_rfl) | refine RS.skip ?_ | refine RS.inBlock ?_ | refine RS.block ?_ | refine RS.exit ?_)); refine asI ?_; refine LS.done ?_; (repeat (first | refine RS.seq ?_ | refine RS.region ?_ | refine RS.regionQ ?_ (by kernel_rfl) (by kernel_rfl) | refine RS.skip ?_ | refine RS.inBlock ?_ | refine RS.block ?_ | refine RS.exit ?_)); refine RS.ret1 (v := .int _ _) Try.func34 fun w hw => ?_
        simp at c
        have hd : Dup g.pods g.pods.length := ⟨k, m, hlt2, hlt, hlt, by omega, c⟩
        exact ⟨retI (by rw [gangErr, if_neg c0, if_neg c1, hfe, if_neg (by simp), if_pos hd]), hw.below⟩
      · (repeat (first | refine RS.seq ?_ | refine RS.region ?_ | refine RS.regionQ ?_ (by kernel_rfl) (by kernel_rfl) | refine RS.skip ?_ | refine RS.inBlock ?_ | refine RS.block ?_ | refine RS.exit ?_)); refine mvI ?_; (first | refine addN ?_ | refine addI ?_); refine asI ?_; refine LS.done ?_; (repeat (first | refine RS.seq ?_ | refine RS.region ?_ | refine RS.regionQ ?_ (by kernel_rfl) (by kernel_rfl) | refine RS.skip ?_ | refine RS.inBlock ?_ | refine RS.block ?_ | refine RS.exit ?_))
        simp at c
        refine ih2 (m + 1) ⟨hlt2, fun j hj hj' => ?_⟩ (by omega) ⟨rfl, trivial⟩ (by repeat (first | with_reducible exact Out.refl _ _ _ | exact Out.hv | refine Out.upd ?_ | refine Out.hvIn ?_)) ⟨fun h => h⟩ rfl
        rcases Nat.lt_or_ge j m with h | h
        · exact hm2 j h hj'
        · obtain rfl : j = m := by omega
          exact c
    refine RS.condF ?_ (h := by simp; omega)
    obtain rfl : m = k := by omega
    (repeat (first | refine RS.seq ?_ | refine RS.region ?_ | refine RS.regionQ ?_ (by kernel_rfl) (by kernel_rfl) | refine RS.skip ?_ | refine RS.inBlock ?_ | refine RS.block ?_ | refine RS.exit ?_)); refine mvI ?_; (first | refine addN ?_ | refine addI ?_); refine asI ?_; refine LS.done ?_; (repeat (first | refine RS.seq ?_ | refine RS.region ?_ | refine RS.regionQ ?_ (by kernel_rfl) (by kernel_rfl) | refine RS.skip ?_ | refine RS.inBlock ?_ | refine RS.block ?_ | refine RS.exit ?_))
    refine ih (m + 1) ⟨hlt, fun ⟨i, j, h1, h2, hi, hj, h3⟩ => ?_⟩ (by omega) ⟨rfl, trivial⟩ (by repeat (first | with_reducible exact Out.refl _ _ _ | exact Out.hv | refine Out.upd ?_ | refine Out.hvIn ?_)) ⟨fun h => h⟩ rfl
    rcases Nat.lt_or_ge i m with h | h
    · exact hs ⟨i, j, h1, h, hi, hj, h3⟩
    · obtain rfl : i = m := by omega
      exact hm2 j h1 hj h3
  refine RS.condF ?_ (h := by simp; omega)
  obtain rfl : k = g.pods.length := by omega
  (repeat (first | refine RS.seq ?_ | refine RS.region ?_ | refine RS.regionQ ?_ (by kernel_rfl) (by kernel_rfl) | refine RS.skip ?_ | refine RS.inBlock ?_ | refine RS.block ?_ | refine RS.exit ?_)); refine asI ?_; refine LS.done ?_; (repeat (first | refine RS.seq ?_ | refine RS.region ?_ | refine RS.regionQ ?_ (by kernel_rfl) (by kernel_rfl) | refine RS.skip ?_ | refine RS.inBlock ?_ | refine RS.block ?_ | refine RS.exit ?_)); refine RS.ret1 (v := .int _ _) Try.func34 fun w hw => ?_
  exact ⟨retI (by rw [gangErr, if_neg c0, if_neg c1, hfe, if_neg (by simp), if_neg hs]), hw.below⟩
end Go.Proofs.Ytejdccgebljmgaa
