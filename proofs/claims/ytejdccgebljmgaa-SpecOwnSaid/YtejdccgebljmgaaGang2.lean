/- Contracts: spec.Gang. -/
import Derived.Test.YtejdccgebljmgaaSeat
namespace Go.Proofs.Ytejdccgebljmgaa
open Go.JW Go.RowKit

def dupB (ns : List ByteArray) : Nat → Bool
  | 0 => false
  | k + 1 => dupB ns k || hasN (ns.getD k ⟨#[]⟩) (ns.take k)
theorem dupB_iff (l : List PodD) : ∀ k, k ≤ l.length → (dupB (l.map PodD.name) k = true ↔ Dup l k) := by
  intro k
  induction k with
  | zero => intro _; simp [dupB, Dup]
  | succ k ih =>
    intro hk
    rw [dupB, Bool.or_eq_true, ih (by omega), hasN_iff]
    have e : (l.map PodD.name).getD k ⟨#[]⟩ = (l[k]'(by omega)).name := by simp [List.getD, show k < l.length by omega]
    rw [e, ← List.map_take, List.mem_map]
    constructor
    · rintro (⟨i, j, h1, h2, hi, hj, h3⟩ | ⟨p, hp, h⟩)
      · exact ⟨i, j, h1, by omega, hi, hj, h3⟩
      · obtain ⟨j, hj, rfl⟩ := List.mem_iff_getElem.1 hp
        rw [List.length_take] at hj
        rw [List.getElem_take] at h
        exact ⟨k, j, by omega, by omega, by omega, by omega, h.symm⟩
    · rintro ⟨i, j, h1, h2, hi, hj, h3⟩
      by_cases hik : i < k
      · exact .inl ⟨i, j, h1, hik, hi, hj, h3⟩
      · obtain rfl : i = k := by omega
        exact .inr ⟨l[j], List.mem_iff_getElem.2 ⟨j, by rw [List.length_take]; omega, by rw [List.getElem_take]⟩, h3.symm⟩
theorem gang_c (cs : List Value) (g : GangD) (s : Int) (w : World) (hr : Rep.rep (hp w) cs g) : Calls Try.prog 33 #[.agg cs.toArray, .int .i64 s] w fun e w' => e = .returned (.int .i64 (gangErr g s)) ∧ Below w.heap.size w w' := by
  obtain ⟨v, rfl, hid, hl⟩ := hr
  obtain ⟨a, cap, rfl⟩ := hl.form
  have hlen : g.pods.length ≤ 140737488355328 := hl.1
  refine RS.enter Try.func33 Try.ntmps33 rfl rfl ?_
  (repeat (first | refine RS.seq ?_ | refine RS.region ?_ | refine RS.regionQ ?_ (by kernel_rfl) (by kernel_rfl) | refine RS.skip ?_ | refine RS.inBlock ?_ | refine RS.block ?_ | refine RS.exit ?_)); refine box_ (v := .agg _) (cs := [_, _]) (fun b2 => ?_); refine asI ?_; refine LS.done ?_
  (repeat (first | refine RS.seq ?_ | refine RS.region ?_ | refine RS.regionQ ?_ (by kernel_rfl) (by kernel_rfl) | refine RS.skip ?_ | refine RS.inBlock ?_ | refine RS.block ?_ | refine RS.exit ?_))
  refine LS.cut 11 20 [(11, .bool (decide (g.id < 1 ∨ 999999 < g.id)))] (fun gg => ?_) (fun J => ?_)
  rotate_left
  · refine fld ?_; refine ld1 (v := .int _ _) ?_; refine ltI ?_; refine mvB ?_
    refine LS.part 15 (fun g1 => ?_) (fun g1 => ?_)
    · refine LS.off ?_; refine LS.off ?_; refine LS.off ?_; refine pk (v := .bool _) ?_; refine asB ?_; refine LS.done ?_
      simp only [decide_eq_true_eq] at g1
      exact J ⟨boolV (by symm; exact decide_eq_true (by omega)), trivial⟩ (by repeat (first | with_reducible exact Out.refl _ _ _ | exact Out.hv | refine Out.upd ?_ | refine Out.hvIn ?_))
    · refine LS.on ?_; refine fld ?_; refine LS.on ?_; refine ld1 (v := .int _ _) ?_; refine LS.on ?_; refine gtI ?_; refine pk (v := .bool _) ?_; refine asB ?_; refine LS.done ?_
      simp only [decide_eq_false_iff_not] at g1
      exact J ⟨boolV (decide_eq_decide.2 (by omega)), trivial⟩ (by repeat (first | with_reducible exact Out.refl _ _ _ | exact Out.hv | refine Out.upd ?_ | refine Out.hvIn ?_))
  (repeat (first | refine RS.seq ?_ | refine RS.region ?_ | refine RS.regionQ ?_ (by kernel_rfl) (by kernel_rfl) | refine RS.skip ?_ | refine RS.inBlock ?_ | refine RS.block ?_ | refine RS.exit ?_))
  refine RS.cond (fun c0 => ?_) (fun c0 => ?_)
  · simp only [decide_eq_true_eq] at c0
    (repeat (first | refine RS.seq ?_ | refine RS.region ?_ | refine RS.regionQ ?_ (by kernel_rfl) (by kernel_rfl) | refine RS.skip ?_ | refine RS.inBlock ?_ | refine RS.block ?_ | refine RS.exit ?_)); refine asI ?_; refine LS.done ?_; (repeat (first | refine RS.seq ?_ | refine RS.region ?_ | refine RS.regionQ ?_ (by kernel_rfl) (by kernel_rfl) | refine RS.skip ?_ | refine RS.inBlock ?_ | refine RS.block ?_ | refine RS.exit ?_)); refine RS.ret1 (v := .int _ _) Try.func33 fun w hw => ?_
    exact ⟨retI (by rw [gangErr, if_pos c0]), hw.below⟩
  simp only [decide_eq_false_iff_not] at c0
  (repeat (first | refine RS.seq ?_ | refine RS.region ?_ | refine RS.regionQ ?_ (by kernel_rfl) (by kernel_rfl) | refine RS.skip ?_ | refine RS.inBlock ?_ | refine RS.block ?_ | refine RS.exit ?_))
  refine LS.cut 20 31 [(20, .bool (decide (g.pods.length < 1 ∨ 8 < g.pods.length)))] (fun gg2 => ?_) (fun J => ?_)
  rotate_left
  · refine fld ?_; refine ld1 (v := .slice _ _ _) ?_; refine lenL ?_; refine ltI ?_; refine mvB ?_
    refine LS.part 25 (fun g1 => ?_) (fun g1 => ?_)
    · refine LS.off ?_; refine LS.off ?_; refine LS.off ?_; refine LS.off ?_; refine pk (v := .bool _) ?_; refine asB ?_; refine LS.done ?_
      simp only [decide_eq_true_eq] at g1
      exact J ⟨boolV (by symm; exact decide_eq_true (by omega)), trivial⟩ (by repeat (first | with_reducible exact Out.refl _ _ _ | exact Out.hv | refine Out.upd ?_ | refine Out.hvIn ?_))
    · refine LS.on ?_; refine fld ?_; refine LS.on ?_; refine ld1 (v := .slice _ _ _) ?_; refine LS.on ?_; refine lenL ?_; refine LS.on ?_; refine gtI ?_; refine pk (v := .bool _) ?_; refine asB ?_; refine LS.done ?_
      simp only [decide_eq_false_iff_not] at g1
      exact J ⟨boolV (decide_eq_decide.2 (by omega)), trivial⟩ (by repeat (first | with_reducible exact Out.refl _ _ _ | exact Out.hv | refine Out.upd ?_ | refine Out.hvIn ?_))
  (repeat (first | refine RS.seq ?_ | refine RS.region ?_ | refine RS.regionQ ?_ (by kernel_rfl) (by kernel_rfl) | refine RS.skip ?_ | refine RS.inBlock ?_ | refine RS.block ?_ | refine RS.exit ?_))
  refine RS.cond (fun c1 => ?_) (fun c1 => ?_)
  · simp only [decide_eq_true_eq] at c1
    (repeat (first | refine RS.seq ?_ | refine RS.region ?_ | refine RS.regionQ ?_ (by kernel_rfl) (by kernel_rfl) | refine RS.skip ?_ | refine RS.inBlock ?_ | refine RS.block ?_ | refine RS.exit ?_)); refine asI ?_; refine LS.done ?_; (repeat (first | refine RS.seq ?_ | refine RS.region ?_ | refine RS.regionQ ?_ (by kernel_rfl) (by kernel_rfl) | refine RS.skip ?_ | refine RS.inBlock ?_ | refine RS.block ?_ | refine RS.exit ?_)); refine RS.ret1 (v := .int _ _) Try.func33 fun w hw => ?_
    exact ⟨retI (by rw [gangErr, if_neg c0, if_pos c1]), hw.below⟩
  simp only [decide_eq_false_iff_not] at c1
  obtain ⟨b, o, rfl, hrow⟩ := hl.addr (fun h => by simp [h] at c1)
  (repeat (first | refine RS.seq ?_ | refine RS.region ?_ | refine RS.regionQ ?_ (by kernel_rfl) (by kernel_rfl) | refine RS.skip ?_ | refine RS.inBlock ?_ | refine RS.block ?_ | refine RS.exit ?_)); refine asL ?_; refine LS.done ?_
  refine RS.nilRow 79 1 ?_
  (repeat (first | refine RS.seq ?_ | refine RS.region ?_ | refine RS.regionQ ?_ (by kernel_rfl) (by kernel_rfl) | refine RS.skip ?_ | refine RS.inBlock ?_ | refine RS.block ?_ | refine RS.exit ?_)); refine asB ?_; refine LS.done ?_
  (repeat (first | refine RS.seq ?_ | refine RS.region ?_ | refine RS.regionQ ?_ (by kernel_rfl) (by kernel_rfl) | refine RS.skip ?_ | refine RS.inBlock ?_ | refine RS.block ?_ | refine RS.exit ?_)); refine fld ?_; refine ld1 (v := .slice _ _ _) ?_; refine lenL ?_; refine mvI ?_; refine LS.done ?_
  (repeat (first | refine RS.seq ?_ | refine RS.region ?_ | refine RS.regionQ ?_ (by kernel_rfl) (by kernel_rfl) | refine RS.skip ?_ | refine RS.inBlock ?_ | refine RS.block ?_ | refine RS.exit ?_))
  refine RS.loopF (X := Nat × Value) 5 59 (fun x => x.1 ≤ g.pods.length ∧ (∀ i (hi : i < x.1) (hi' : i < g.pods.length), podErr g.pods[i] s = 0)) (fun x => [(5, x.2), (6, .bool (dupB (g.pods.map PodD.name) x.1)), (32, .slice (some ⟨b, o, none⟩) g.pods.length cap), (33, .int .i64 g.pods.length), (34, .int .i64 x.1)]) (fun _ => hp w)
    (fun x => [rowH 79 1 x.2 x.1 (((g.pods.map PodD.name).take x.1).map Value.string)]) (fun x => g.pods.length - x.1) (0, .slice none 0 0) ⟨by simp, fun i hi => by simp at hi⟩ ⟨rfl, rfl, rfl, rfl, rfl, trivial⟩ rfl ⟨fun h => by obtain ⟨F1, h1, h2, h3⟩ := h; exact ⟨F1, h1, h2, trivial⟩⟩ ?_
  rintro ⟨k, v⟩ gg3 ⟨hk, hs⟩ ih
  simp only at hk hs ih ⊢
  (repeat (first | refine RS.seq ?_ | refine RS.region ?_ | refine RS.regionQ ?_ (by kernel_rfl) (by kernel_rfl) | refine RS.skip ?_ | refine RS.inBlock ?_ | refine RS.block ?_ | refine RS.exit ?_)); refine ltI ?_; refine LS.done ?_
  (repeat (first | refine RS.seq ?_ | refine RS.region ?_ | refine RS.regionQ ?_ (by kernel_rfl) (by kernel_rfl) | refine RS.skip ?_ | refine RS.inBlock ?_ | refine RS.block ?_ | refine RS.exit ?_))
  by_cases hlt : k < g.pods.length
  · refine RS.condT ?_ (h := by simp; exact hlt)
    obtain ⟨vs, ⟨vp, vb, rfl, hn1, hs1, hc1, hm1, hp1, hb1⟩, hvl, hvc⟩ := RowAt.pod hrow k hlt
    obtain ⟨ap, cp, rfl⟩ := hp1.form
    obtain ⟨ab, cb, rfl⟩ := hb1.form
    have hpod : Rep.rep (hp w) _ g.pods[k] := ⟨_, _, rfl, hn1, hs1, hc1, hm1, hp1, hb1⟩
    (repeat (first | refine RS.seq ?_ | refine RS.region ?_ | refine RS.regionQ ?_ (by kernel_rfl) (by kernel_rfl) | refine RS.skip ?_ | refine RS.inBlock ?_ | refine RS.block ?_ | refine RS.exit ?_)); refine idx (i := k) ?_; refine ldSA (vs := podC g.pods[k] (.slice ap g.pods[k].picks.length cp) (.slice ab g.pods[k].bears.length cb)) rfl hvc ?_; refine alloc_ (fun b8 => ?_); refine st (.agg _) _ ?_; refine LS.done ?_
    (repeat (first | refine RS.seq ?_ | refine RS.region ?_ | refine RS.regionQ ?_ (by kernel_rfl) (by kernel_rfl) | refine RS.skip ?_ | refine RS.inBlock ?_ | refine RS.block ?_ | refine RS.exit ?_)); refine ldA [_, _, _, _, _, _, _] ?_; refine mvI ?_
    refine callP ?_ (hc := fun w hw => pod_c _ g.pods[k] s w (Rep.mono hpod hw.imm))
    refine asI ?_; refine LS.done ?_
    (repeat (first | refine RS.seq ?_ | refine RS.region ?_ | refine RS.regionQ ?_ (by kernel_rfl) (by kernel_rfl) | refine RS.skip ?_ | refine RS.inBlock ?_ | refine RS.block ?_ | refine RS.exit ?_)); refine mvI ?_; refine neI ?_; refine LS.done ?_; (repeat (first | refine RS.seq ?_ | refine RS.region ?_ | refine RS.regionQ ?_ (by kernel_rfl) (by kernel_rfl) | refine RS.skip ?_ | refine RS.inBlock ?_ | refine RS.block ?_ | refine RS.exit ?_))
    refine RS.cond (fun c => ?_) (fun c => ?_)
    · (repeat (first | refine RS.seq ?_ | refine RS.region ?_ | refine RS.regionQ ?_ (by kernel_rfl) (by kernel_rfl) | refine RS.skip ?_ | refine RS.inBlock ?_ | refine RS.block ?_ | refine RS.exit ?_)); refine mvI ?_; refine asI ?_; refine LS.done ?_; (repeat (first | refine RS.seq ?_ | refine RS.region ?_ | refine RS.regionQ ?_ (by kernel_rfl) (by kernel_rfl) | refine RS.skip ?_ | refine RS.inBlock ?_ | refine RS.block ?_ | refine RS.exit ?_)); refine RS.ret1 (v := .int _ _) Try.func33 fun w hw => ?_
      simp at c
      have hfe : firstErr s g.pods = podErr g.pods[k] s := firstErr_take hlt (firstErr_zero fun i hi => by rw [List.length_take] at hi; rw [List.getElem_take]; exact hs i (by omega) _) (fun i hi => hs i hi (by omega)) c
      exact ⟨retI (by rw [gangErr, if_neg c0, if_neg c1, hfe, if_pos c]), hw.below⟩
    simp at c
    have hs' : ∀ i (hi : i < k + 1) (hi' : i < g.pods.length), podErr g.pods[i] s = 0 := fun i hi hi' => by
      rcases Nat.lt_or_ge i k with h | h
      · exact hs i h hi'
      · obtain rfl : i = k := by omega
        exact c
    have hnm : (g.pods.map PodD.name).getD k ⟨#[]⟩ = g.pods[k].name := by simp [List.getD, hlt]
    have htk : (g.pods.map PodD.name).take (k + 1) = (g.pods.map PodD.name).take k ++ [g.pods[k].name] := by rw [List.take_add_one]; simp [hlt]
    have hall : ∀ x ∈ (g.pods.map PodD.name).take k, x.size ≤ 140737488355328 := fun x hx => by
      have := List.mem_of_mem_take hx
      rw [List.mem_map] at this
      obtain ⟨p, hp', rfl⟩ := this
      obtain ⟨i, hi, rfl⟩ := List.mem_iff_getElem.1 hp'
      obtain ⟨vs, ⟨_, _, _, h, _⟩, _⟩ := RowAt.pod hrow i hi
      exact h
    (repeat (first | refine RS.seq ?_ | refine RS.region ?_ | refine RS.regionQ ?_ (by kernel_rfl) (by kernel_rfl) | refine RS.skip ?_ | refine RS.inBlock ?_ | refine RS.block ?_ | refine RS.exit ?_)); refine fld ?_; refine ld1 (v := .string _) ?_; refine bld (vals := [(0, .string _)]) [_] ?_; refine alloc_ (fun b10 => ?_); refine st (.agg _) _ ?_; refine LS.done ?_
    (repeat (first | refine RS.seq ?_ | refine RS.region ?_ | refine RS.regionQ ?_ (by kernel_rfl) (by kernel_rfl) | refine RS.skip ?_ | refine RS.inBlock ?_ | refine RS.block ?_ | refine RS.exit ?_))
    refine LS.cut 6 53 [(6, .bool (dupB (g.pods.map PodD.name) (k + 1))), (10, .pointer (some ⟨b10, 0, none⟩)), (32, .slice (some ⟨b, o, none⟩) g.pods.length cap), (33, .int .i64 g.pods.length), (34, .int .i64 k)] (fun gg4 => ?_) (fun J => ?_)
    rotate_left
    · refine mvB ?_; refine mvB ?_
      refine LS.part 48 (fun g1 => ?_) (fun g1 => ?_)
      · refine LS.off ?_; refine LS.off ?_; refine LS.off ?_; refine pk (v := .bool _) ?_; refine asB ?_; refine LS.done ?_
        exact J ⟨boolV (by rw [dupB, g1]; rfl), rfl, rfl, rfl, rfl, trivial⟩ (by repeat (first | with_reducible exact Out.refl _ _ _ | exact Out.hv | refine Out.upd ?_ | refine Out.hvIn ?_))
      · refine LS.on ?_; refine mv (v := v) ?_; refine LS.on ?_; refine mkF [.pointer (some ⟨b10, 0, none⟩)] ?_; refine LS.on ?_
        refine callP ?_ (hc := fun w hw => contains_c ((g.pods.map PodD.name).take k) v g.pods[k].name b10 w (hw.rowRep (cellsStr (hp w) hall) (PH.le_refl _) (by rw [List.length_take, List.length_map]; omega) (hm := by rw [List.length_take, List.length_map]; omega)) (hw.get (b := b10)))
        refine pk (v := .bool _) ?_; refine asB ?_; refine LS.done ?_
        exact J ⟨boolV (by rw [dupB, g1, hnm]; rfl), rfl, rfl, rfl, rfl, trivial⟩ (by repeat (first | with_reducible exact Out.refl _ _ _ | exact Out.hv | refine Out.upd ?_ | refine Out.hvIn ?_))
    (repeat (first | refine RS.seq ?_ | refine RS.region ?_ | refine RS.regionQ ?_ (by kernel_rfl) (by kernel_rfl) | refine RS.skip ?_ | refine RS.inBlock ?_ | refine RS.block ?_ | refine RS.exit ?_)); refine mv (v := v) ?_; refine ldA [_] ?_; refine bldS [.agg (List.toArray [.string g.pods[k].name])] [.string g.pods[k].name] (fun b55 => ?_); refine appR (v := v) (kk := 1) (vy := .slice (some ⟨b55, 0, none⟩) 1 1) (news := [.string g.pods[k].name]) (fun w hw => srcB hw TSlice.eq) (fun v56 => ?_); refine as_ (v := v56) ?_; refine LS.done ?_
    (repeat (first | refine RS.seq ?_ | refine RS.region ?_ | refine RS.regionQ ?_ (by kernel_rfl) (by kernel_rfl) | refine RS.skip ?_ | refine RS.inBlock ?_ | refine RS.block ?_ | refine RS.exit ?_)); (first | refine addN ?_ | refine addI ?_); refine mvI ?_; refine LS.done ?_; (repeat (first | refine RS.seq ?_ | refine RS.region ?_ | refine RS.regionQ ?_ (by kernel_rfl) (by kernel_rfl) | refine RS.skip ?_ | refine RS.inBlock ?_ | refine RS.block ?_ | refine RS.exit ?_))
    refine ih (k + 1, v56) ⟨hlt, hs'⟩ (by omega) ⟨rfl, rfl, rfl, rfl, rfl, trivial⟩ (by repeat (first | with_reducible exact Out.refl _ _ _ | exact Out.hv | refine Out.upd ?_ | refine Out.hvIn ?_)) ?_ rfl
    simp only [htk, List.map_append, List.map_cons, List.map_nil]
    infer_instance
  · refine RS.condF ?_ (h := by simp; omega)
    obtain rfl : k = g.pods.length := by omega
    have hfe : firstErr s g.pods = 0 := firstErr_zero fun i hi => hs i hi hi
    have hd := dupB_iff g.pods g.pods.length (by omega)
    (repeat (first | refine RS.seq ?_ | refine RS.region ?_ | refine RS.regionQ ?_ (by kernel_rfl) (by kernel_rfl) | refine RS.skip ?_ | refine RS.inBlock ?_ | refine RS.block ?_ | refine RS.exit ?_)); refine mvB ?_; refine LS.done ?_; (repeat (first | refine RS.seq ?_ | refine RS.region ?_ | refine RS.regionQ ?_ (by kernel_rfl) (by kernel_rfl) | refine RS.skip ?_ | refine RS.inBlock ?_ | refine RS.block ?_ | refine RS.exit ?_))
    refine RS.cond (fun c => ?_) (fun c => ?_)
    · (repeat (first | refine RS.seq ?_ | refine RS.region ?_ | refine RS.regionQ ?_ (by kernel_rfl) (by kernel_rfl) | refine RS.skip ?_ | refine RS.inBlock ?_ | refine RS.block ?_ | refine RS.exit ?_)); refine asI ?_; refine LS.done ?_; (repeat (first | refine RS.seq ?_ | refine RS.region ?_ | refine RS.regionQ ?_ (by kernel_rfl) (by kernel_rfl) | refine RS.skip ?_ | refine RS.inBlock ?_ | refine RS.block ?_ | refine RS.exit ?_)); refine RS.ret1 (v := .int _ _) Try.func33 fun w hw => ?_
      exact ⟨retI (by rw [gangErr, if_neg c0, if_neg c1, hfe, if_neg (by simp), if_pos (hd.1 c)]), hw.below⟩
    · (repeat (first | refine RS.seq ?_ | refine RS.region ?_ | refine RS.regionQ ?_ (by kernel_rfl) (by kernel_rfl) | refine RS.skip ?_ | refine RS.inBlock ?_ | refine RS.block ?_ | refine RS.exit ?_)); refine asI ?_; refine LS.done ?_; (repeat (first | refine RS.seq ?_ | refine RS.region ?_ | refine RS.regionQ ?_ (by kernel_rfl) (by kernel_rfl) | refine RS.skip ?_ | refine RS.inBlock ?_ | refine RS.block ?_ | refine RS.exit ?_)); refine RS.ret1 (v := .int _ _) Try.func33 fun w hw => ?_
      exact ⟨retI (by rw [gangErr, if_neg c0, if_neg c1, hfe, if_neg (by simp), if_neg (fun h => by rw [hd.2 h] at c; cases c)]), hw.below⟩
end Go.Proofs.Ytejdccgebljmgaa
