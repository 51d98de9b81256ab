/- The walk of LineChecks. -/
import Derived.Test.YtaiofgmhlfccgaaGreatDoorQ5
namespace Go.Proofs.YtaiofgmhlfccgaaGreatDoor
open Go.JW Go.RowKit
def fewPl (p : PlaceD) : Bool := decide (p.pod.size ≤ 60) && decide (p.node.size ≤ 60)
def few4 (r : RecD) : Bool := r.places.all fewPl && (decide (r.places.length ≤ 12) && decide (r.peers.length ≤ 12) && fewNode r.node)
theorem few4_small {r : RecD} (h : few4 r = true) : SmallR r := by
  simp only [few4, fewNode, few, Bool.and_eq_true, decide_eq_true_eq] at h
  exact ⟨by omega, by omega, by omega, by omega⟩
theorem few4_c (cs : List Value) (r : RecD) (w : World) (h : Rep.rep (hp w) cs r) : Calls Tryz.prog 14 #[.agg (List.toArray cs)] w fun e w' => e = .returned (.bool (few4 r)) ∧ Below w.heap.size w w' := by
  obtain ⟨vp, vq, vm, vt, rfl, h1, h2, hp_, hq, h3, h4, h5, hm, ht⟩ := h
  obtain ⟨a1, c1, rfl⟩ := hp_.form
  obtain ⟨a2, c2, rfl⟩ := hq.form
  obtain ⟨a3, c3, rfl⟩ := hm.form
  obtain ⟨a4, c4, rfl⟩ := ht.form
  have hnode : Rep.rep (hp w) (nodeC r.node (.slice a3 r.node.marks.length c3) (.slice a4 r.node.taints.length c4)) r.node := ⟨_, _, rfl, h3, h4, h5, hm, ht⟩
  have hlen : r.places.length ≤ 140737488355328 := hq.1
  refine RS.enter Tryz.func14 Tryz.ntmps14 rfl rfl ?_
  (repeat (first | refine zS ?_ | refine zR ?_ | refine zQ ?_ | refine zK ?_ | refine zI ?_ | refine zB ?_ | refine zE ?_)); refine box_ (v := .agg _) (cs := [_, _, _, _, _, _, _, _, _, _]) (fun b1 => ?_); refine asB ?_; refine LS.done ?_
  (repeat (first | refine zS ?_ | refine zR ?_ | refine zQ ?_ | refine zK ?_ | refine zI ?_ | refine zB ?_ | refine zE ?_)); refine asI ?_; refine LS.done ?_
  (repeat (first | refine zS ?_ | refine zR ?_ | refine zQ ?_ | refine zK ?_ | refine zI ?_ | refine zB ?_ | refine zE ?_))
  refine RS.loopF (X := Nat) 3 29 (fun k => k ≤ r.places.length ∧ (r.places.take k).all fewPl = true) (fun k => [(3, .int .i64 k)]) (fun _ => hp w) (fun _ => [rcB b1 r.kind r.gang (.slice a1 r.peers.length c1) (.slice a2 r.places.length c2) r.node.name r.node.cpu r.node.mem (.slice a3 r.node.marks.length c3) (.slice a4 r.node.taints.length c4) r.node.closed]) (fun k => r.places.length - k) 0 ⟨Nat.zero_le _, rfl⟩ ⟨rfl, trivial⟩ rfl ⟨fun h => h⟩ ?_
  rintro k g ⟨hk, hs⟩ ih
  (repeat (first | refine zS ?_ | refine zR ?_ | refine zQ ?_ | refine zK ?_ | refine zI ?_ | refine zB ?_ | refine zE ?_)); refine mvI ?_; refine fld ?_; refine ld1 (v := .slice _ _ _) ?_; refine lenL ?_; refine ltI ?_; refine LS.done ?_
  (repeat (first | refine zS ?_ | refine zR ?_ | refine zQ ?_ | refine zK ?_ | refine zI ?_ | refine zB ?_ | refine zE ?_))
  by_cases hlt : k < r.places.length
  · refine RS.condT ?_ (h := by simp; omega)
    obtain ⟨b, o, rfl, hr⟩ := hq.addr (List.ne_nil_of_length_pos (by omega))
    obtain ⟨p, hp⟩ : ∃ p, p = r.places[k] := ⟨_, rfl⟩
    have hc := (rowPlace hr k hlt).1
    have q0 : (Go.JW.hp w).cell b (o + k * 5 + 0) = some (.string p.pod) := by rw [hp]; exact hc 0 (by decide)
    have q1 : (Go.JW.hp w).cell b (o + k * 5 + 1) = some (.string p.node) := by rw [hp]; exact hc 1 (by decide)
    have no : fewPl p = false → few4 r = false := fun e => by
      unfold few4
      rw [Bool.and_eq_false_iff]
      exact .inl (List.all_eq_false.2 ⟨p, by rw [hp]; exact List.getElem_mem _, by rw [e]; simp⟩)
    (repeat (first | refine zS ?_ | refine zR ?_ | refine zQ ?_ | refine zK ?_ | refine zI ?_ | refine zB ?_ | refine zE ?_)); refine fld ?_; refine ld1 (v := .slice _ _ _) ?_; refine mvI ?_; refine idx (i := k) ?_; refine fld ?_; refine ldS q0 ?_; refine lenS ?_; refine gtI ?_; refine mvB ?_
    refine LS.part 19 (fun z => ?_) (fun z => ?_)
    · have z := of_decide_eq_true z
      refine LS.off ?_; refine LS.off ?_; refine LS.off ?_; refine LS.off ?_; refine LS.off ?_; refine LS.off ?_; refine LS.off ?_; refine LS.off ?_; refine pk (v := .bool _) ?_; refine LS.done ?_
      (repeat (first | refine zS ?_ | refine zR ?_ | refine zQ ?_ | refine zK ?_ | refine zI ?_ | refine zB ?_ | refine zE ?_))
      refine RS.condT ?_
      (repeat (first | refine zS ?_ | refine zR ?_ | refine zQ ?_ | refine zK ?_ | refine zI ?_ | refine zB ?_ | refine zE ?_)); refine asB ?_; refine LS.done ?_; (repeat (first | refine zS ?_ | refine zR ?_ | refine zQ ?_ | refine zK ?_ | refine zI ?_ | refine zB ?_ | refine zE ?_)); refine RS.ret1 (v := .bool _) Tryz.func14 fun w hw => ?_
      exact ⟨retB (no (by unfold fewPl; rw [decide_eq_false (by omega)]; rfl)).symm, hw.below⟩
    have z := of_decide_eq_false z
    refine LS.on ?_; refine fld ?_; refine LS.on ?_; refine ld1 (v := .slice _ _ _) ?_; refine LS.on ?_; refine mvI ?_; refine LS.on ?_; refine idx (i := k) ?_; refine LS.on ?_; refine fld ?_; refine LS.on ?_; refine ldS q1 ?_; refine LS.on ?_; refine lenS ?_; refine LS.on ?_; refine gtI ?_; refine pk (v := .bool _) ?_; refine LS.done ?_
    (repeat (first | refine zS ?_ | refine zR ?_ | refine zQ ?_ | refine zK ?_ | refine zI ?_ | refine zB ?_ | refine zE ?_))
    refine RS.cond (fun z2 => ?_) (fun z2 => ?_)
    · have z2 := of_decide_eq_true z2
      (repeat (first | refine zS ?_ | refine zR ?_ | refine zQ ?_ | refine zK ?_ | refine zI ?_ | refine zB ?_ | refine zE ?_)); refine asB ?_; refine LS.done ?_; (repeat (first | refine zS ?_ | refine zR ?_ | refine zQ ?_ | refine zK ?_ | refine zI ?_ | refine zB ?_ | refine zE ?_)); refine RS.ret1 (v := .bool _) Tryz.func14 fun w hw => ?_
      exact ⟨retB (no (by unfold fewPl; rw [decide_eq_false (p := p.node.size ≤ 60) (by omega)]; simp)).symm, hw.below⟩
    · have z2 := of_decide_eq_false z2
      have e : fewPl p = true := by unfold fewPl; rw [decide_eq_true (by omega), decide_eq_true (by omega)]; rfl
      (repeat (first | refine zS ?_ | refine zR ?_ | refine zQ ?_ | refine zK ?_ | refine zI ?_ | refine zB ?_ | refine zE ?_)); refine mvI ?_; (first | refine addN ?_ | refine addI ?_); refine asI ?_; refine LS.done ?_; (repeat (first | refine zS ?_ | refine zR ?_ | refine zQ ?_ | refine zK ?_ | refine zI ?_ | refine zB ?_ | refine zE ?_))
      exact ih (k + 1) ⟨hlt, by rw [List.take_add_one, List.all_append, hs, List.getElem?_eq_getElem hlt, ← hp]; simp [e]⟩ (by omega) ⟨rfl, trivial⟩ (by repeat (first | with_reducible exact Out.refl _ _ _ | exact Out.hv | refine Out.upd ?_ | refine Out.hvIn ?_)) ⟨fun h => h⟩ rfl
  refine RS.condF ?_ (h := by simp; omega)
  obtain rfl : k = r.places.length := by omega
  rw [List.take_length] at hs
  have e0 : few4 r = (decide (r.places.length ≤ 12) && decide (r.peers.length ≤ 12) && fewNode r.node) := by unfold few4; rw [hs]; rfl
  (repeat (first | refine zS ?_ | refine zR ?_ | refine zQ ?_ | refine zK ?_ | refine zI ?_ | refine zB ?_ | refine zE ?_)); refine fld ?_; refine ld1 (v := .slice _ _ _) ?_; refine lenL ?_; refine leI ?_; refine mvB ?_
  refine LS.part 33 (fun z => ?_) (fun z => ?_)
  · have z := of_decide_eq_true z
    refine LS.on ?_; refine fld ?_; refine LS.on ?_; refine ld1 (v := .slice _ _ _) ?_; refine LS.on ?_; refine lenL ?_; refine LS.on ?_; refine leI ?_; refine pk (v := .bool _) ?_; refine mvB ?_
    refine LS.part 39 (fun z2 => ?_) (fun z2 => ?_)
    · have z2 := of_decide_eq_true z2
      refine LS.on ?_; refine fld ?_; refine LS.on ?_; refine ldA (nodeC r.node (.slice a3 r.node.marks.length c3) (.slice a4 r.node.taints.length c4)) ?_; refine LS.on ?_
      refine callP ?_ (hc := fun w' hw => fewNode_c _ r.node w' (Rep.mono hnode hw.imm))
      refine pk (v := .bool _) ?_; refine asB ?_; refine LS.done ?_
      (repeat (first | refine zS ?_ | refine zR ?_ | refine zQ ?_ | refine zK ?_ | refine zI ?_ | refine zB ?_ | refine zE ?_)); refine RS.ret1 (v := .bool _) Tryz.func14 fun w hw => ?_
      exact ⟨retB (by rw [e0, decide_eq_true (by omega), decide_eq_true (by omega)]; rfl), hw.below⟩
    · have z2 := of_decide_eq_false z2
      refine LS.off ?_; refine LS.off ?_; refine LS.off ?_; refine pk (v := .bool _) ?_; refine asB ?_; refine LS.done ?_
      (repeat (first | refine zS ?_ | refine zR ?_ | refine zQ ?_ | refine zK ?_ | refine zI ?_ | refine zB ?_ | refine zE ?_)); refine RS.ret1 (v := .bool _) Tryz.func14 fun w hw => ?_
      exact ⟨retB (by rw [e0, decide_eq_false (p := r.peers.length ≤ 12) (by omega)]; simp), hw.below⟩
  · have z := of_decide_eq_false z
    refine LS.off ?_; refine LS.off ?_; refine LS.off ?_; refine LS.off ?_; refine pk (v := .bool _) ?_; refine mvB ?_; refine LS.off ?_; refine LS.off ?_; refine LS.off ?_; refine pk (v := .bool _) ?_; refine asB ?_; refine LS.done ?_
    (repeat (first | refine zS ?_ | refine zR ?_ | refine zQ ?_ | refine zK ?_ | refine zI ?_ | refine zB ?_ | refine zE ?_)); refine RS.ret1 (v := .bool _) Tryz.func14 fun w hw => ?_
    exact ⟨retB (by rw [e0, decide_eq_false (p := r.places.length ≤ 12) (by omega)]; simp), hw.below⟩
theorem small_okC {r : RecD} (h : checkP r = 0) : SmallR r := by
  have h1 := read_text (okr_of h)
  have h2 := textW_size h
  exact read_small h1.1 (fun x hx => by have := h2.1 x hx; omega) (by omega)
theorem small_peers {r : RecD} (h : checkP r = 0) : r.peers.length ≤ 4 := by
  cases okr_of h with
  | prep g p l _ hp _ => exact (rising_len hp).1
  | gang g p _ hp => exact (rising_len hp).1
  | _ => exact Nat.zero_le _
theorem small_places {r : RecD} (h : checkP r = 0) : r.places.length ≤ 8 := ok_places_len h
abbrev tyPk : TypeId := 40
abbrev tyIk : TypeId := 3
theorem rep_parts {σ : PH} {R : RecD} {f : Fm} (h : Rep.rep σ (rcV R f) R) : I64 R.kind ∧ I64 R.gang ∧ RepL σ (.slice f.a1 R.peers.length f.c1) R.peers ∧ RepL σ (.slice f.a2 R.places.length f.c2) R.places ∧ R.node.name.size ≤ 140737488355328 ∧ I64 R.node.cpu ∧ I64 R.node.mem ∧ RepL σ (.slice f.a3 R.node.marks.length f.c3) R.node.marks ∧ RepL σ (.slice f.a4 R.node.taints.length f.c4) R.node.taints := by
  obtain ⟨_, _, _, _, e, h1, h2, hp_, hq, h3, h4, h5, hm, ht⟩ := h
  simp only [recC, List.cons.injEq, true_and, and_true] at e
  obtain ⟨rfl, rfl, rfl, rfl⟩ := e
  exact ⟨h1, h2, hp_, hq, h3, h4, h5, hm, ht⟩
def three (k : Int) : List Int := [0, 8, k]
def five (k : Int) : List Int := [0, 1, 999999, 1000000, k]
theorem three_in {k : Int} (hk : I64 k) (i : Nat) (h : i < 3) : I64 ((three k).getD i 0) := by
  have : i = 0 ∨ i = 1 ∨ i = 2 := by omega
  rcases this with rfl | rfl | rfl
  · exact (show I64 (0 : Int) from ⟨by decide, by decide⟩)
  · exact (show I64 (8 : Int) from ⟨by decide, by decide⟩)
  · exact hk
theorem five_in {k : Int} (hk : I64 k) (i : Nat) (h : i < 5) : I64 ((five k).getD i 0) := by
  have : i = 0 ∨ i = 1 ∨ i = 2 ∨ i = 3 ∨ i = 4 := by omega
  rcases this with rfl | rfl | rfl | rfl | rfl
  · exact (show I64 (0 : Int) from ⟨by decide, by decide⟩)
  · exact (show I64 (1 : Int) from ⟨by decide, by decide⟩)
  · exact (show I64 (999999 : Int) from ⟨by decide, by decide⟩)
  · exact (show I64 (1000000 : Int) from ⟨by decide, by decide⟩)
  · exact hk
theorem textOf_len (l : List Int) : (textOf l).size ≤ 24 := by have := textTo_size l (min l.length 12); unfold textOf; omega
theorem checks_c (cs : List Value) (raw : RecD) (kind : Int) (_ : I64 kind) (gang : Int) (_ : I64 gang) (ns : List Int) (name : Int) (_ : I64 name) (which : Int) (_ : I64 which) (k : Int) (hk : I64 k) (ms : List Int) (vn vm : Value) (w : World) (lib : LibAt (hp w)) (hraw : Rep.rep (hp w) cs raw) (hr : RepL (hp w) vn ns) (hm : RepL (hp w) vm ms) :
    Calls Tryz.prog 3 #[.agg (List.toArray cs), .int .i64 kind, .int .i64 gang, vn, .int .i64 name, .int .i64 which, .int .i64 k, vm] w fun e w' => e = .returned (.bool true) ∧ Below w.heap.size w w' := by
  obtain ⟨an, cn, rfl⟩ := hr.form
  obtain ⟨am, cm, rfl⟩ := hm.form
  obtain ⟨f0, rfl⟩ := rep_form hraw
  obtain ⟨R, hR⟩ : ∃ R, R = makeP kind gang ns name := ⟨_, rfl⟩
  have z0 : I64 0 := ⟨by decide, by decide⟩
  have hok : checkP R = 0 := by rw [hR]; exact make_ok _ _ _ _
  have hsm := small_okC hok
  refine RS.enter Tryz.func3 Tryz.ntmps3 rfl rfl ?_
  (repeat (first | refine zS ?_ | refine zR ?_ | refine zQ ?_ | refine zK ?_ | refine zI ?_ | refine zB ?_ | refine zE ?_)); refine box_ (v := .agg _) (cs := [_, _, _, _, _, _, _, _, _, _]) (fun b8 => ?_); refine asB ?_; refine LS.done ?_
  refine RS.to (K' := [rcW b8 raw f0]) ?_ ⟨fun h => h⟩
  (repeat (first | refine zS ?_ | refine zR ?_ | refine zQ ?_ | refine zK ?_ | refine zI ?_ | refine zB ?_ | refine zE ?_)); skip
  refine callQ (fun v _ => v = .bool true) [rcW b8 raw f0] (fun v σ1 k1 hq => ?_) (hc := fun w' hw => known_s lib w' hw)
  subst hq
  refine not_ ?_; refine LS.done ?_
  (repeat (first | refine zS ?_ | refine zR ?_ | refine zQ ?_ | refine zK ?_ | refine zI ?_ | refine zB ?_ | refine zE ?_))
  refine RS.condF ?_
  (repeat (first | refine zS ?_ | refine zR ?_ | refine zQ ?_ | refine zK ?_ | refine zI ?_ | refine zB ?_ | refine zE ?_)); refine ldA (rcV raw f0) ?_
  refine callP ?_ (hc := fun w' hw => few4_c _ raw w' (Rep.mono hraw (PH.le_trans k1 hw.imm)))
  refine not_ ?_; refine LS.done ?_
  (repeat (first | refine zS ?_ | refine zR ?_ | refine zQ ?_ | refine zK ?_ | refine zI ?_ | refine zB ?_ | refine zE ?_))
  refine RS.cond (fun q => ?_) (fun q => ?_)
  · (repeat (first | refine zS ?_ | refine zR ?_ | refine zQ ?_ | refine zK ?_ | refine zI ?_ | refine zB ?_ | refine zE ?_)); refine asB ?_; refine LS.done ?_; (repeat (first | refine zS ?_ | refine zR ?_ | refine zQ ?_ | refine zK ?_ | refine zI ?_ | refine zB ?_ | refine zE ?_)); refine RS.ret1 (v := .bool _) Tryz.func3 fun w hw => ?_
    exact ⟨rfl, hw.below⟩
  have hfs := few4_small (r := raw) (by simpa using q)
  (repeat (first | refine zS ?_ | refine zR ?_ | refine zQ ?_ | refine zK ?_ | refine zI ?_ | refine zB ?_ | refine zE ?_)); refine mvI ?_; refine mvI ?_; refine mvL ?_; refine mvI ?_
  refine callT (fun v τ => ∃ cs, v = .agg (List.toArray cs) ∧ Rep.rep τ cs R) (fun v τ2 σ2 hq hN k2 hτ => ?_) (fun w' hw => by rw [hR]; exact make_c kind gang name ns _ w' (hr.mono (PH.le_trans k1 hw.imm)))
  obtain ⟨cs, rfl, hrep⟩ := hq
  have hrep := Rep.mono hrep hτ
  obtain ⟨f, rfl⟩ := rep_form hrep
  have k12 := PH.le_trans k1 k2
  refine alloc_ (fun b17 => ?_); refine st (.agg _) _ ?_; refine LS.done ?_
  refine RS.to (K' := [rcW b17 R f, rcW b8 raw f0]) ?_ ⟨fun h => h⟩
  (repeat (first | refine RS.seq ?_ | refine RS.region ?_ | refine RS.skip ?_ | refine RS.inBlock ?_ | refine RS.block ?_ | refine RS.exit ?_)); refine RS.drawG [(33, some false)] [.ex, .ex, .ex, .ex, .free, .free, .ex, .ex, .free, .free] [rcW b17 R f, rcW b8 raw f0] ?_ (by kernel_rfl) (by kernel_rfl) (by kernel_rfl) ⟨fun h => h⟩; simp only [ers, ersO, onOff, glook, nthO, List.map_cons, List.map_nil, Option.bind_some, Option.map_some, Nat.beq, cond_true, BEq.beq]; refine D.ldA (rcV raw f0) ?_
  refine D.callP ?_ (hc := fun _ _ w' hle _ hw => check_c _ raw w' (Rep.mono hraw (PH.le_trans k12 (PH.le_trans hle hw.imm))) hfs)
  refine D.ldA (rcV raw f0) ?_
  refine D.callP ?_ (hc := fun _ _ w' hle _ hw => checkD_x _ raw w' (Rep.mono hraw (PH.le_trans k12 (PH.le_trans hle hw.imm))) hfs.2.2.1)
  refine D.neI ?_; rw [decide_eq_true (show checkP raw = checkP raw from rfl)]; refine D.mvB ?_; refine D.ldA (rcV R f) ?_
  refine D.callP ?_ (hc := fun _ _ w' hle _ hw => check_c _ R w' (Rep.mono hrep (PH.le_trans hle hw.imm)) hsm)
  rw [hok]
  refine D.neI ?_; refine D.pk (v := .bool _) ?_; refine D.doneG [(33, some false)] ⟨⟨rfl, rfl⟩, trivial⟩ (fun us σ1 hle1 hfs => ?_)
  have k3 := hle1
  refine RS.ow ?_
  have k123 := PH.le_trans k12 k3
  have hrep := Rep.mono hrep k3
  obtain ⟨p1, p2, p3, p4, p5, p6, p7, p8, p9⟩ := rep_parts hrep
  (repeat (first | refine zS ?_ | refine zR ?_ | refine zQ ?_ | refine zK ?_ | refine zI ?_ | refine zB ?_ | refine zE ?_))
  refine RS.condF ?_
  (repeat (first | refine zS ?_ | refine zR ?_ | refine zQ ?_ | refine zK ?_ | refine zI ?_ | refine zB ?_ | refine zE ?_)); refine mvI ?_
  refine callP ?_ (hc := fun w _ => w4_c _ _ (by omega) (by omega) w)
  refine LS.done ?_
  obtain ⟨j, hj⟩ : ∃ j, j = which % 9 := ⟨_, rfl⟩
  rw [← hj]
  (repeat (first | refine zS ?_ | refine zR ?_ | refine zQ ?_ | refine zK ?_ | refine zI ?_ | refine zB ?_ | refine zE ?_)); refine eqI ?_; refine asB ?_; refine LS.done ?_
  (repeat (first | refine zS ?_ | refine zR ?_ | refine zQ ?_ | refine zK ?_ | refine zI ?_ | refine zB ?_ | refine zE ?_))
  refine RS.cond (fun q => ?_) (fun q => ?_)
  · (repeat (first | refine zS ?_ | refine zR ?_ | refine zQ ?_ | refine zK ?_ | refine zI ?_ | refine zB ?_ | refine zE ?_)); refine mvI ?_; refine bldS [.int _ _, .int _ _, .int _ _] [.int _ _, .int _ _, .int _ _] (fun b43 => ?_); refine mvI ?_
    refine callP ?_ (hc := fun w _ => w4_c _ _ (by omega) (by omega) w)
    obtain ⟨m1, m2⟩ := wmod k 3 (by omega)
    obtain ⟨i, hi⟩ : ∃ i : Nat, k % 3 = i := ⟨(k % 3).toNat, by omega⟩
    have hi3 : i < 3 := by omega
    rw [hi]
    obtain ⟨x, hx⟩ : ∃ x, x = (three k).getD i 0 := ⟨_, rfl⟩
    have hxI : I64 x := by rw [hx]; exact three_in hk i hi3
    have hn := nth_int (three k) i (by simp [three]; omega)
    rw [← hx] at hn
    refine idx (i := i) ?_; refine ld1 (v := .int .i64 x) ?_ (hv := hn); refine fld ?_; refine st (.int _ _) _ ?_; refine LS.done ?_
    refine RS.to (K' := [rcW b17 { R with kind := x } f, rcW b8 raw f0]) ?_ ⟨fun h => h.tail⟩
    have hrep2 : Rep.rep σ1 (rcV { R with kind := x } f) { R with kind := x } := ⟨_, _, _, _, rfl, hxI, p2, p3, p4, p5, p6, p7, p8, p9⟩
    obtain ⟨R2, e2⟩ : ∃ r, r = ({ R with kind := x } : RecD) := ⟨_, rfl⟩
    obtain ⟨F2, e3⟩ : ∃ r, r = (f : Fm) := ⟨_, rfl⟩
    have hsm2 : SmallR R2 := by subst e2; exact (show SmallR { R with kind := x } from hsm)
    have hrep3 : Rep.rep σ1 (rcV R2 F2) R2 := by subst e2; subst e3; exact hrep2
    refine RS.to (K' := [rcW b17 R2 F2, rcW b8 raw f0]) ?_ ⟨fun h => by subst e2; subst e3; exact h⟩
    (repeat (first | refine RS.seq ?_ | refine RS.region ?_ | refine RS.skip ?_ | refine RS.inBlock ?_ | refine RS.block ?_ | refine RS.exit ?_)); refine RS.draw [.ex, .ex, .ex, .ex, .free, .free] [rcW b17 R2 F2, rcW b8 raw f0] ?_ (by kernel_rfl) (by kernel_rfl) (by infer_instance); refine D.ldA (rcV R2 F2) ?_
    refine D.callP ?_ (hc := fun _ _ w' hle _ hw => check_c _ R2 w' (Rep.mono hrep3 (PH.le_trans hle hw.imm)) hsm2)
    refine D.ldA (rcV R2 F2) ?_
    refine D.callP ?_ (hc := fun _ _ w' hle _ hw => checkD_x _ R2 w' (Rep.mono hrep3 (PH.le_trans hle hw.imm)) hsm2.2.2.1)
    refine D.eqI ?_; rw [decide_eq_true (show checkP R2 = checkP R2 from rfl)]; refine D.asB ?_; refine D.done (fun us σ1 hle1 hfs => ?_)
    refine RS.ow ?_
    (repeat (first | refine zS ?_ | refine zR ?_ | refine zQ ?_ | refine zK ?_ | refine zI ?_ | refine zB ?_ | refine zE ?_)); refine RS.ret1 (v := .bool _) Tryz.func3 fun w hw => ?_
    exact ⟨rfl, hw.below⟩
  (repeat (first | refine zS ?_ | refine zR ?_ | refine zQ ?_ | refine zK ?_ | refine zI ?_ | refine zB ?_ | refine zE ?_)); refine eqI ?_; refine asB ?_; refine LS.done ?_
  (repeat (first | refine zS ?_ | refine zR ?_ | refine zQ ?_ | refine zK ?_ | refine zI ?_ | refine zB ?_ | refine zE ?_))
  refine RS.cond (fun q => ?_) (fun q => ?_)
  · (repeat (first | refine zS ?_ | refine zR ?_ | refine zQ ?_ | refine zK ?_ | refine zI ?_ | refine zB ?_ | refine zE ?_)); refine mvI ?_; refine bldS [.int _ _, .int _ _, .int _ _, .int _ _, .int _ _] [.int _ _, .int _ _, .int _ _, .int _ _, .int _ _] (fun b52 => ?_); refine mvI ?_
    refine callP ?_ (hc := fun w _ => w4_c _ _ (by omega) (by omega) w)
    obtain ⟨m1, m2⟩ := wmod k 5 (by omega)
    obtain ⟨i, hi⟩ : ∃ i : Nat, k % 5 = i := ⟨(k % 5).toNat, by omega⟩
    have hi3 : i < 5 := by omega
    rw [hi]
    obtain ⟨x, hx⟩ : ∃ x, x = (five k).getD i 0 := ⟨_, rfl⟩
    have hxI : I64 x := by rw [hx]; exact five_in hk i hi3
    have hn := nth_int (five k) i (by simp [five]; omega)
    rw [← hx] at hn
    refine idx (i := i) ?_; refine ld1 (v := .int .i64 x) ?_ (hv := hn); refine fld ?_; refine st (.int _ _) _ ?_; refine LS.done ?_
    refine RS.to (K' := [rcW b17 { R with gang := x } f, rcW b8 raw f0]) ?_ ⟨fun h => h.tail⟩
    have hrep2 : Rep.rep σ1 (rcV { R with gang := x } f) { R with gang := x } := ⟨_, _, _, _, rfl, p1, hxI, p3, p4, p5, p6, p7, p8, p9⟩
    obtain ⟨R2, e2⟩ : ∃ r, r = ({ R with gang := x } : RecD) := ⟨_, rfl⟩
    obtain ⟨F2, e3⟩ : ∃ r, r = (f : Fm) := ⟨_, rfl⟩
    have hsm2 : SmallR R2 := by subst e2; exact (show SmallR { R with gang := x } from hsm)
    have hrep3 : Rep.rep σ1 (rcV R2 F2) R2 := by subst e2; subst e3; exact hrep2
    refine RS.to (K' := [rcW b17 R2 F2, rcW b8 raw f0]) ?_ ⟨fun h => by subst e2; subst e3; exact h⟩
    (repeat (first | refine RS.seq ?_ | refine RS.region ?_ | refine RS.skip ?_ | refine RS.inBlock ?_ | refine RS.block ?_ | refine RS.exit ?_)); refine RS.draw [.ex, .ex, .ex, .ex, .free, .free] [rcW b17 R2 F2, rcW b8 raw f0] ?_ (by kernel_rfl) (by kernel_rfl) (by infer_instance); refine D.ldA (rcV R2 F2) ?_
    refine D.callP ?_ (hc := fun _ _ w' hle _ hw => check_c _ R2 w' (Rep.mono hrep3 (PH.le_trans hle hw.imm)) hsm2)
    refine D.ldA (rcV R2 F2) ?_
    refine D.callP ?_ (hc := fun _ _ w' hle _ hw => checkD_x _ R2 w' (Rep.mono hrep3 (PH.le_trans hle hw.imm)) hsm2.2.2.1)
    refine D.eqI ?_; rw [decide_eq_true (show checkP R2 = checkP R2 from rfl)]; refine D.asB ?_; refine D.done (fun us σ1 hle1 hfs => ?_)
    refine RS.ow ?_
    (repeat (first | refine zS ?_ | refine zR ?_ | refine zQ ?_ | refine zK ?_ | refine zI ?_ | refine zB ?_ | refine zE ?_)); refine RS.ret1 (v := .bool _) Tryz.func3 fun w hw => ?_
    exact ⟨rfl, hw.below⟩
  (repeat (first | refine zS ?_ | refine zR ?_ | refine zQ ?_ | refine zK ?_ | refine zI ?_ | refine zB ?_ | refine zE ?_)); refine eqI ?_; refine asB ?_; refine LS.done ?_
  (repeat (first | refine zS ?_ | refine zR ?_ | refine zQ ?_ | refine zK ?_ | refine zI ?_ | refine zB ?_ | refine zE ?_))
  refine RS.cond (fun q => ?_) (fun q => ?_)
  · obtain ⟨m1, m2⟩ := wmod k 7 (by omega)
    obtain ⟨x, hx⟩ : ∃ x, x = k % 7 - 1 := ⟨_, rfl⟩
    have hxI : I64 x := ⟨by omega, by omega⟩
    have hpb : R.peers.length ≤ 100000 := hsm.2.2.2
    have hcell : ∀ τ : PH, CellsL τ [Value.int .i64 x] [x] := fun τ => CellsL.one_ (show Rep.rep τ [Value.int .i64 x] x from ⟨rfl, hxI⟩)
    (repeat (first | refine zS ?_ | refine zR ?_ | refine zQ ?_ | refine zK ?_ | refine zI ?_ | refine zB ?_ | refine zE ?_)); refine bldS [] [] (fun b60 => ?_); refine LS.zeroD 0 Int tyIk (some ⟨b60, 0, none⟩) ?_; refine fld ?_; refine ld1 (v := .slice _ _ _) ?_; refine appD (v := .slice (some ⟨b60, 0, none⟩) 0 0) (l' := R.peers) (vy := .slice f.a1 R.peers.length f.c1) (fun w' hw => by rw [fromN_zero]; exact srcD hw TSlice.eq p3 (PH.le_refl _)) (fun v63 => ?_) (hb := by simp; omega) (hm := by simp; omega); refine mvI ?_
    refine callP ?_ (hc := fun w _ => w4_c _ _ (by omega) (by omega) w)
    refine subN ?_; rw [← hx]; refine bldS [.int .i64 x] [.int .i64 x] (fun b67 => ?_); refine appD (v := v63) (l' := [x]) (vy := .slice (some ⟨b67, 0, none⟩) 1 1) (fun w' hw => ⟨_, srcB hw TSlice.eq, hcell _⟩) (fun v68 => ?_) (hb := by simp; omega) (hm := by simp; omega); refine LS.formD v68 (fun a68 c68 e68 _ => ?_); subst e68; refine fld ?_; refine st (.slice _ _ _) _ ?_; refine LS.done ?_
    refine RS.freeze0 (l := [] ++ R.peers ++ [x]) (.slice a68 ([] ++ R.peers ++ [x]).length c68) (fun σ5 k5 hr5 => ?_) (hl := by simp; omega)
    refine RS.to (K' := [rcW b17 { R with peers := [] ++ R.peers ++ [x] } { f with a1 := a68, c1 := c68 }, rcW b8 raw f0]) ?_ ⟨fun h => h.tail.tail⟩
    have hrep2 : Rep.rep σ5 (rcV { R with peers := [] ++ R.peers ++ [x] } { f with a1 := a68, c1 := c68 }) { R with peers := [] ++ R.peers ++ [x] } := ⟨_, _, _, _, rfl, p1, p2, hr5, p4.mono k5, p5, p6, p7, p8.mono k5, p9.mono k5⟩
    obtain ⟨R2, e2⟩ : ∃ r, r = ({ R with peers := [] ++ R.peers ++ [x] } : RecD) := ⟨_, rfl⟩
    obtain ⟨F2, e3⟩ : ∃ r, r = ({ f with a1 := a68, c1 := c68 } : Fm) := ⟨_, rfl⟩
    have hsm2 : SmallR R2 := by subst e2; exact (show SmallR { R with peers := [] ++ R.peers ++ [x] } from ⟨hsm.1, hsm.2.1, hsm.2.2.1, by show ([] ++ R.peers ++ [x]).length ≤ _; have := small_peers hok; simp; omega⟩)
    have hrep3 : Rep.rep σ5 (rcV R2 F2) R2 := by subst e2; subst e3; exact hrep2
    refine RS.to (K' := [rcW b17 R2 F2, rcW b8 raw f0]) ?_ ⟨fun h => by subst e2; subst e3; exact h⟩
    (repeat (first | refine RS.seq ?_ | refine RS.region ?_ | refine RS.skip ?_ | refine RS.inBlock ?_ | refine RS.block ?_ | refine RS.exit ?_)); refine RS.draw [.ex, .ex, .ex, .ex, .free, .free] [rcW b17 R2 F2, rcW b8 raw f0] ?_ (by kernel_rfl) (by kernel_rfl) (by infer_instance); refine D.ldA (rcV R2 F2) ?_
    refine D.callP ?_ (hc := fun _ _ w' hle _ hw => check_c _ R2 w' (Rep.mono hrep3 (PH.le_trans hle hw.imm)) hsm2)
    refine D.ldA (rcV R2 F2) ?_
    refine D.callP ?_ (hc := fun _ _ w' hle _ hw => checkD_x _ R2 w' (Rep.mono hrep3 (PH.le_trans hle hw.imm)) hsm2.2.2.1)
    refine D.eqI ?_; rw [decide_eq_true (show checkP R2 = checkP R2 from rfl)]; refine D.asB ?_; refine D.done (fun us σ1 hle1 hfs => ?_)
    refine RS.ow ?_
    (repeat (first | refine zS ?_ | refine zR ?_ | refine zQ ?_ | refine zK ?_ | refine zI ?_ | refine zB ?_ | refine zE ?_)); refine RS.ret1 (v := .bool _) Tryz.func3 fun w hw => ?_
    exact ⟨rfl, hw.below⟩
  (repeat (first | refine zS ?_ | refine zR ?_ | refine zQ ?_ | refine zK ?_ | refine zI ?_ | refine zB ?_ | refine zE ?_)); refine eqI ?_; refine asB ?_; refine LS.done ?_
  (repeat (first | refine zS ?_ | refine zR ?_ | refine zQ ?_ | refine zK ?_ | refine zI ?_ | refine zB ?_ | refine zE ?_))
  refine RS.cond (fun q => ?_) (fun q => ?_)
  · have htl := textOf_len ms
    (repeat (first | refine zS ?_ | refine zR ?_ | refine zQ ?_ | refine zK ?_ | refine zI ?_ | refine zB ?_ | refine zE ?_)); refine mvL ?_
    refine callP ?_ (hc := fun w' hw => text_c ms _ w' (hm.mono (PH.le_trans k123 hw.imm)))
    refine fld ?_; refine fld ?_; refine st (.string _) _ ?_; refine LS.done ?_
    refine RS.to (K' := [rcW b17 { R with node := { R.node with name := textOf ms } } f, rcW b8 raw f0]) ?_ ⟨fun h => h⟩
    have hrep2 : Rep.rep σ1 (rcV { R with node := { R.node with name := textOf ms } } f) { R with node := { R.node with name := textOf ms } } := ⟨_, _, _, _, rfl, p1, p2, p3, p4, by show (textOf ms).size ≤ _; omega, p6, p7, p8, p9⟩
    obtain ⟨R2, e2⟩ : ∃ r, r = ({ R with node := { R.node with name := textOf ms } } : RecD) := ⟨_, rfl⟩
    obtain ⟨F2, e3⟩ : ∃ r, r = (f : Fm) := ⟨_, rfl⟩
    have hsm2 : SmallR R2 := by subst e2; exact (show SmallR { R with node := { R.node with name := textOf ms } } from hsm)
    have hrep3 : Rep.rep σ1 (rcV R2 F2) R2 := by subst e2; subst e3; exact hrep2
    refine RS.to (K' := [rcW b17 R2 F2, rcW b8 raw f0]) ?_ ⟨fun h => by subst e2; subst e3; exact h⟩
    (repeat (first | refine RS.seq ?_ | refine RS.region ?_ | refine RS.skip ?_ | refine RS.inBlock ?_ | refine RS.block ?_ | refine RS.exit ?_)); refine RS.draw [.ex, .ex, .ex, .ex, .free, .free] [rcW b17 R2 F2, rcW b8 raw f0] ?_ (by kernel_rfl) (by kernel_rfl) (by infer_instance); refine D.ldA (rcV R2 F2) ?_
    refine D.callP ?_ (hc := fun _ _ w' hle _ hw => check_c _ R2 w' (Rep.mono hrep3 (PH.le_trans hle hw.imm)) hsm2)
    refine D.ldA (rcV R2 F2) ?_
    refine D.callP ?_ (hc := fun _ _ w' hle _ hw => checkD_x _ R2 w' (Rep.mono hrep3 (PH.le_trans hle hw.imm)) hsm2.2.2.1)
    refine D.eqI ?_; rw [decide_eq_true (show checkP R2 = checkP R2 from rfl)]; refine D.asB ?_; refine D.done (fun us σ1 hle1 hfs => ?_)
    refine RS.ow ?_
    (repeat (first | refine zS ?_ | refine zR ?_ | refine zQ ?_ | refine zK ?_ | refine zI ?_ | refine zB ?_ | refine zE ?_)); refine RS.ret1 (v := .bool _) Tryz.func3 fun w hw => ?_
    exact ⟨rfl, hw.below⟩
  (repeat (first | refine zS ?_ | refine zR ?_ | refine zQ ?_ | refine zK ?_ | refine zI ?_ | refine zB ?_ | refine zE ?_)); refine eqI ?_; refine asB ?_; refine LS.done ?_
  (repeat (first | refine zS ?_ | refine zR ?_ | refine zQ ?_ | refine zK ?_ | refine zI ?_ | refine zB ?_ | refine zE ?_))
  refine RS.cond (fun q => ?_) (fun q => ?_)
  · (repeat (first | refine zS ?_ | refine zR ?_ | refine zQ ?_ | refine zK ?_ | refine zI ?_ | refine zB ?_ | refine zE ?_)); refine fld ?_; refine fld ?_; refine ld1 (v := .bool _) ?_; refine not_ ?_; refine fld ?_; refine fld ?_; refine st (.bool _) _ ?_; refine LS.done ?_
    refine RS.to (K' := [rcW b17 { R with node := { R.node with closed := !R.node.closed } } f, rcW b8 raw f0]) ?_ ⟨fun h => h⟩
    have hrep2 : Rep.rep σ1 (rcV { R with node := { R.node with closed := !R.node.closed } } f) { R with node := { R.node with closed := !R.node.closed } } := ⟨_, _, _, _, rfl, p1, p2, p3, p4, p5, p6, p7, p8, p9⟩
    obtain ⟨R2, e2⟩ : ∃ r, r = ({ R with node := { R.node with closed := !R.node.closed } } : RecD) := ⟨_, rfl⟩
    obtain ⟨F2, e3⟩ : ∃ r, r = (f : Fm) := ⟨_, rfl⟩
    have hsm2 : SmallR R2 := by subst e2; exact (show SmallR { R with node := { R.node with closed := !R.node.closed } } from hsm)
    have hrep3 : Rep.rep σ1 (rcV R2 F2) R2 := by subst e2; subst e3; exact hrep2
    refine RS.to (K' := [rcW b17 R2 F2, rcW b8 raw f0]) ?_ ⟨fun h => by subst e2; subst e3; exact h⟩
    (repeat (first | refine RS.seq ?_ | refine RS.region ?_ | refine RS.skip ?_ | refine RS.inBlock ?_ | refine RS.block ?_ | refine RS.exit ?_)); refine RS.draw [.ex, .ex, .ex, .ex, .free, .free] [rcW b17 R2 F2, rcW b8 raw f0] ?_ (by kernel_rfl) (by kernel_rfl) (by infer_instance); refine D.ldA (rcV R2 F2) ?_
    refine D.callP ?_ (hc := fun _ _ w' hle _ hw => check_c _ R2 w' (Rep.mono hrep3 (PH.le_trans hle hw.imm)) hsm2)
    refine D.ldA (rcV R2 F2) ?_
    refine D.callP ?_ (hc := fun _ _ w' hle _ hw => checkD_x _ R2 w' (Rep.mono hrep3 (PH.le_trans hle hw.imm)) hsm2.2.2.1)
    refine D.eqI ?_; rw [decide_eq_true (show checkP R2 = checkP R2 from rfl)]; refine D.asB ?_; refine D.done (fun us σ1 hle1 hfs => ?_)
    refine RS.ow ?_
    (repeat (first | refine zS ?_ | refine zR ?_ | refine zQ ?_ | refine zK ?_ | refine zI ?_ | refine zB ?_ | refine zE ?_)); refine RS.ret1 (v := .bool _) Tryz.func3 fun w hw => ?_
    exact ⟨rfl, hw.below⟩
  (repeat (first | refine zS ?_ | refine zR ?_ | refine zQ ?_ | refine zK ?_ | refine zI ?_ | refine zB ?_ | refine zE ?_)); refine eqI ?_; refine asB ?_; refine LS.done ?_
  (repeat (first | refine zS ?_ | refine zR ?_ | refine zQ ?_ | refine zK ?_ | refine zI ?_ | refine zB ?_ | refine zE ?_))
  refine RS.cond (fun q => ?_) (fun q => ?_)
  · obtain ⟨p, hpd⟩ : ∃ p : PlaceD, p = ⟨textOf ms, B [110], 0, 0, false⟩ := ⟨_, rfl⟩
    have hpI : ∀ τ : PH, Rep.rep τ (placeC p) p := fun τ => by rw [hpd]; exact ⟨rfl, by show (textOf ms).size ≤ _; have := textOf_len ms; omega, by show (B [110]).size ≤ _; decide, z0, z0⟩
    have hcell : ∀ τ : PH, CellsL τ (placeC p) [p] := fun τ => CellsL.one_ (hpI τ)
    have hpb := small_places hok
    (repeat (first | refine zS ?_ | refine zR ?_ | refine zQ ?_ | refine zK ?_ | refine zI ?_ | refine zB ?_ | refine zE ?_)); refine bldS [] [] (fun b86 => ?_); refine LS.zeroD 0 PlaceD tyPk (some ⟨b86, 0, none⟩) ?_; refine fld ?_; refine ld1 (v := .slice _ _ _) ?_; refine appD (v := .slice (some ⟨b86, 0, none⟩) 0 0) (l' := R.places) (vy := .slice f.a2 R.places.length f.c2) (fun w' hw => by rw [fromN_zero]; exact srcD hw TSlice.eq p4 (PH.le_refl _)) (fun v89 => ?_) (hb := by simp; omega) (hm := by simp; omega); refine mvL ?_
    refine callP ?_ (hc := fun w' hw => text_c ms _ w' (hm.mono (PH.le_trans k123 hw.imm)))
    refine bld (vals := [(0, .string _), (1, .string _)]) [_, _, _, _, _] ?_; refine bldS [.agg (List.toArray (placeC p))] (placeC p) (fun b93 => ?_) (hx := by rw [hpd]; rfl); refine appD (v := v89) (l' := [p]) (vy := .slice (some ⟨b93, 0, none⟩) 1 1) (fun w' hw => ⟨_, srcB hw TSlice.eq, hcell _⟩) (fun v94 => ?_) (hb := by simp; omega) (hm := by simp; omega); refine LS.formD v94 (fun aq cq eq _ => ?_); subst eq; refine fld ?_; refine st (.slice _ _ _) _ ?_; refine LS.done ?_
    refine RS.freeze0 (l := [] ++ R.places ++ [p]) (.slice aq ([] ++ R.places ++ [p]).length cq) (fun σ5 k5 hr5 => ?_) (hl := by simp; omega)
    refine RS.to (K' := [rcW b17 { R with places := [] ++ R.places ++ [p] } { f with a2 := aq, c2 := cq }, rcW b8 raw f0]) ?_ ⟨fun h => h.tail.tail⟩
    have hrep2 : Rep.rep σ5 (rcV { R with places := [] ++ R.places ++ [p] } { f with a2 := aq, c2 := cq }) { R with places := [] ++ R.places ++ [p] } := ⟨_, _, _, _, rfl, p1, p2, p3.mono k5, hr5, p5, p6, p7, p8.mono k5, p9.mono k5⟩
    obtain ⟨R2, e2⟩ : ∃ r, r = ({ R with places := [] ++ R.places ++ [p] } : RecD) := ⟨_, rfl⟩
    obtain ⟨F2, e3⟩ : ∃ r, r = ({ f with a2 := aq, c2 := cq } : Fm) := ⟨_, rfl⟩
    have hsm2 : SmallR R2 := by subst e2; exact (show SmallR { R with places := [] ++ R.places ++ [p] } from ⟨hsm.1, hsm.2.1, by show ([] ++ R.places ++ [p]).length ≤ _; simp; omega, hsm.2.2.2⟩)
    have hrep3 : Rep.rep σ5 (rcV R2 F2) R2 := by subst e2; subst e3; exact hrep2
    refine RS.to (K' := [rcW b17 R2 F2, rcW b8 raw f0]) ?_ ⟨fun h => by subst e2; subst e3; exact h⟩
    (repeat (first | refine RS.seq ?_ | refine RS.region ?_ | refine RS.skip ?_ | refine RS.inBlock ?_ | refine RS.block ?_ | refine RS.exit ?_)); refine RS.draw [.ex, .ex, .ex, .ex, .free, .free] [rcW b17 R2 F2, rcW b8 raw f0] ?_ (by kernel_rfl) (by kernel_rfl) (by infer_instance); refine D.ldA (rcV R2 F2) ?_
    refine D.callP ?_ (hc := fun _ _ w' hle _ hw => check_c _ R2 w' (Rep.mono hrep3 (PH.le_trans hle hw.imm)) hsm2)
    refine D.ldA (rcV R2 F2) ?_
    refine D.callP ?_ (hc := fun _ _ w' hle _ hw => checkD_x _ R2 w' (Rep.mono hrep3 (PH.le_trans hle hw.imm)) hsm2.2.2.1)
    refine D.eqI ?_; rw [decide_eq_true (show checkP R2 = checkP R2 from rfl)]; refine D.asB ?_; refine D.done (fun us σ1 hle1 hfs => ?_)
    refine RS.ow ?_
    (repeat (first | refine zS ?_ | refine zR ?_ | refine zQ ?_ | refine zK ?_ | refine zI ?_ | refine zB ?_ | refine zE ?_)); refine RS.ret1 (v := .bool _) Tryz.func3 fun w hw => ?_
    exact ⟨rfl, hw.below⟩
  (repeat (first | refine zS ?_ | refine zR ?_ | refine zQ ?_ | refine zK ?_ | refine zI ?_ | refine zB ?_ | refine zE ?_)); refine eqI ?_; refine asB ?_; refine LS.done ?_
  (repeat (first | refine zS ?_ | refine zR ?_ | refine zQ ?_ | refine zK ?_ | refine zI ?_ | refine zB ?_ | refine zE ?_))
  refine RS.cond (fun q => ?_) (fun q => ?_)
  · obtain ⟨p, hpd⟩ : ∃ p : PlaceD, p = ⟨B [112, 97], B [110], 0, 0, false⟩ := ⟨_, rfl⟩
    have hpI : ∀ τ : PH, Rep.rep τ (placeC p) p := fun τ => by rw [hpd]; exact ⟨rfl, by show (B [112, 97]).size ≤ _; decide, by show (B [110]).size ≤ _; decide, z0, z0⟩
    have hcell : ∀ τ : PH, CellsL τ (placeC p) [p] := fun τ => CellsL.one_ (hpI τ)
    have hpb := small_places hok
    (repeat (first | refine zS ?_ | refine zR ?_ | refine zQ ?_ | refine zK ?_ | refine zI ?_ | refine zB ?_ | refine zE ?_)); refine bldS [] [] (fun b98 => ?_); refine LS.zeroD 0 PlaceD tyPk (some ⟨b98, 0, none⟩) ?_; refine fld ?_; refine ld1 (v := .slice _ _ _) ?_; refine appD (v := .slice (some ⟨b98, 0, none⟩) 0 0) (l' := R.places) (vy := .slice f.a2 R.places.length f.c2) (fun w' hw => by rw [fromN_zero]; exact srcD hw TSlice.eq p4 (PH.le_refl _)) (fun v101 => ?_) (hb := by simp; omega) (hm := by simp; omega); refine bld (vals := [(0, .string _), (1, .string _)]) [_, _, _, _, _] ?_; refine bldS [.agg (List.toArray (placeC p))] (placeC p) (fun b103 => ?_) (hx := by rw [hpd]; rfl); refine appD (v := v101) (l' := [p]) (vy := .slice (some ⟨b103, 0, none⟩) 1 1) (fun w' hw => ⟨_, srcB hw TSlice.eq, hcell _⟩) (fun v104 => ?_) (hb := by simp; omega) (hm := by simp; omega); refine LS.formD v104 (fun aq cq eq _ => ?_); subst eq; refine fld ?_; refine st (.slice _ _ _) _ ?_; refine LS.done ?_
    refine RS.freeze0 (l := [] ++ R.places ++ [p]) (.slice aq ([] ++ R.places ++ [p]).length cq) (fun σ5 k5 hr5 => ?_) (hl := by simp; omega)
    refine RS.to (K' := [rcW b17 { R with places := [] ++ R.places ++ [p] } { f with a2 := aq, c2 := cq }, rcW b8 raw f0]) ?_ ⟨fun h => h.tail.tail⟩
    have hrep2 : Rep.rep σ5 (rcV { R with places := [] ++ R.places ++ [p] } { f with a2 := aq, c2 := cq }) { R with places := [] ++ R.places ++ [p] } := ⟨_, _, _, _, rfl, p1, p2, p3.mono k5, hr5, p5, p6, p7, p8.mono k5, p9.mono k5⟩
    obtain ⟨R2, e2⟩ : ∃ r, r = ({ R with places := [] ++ R.places ++ [p] } : RecD) := ⟨_, rfl⟩
    obtain ⟨F2, e3⟩ : ∃ r, r = ({ f with a2 := aq, c2 := cq } : Fm) := ⟨_, rfl⟩
    have hsm2 : SmallR R2 := by subst e2; exact (show SmallR { R with places := [] ++ R.places ++ [p] } from ⟨hsm.1, hsm.2.1, by show ([] ++ R.places ++ [p]).length ≤ _; simp; omega, hsm.2.2.2⟩)
    have hrep3 : Rep.rep σ5 (rcV R2 F2) R2 := by subst e2; subst e3; exact hrep2
    refine RS.to (K' := [rcW b17 R2 F2, rcW b8 raw f0]) ?_ ⟨fun h => by subst e2; subst e3; exact h⟩
    (repeat (first | refine RS.seq ?_ | refine RS.region ?_ | refine RS.skip ?_ | refine RS.inBlock ?_ | refine RS.block ?_ | refine RS.exit ?_)); refine RS.draw [.ex, .ex, .ex, .ex, .free, .free] [rcW b17 R2 F2, rcW b8 raw f0] ?_ (by kernel_rfl) (by kernel_rfl) (by infer_instance); refine D.ldA (rcV R2 F2) ?_
    refine D.callP ?_ (hc := fun _ _ w' hle _ hw => check_c _ R2 w' (Rep.mono hrep3 (PH.le_trans hle hw.imm)) hsm2)
    refine D.ldA (rcV R2 F2) ?_
    refine D.callP ?_ (hc := fun _ _ w' hle _ hw => checkD_x _ R2 w' (Rep.mono hrep3 (PH.le_trans hle hw.imm)) hsm2.2.2.1)
    refine D.eqI ?_; rw [decide_eq_true (show checkP R2 = checkP R2 from rfl)]; refine D.asB ?_; refine D.done (fun us σ1 hle1 hfs => ?_)
    refine RS.ow ?_
    (repeat (first | refine zS ?_ | refine zR ?_ | refine zQ ?_ | refine zK ?_ | refine zI ?_ | refine zB ?_ | refine zE ?_)); refine RS.ret1 (v := .bool _) Tryz.func3 fun w hw => ?_
    exact ⟨rfl, hw.below⟩
  (repeat (first | refine zS ?_ | refine zR ?_ | refine zQ ?_ | refine zK ?_ | refine zI ?_ | refine zB ?_ | refine zE ?_)); refine eqI ?_; refine asB ?_; refine LS.done ?_
  (repeat (first | refine zS ?_ | refine zR ?_ | refine zQ ?_ | refine zK ?_ | refine zI ?_ | refine zB ?_ | refine zE ?_))
  refine RS.cond (fun q => ?_) (fun q => ?_)
  · obtain ⟨p, hpd⟩ : ∃ p : PlaceD, p = ⟨B [120], B [110], 0, k, false⟩ := ⟨_, rfl⟩
    have hpI : ∀ τ : PH, Rep.rep τ (placeC p) p := fun τ => by rw [hpd]; exact ⟨rfl, by show (B [120]).size ≤ _; decide, by show (B [110]).size ≤ _; decide, z0, hk⟩
    have hcell : ∀ τ : PH, CellsL τ (placeC p) [p] := fun τ => CellsL.one_ (hpI τ)
    have hpb := small_places hok
    (repeat (first | refine zS ?_ | refine zR ?_ | refine zQ ?_ | refine zK ?_ | refine zI ?_ | refine zB ?_ | refine zE ?_)); refine bldS [] [] (fun b108 => ?_); refine LS.zeroD 0 PlaceD tyPk (some ⟨b108, 0, none⟩) ?_; refine fld ?_; refine ld1 (v := .slice _ _ _) ?_; refine appD (v := .slice (some ⟨b108, 0, none⟩) 0 0) (l' := R.places) (vy := .slice f.a2 R.places.length f.c2) (fun w' hw => by rw [fromN_zero]; exact srcD hw TSlice.eq p4 (PH.le_refl _)) (fun v111 => ?_) (hb := by simp; omega) (hm := by simp; omega); refine mvI ?_; refine bld (vals := [(1, .int _ _)]) [_, _] ?_; refine bld (vals := [(0, .string _), (1, .string _), (2, .agg (List.toArray [_, _]))]) [_, _, _, _, _] ?_; refine bldS [.agg (List.toArray (placeC p))] (placeC p) (fun b115 => ?_) (hx := by rw [hpd]; rfl); refine appD (v := v111) (l' := [p]) (vy := .slice (some ⟨b115, 0, none⟩) 1 1) (fun w' hw => ⟨_, srcB hw TSlice.eq, hcell _⟩) (fun v116 => ?_) (hb := by simp; omega) (hm := by simp; omega); refine LS.formD v116 (fun aq cq eq _ => ?_); subst eq; refine fld ?_; refine st (.slice _ _ _) _ ?_; refine LS.done ?_
    refine RS.freeze0 (l := [] ++ R.places ++ [p]) (.slice aq ([] ++ R.places ++ [p]).length cq) (fun σ5 k5 hr5 => ?_) (hl := by simp; omega)
    refine RS.to (K' := [rcW b17 { R with places := [] ++ R.places ++ [p] } { f with a2 := aq, c2 := cq }, rcW b8 raw f0]) ?_ ⟨fun h => h.tail.tail⟩
    have hrep2 : Rep.rep σ5 (rcV { R with places := [] ++ R.places ++ [p] } { f with a2 := aq, c2 := cq }) { R with places := [] ++ R.places ++ [p] } := ⟨_, _, _, _, rfl, p1, p2, p3.mono k5, hr5, p5, p6, p7, p8.mono k5, p9.mono k5⟩
    obtain ⟨R2, e2⟩ : ∃ r, r = ({ R with places := [] ++ R.places ++ [p] } : RecD) := ⟨_, rfl⟩
    obtain ⟨F2, e3⟩ : ∃ r, r = ({ f with a2 := aq, c2 := cq } : Fm) := ⟨_, rfl⟩
    have hsm2 : SmallR R2 := by subst e2; exact (show SmallR { R with places := [] ++ R.places ++ [p] } from ⟨hsm.1, hsm.2.1, by show ([] ++ R.places ++ [p]).length ≤ _; simp; omega, hsm.2.2.2⟩)
    have hrep3 : Rep.rep σ5 (rcV R2 F2) R2 := by subst e2; subst e3; exact hrep2
    refine RS.to (K' := [rcW b17 R2 F2, rcW b8 raw f0]) ?_ ⟨fun h => by subst e2; subst e3; exact h⟩
    (repeat (first | refine RS.seq ?_ | refine RS.region ?_ | refine RS.skip ?_ | refine RS.inBlock ?_ | refine RS.block ?_ | refine RS.exit ?_)); refine RS.draw [.ex, .ex, .ex, .ex, .free, .free] [rcW b17 R2 F2, rcW b8 raw f0] ?_ (by kernel_rfl) (by kernel_rfl) (by infer_instance); refine D.ldA (rcV R2 F2) ?_
    refine D.callP ?_ (hc := fun _ _ w' hle _ hw => check_c _ R2 w' (Rep.mono hrep3 (PH.le_trans hle hw.imm)) hsm2)
    refine D.ldA (rcV R2 F2) ?_
    refine D.callP ?_ (hc := fun _ _ w' hle _ hw => checkD_x _ R2 w' (Rep.mono hrep3 (PH.le_trans hle hw.imm)) hsm2.2.2.1)
    refine D.eqI ?_; rw [decide_eq_true (show checkP R2 = checkP R2 from rfl)]; refine D.asB ?_; refine D.done (fun us σ1 hle1 hfs => ?_)
    refine RS.ow ?_
    (repeat (first | refine zS ?_ | refine zR ?_ | refine zQ ?_ | refine zK ?_ | refine zI ?_ | refine zB ?_ | refine zE ?_)); refine RS.ret1 (v := .bool _) Tryz.func3 fun w hw => ?_
    exact ⟨rfl, hw.below⟩
  (repeat (first | refine zS ?_ | refine zR ?_ | refine zQ ?_ | refine zK ?_ | refine zI ?_ | refine zB ?_ | refine zE ?_)); refine eqI ?_; refine asB ?_; refine LS.done ?_
  (repeat (first | refine zS ?_ | refine zR ?_ | refine zQ ?_ | refine zK ?_ | refine zI ?_ | refine zB ?_ | refine zE ?_))
  refine RS.cond (fun q => ?_) (fun q => ?_)
  · (repeat (first | refine zS ?_ | refine zR ?_ | refine zQ ?_ | refine zK ?_ | refine zI ?_ | refine zB ?_ | refine zE ?_)); refine fld ?_; refine st (.slice _ _ _) _ ?_; refine LS.done ?_
    refine RS.to (K' := [rcW b17 { R with peers := [] } { f with a1 := none, c1 := 0 }, rcW b8 raw f0]) ?_ ⟨fun h => h⟩
    have hrep2 : Rep.rep σ1 (rcV { R with peers := [] } { f with a1 := none, c1 := 0 }) { R with peers := [] } := ⟨_, _, _, _, rfl, p1, p2, RepL.nil _ _ _, p4, p5, p6, p7, p8, p9⟩
    obtain ⟨R2, e2⟩ : ∃ r, r = ({ R with peers := [] } : RecD) := ⟨_, rfl⟩
    obtain ⟨F2, e3⟩ : ∃ r, r = ({ f with a1 := none, c1 := 0 } : Fm) := ⟨_, rfl⟩
    have hsm2 : SmallR R2 := by subst e2; exact (show SmallR { R with peers := [] } from ⟨hsm.1, hsm.2.1, hsm.2.2.1, Nat.zero_le _⟩)
    have hrep3 : Rep.rep σ1 (rcV R2 F2) R2 := by subst e2; subst e3; exact hrep2
    refine RS.to (K' := [rcW b17 R2 F2, rcW b8 raw f0]) ?_ ⟨fun h => by subst e2; subst e3; exact h⟩
    (repeat (first | refine RS.seq ?_ | refine RS.region ?_ | refine RS.skip ?_ | refine RS.inBlock ?_ | refine RS.block ?_ | refine RS.exit ?_)); refine RS.draw [.ex, .ex, .ex, .ex, .free, .free] [rcW b17 R2 F2, rcW b8 raw f0] ?_ (by kernel_rfl) (by kernel_rfl) (by infer_instance); refine D.ldA (rcV R2 F2) ?_
    refine D.callP ?_ (hc := fun _ _ w' hle _ hw => check_c _ R2 w' (Rep.mono hrep3 (PH.le_trans hle hw.imm)) hsm2)
    refine D.ldA (rcV R2 F2) ?_
    refine D.callP ?_ (hc := fun _ _ w' hle _ hw => checkD_x _ R2 w' (Rep.mono hrep3 (PH.le_trans hle hw.imm)) hsm2.2.2.1)
    refine D.eqI ?_; rw [decide_eq_true (show checkP R2 = checkP R2 from rfl)]; refine D.asB ?_; refine D.done (fun us σ1 hle1 hfs => ?_)
    refine RS.ow ?_
    (repeat (first | refine zS ?_ | refine zR ?_ | refine zQ ?_ | refine zK ?_ | refine zI ?_ | refine zB ?_ | refine zE ?_)); refine RS.ret1 (v := .bool _) Tryz.func3 fun w hw => ?_
    exact ⟨rfl, hw.below⟩
  · obtain ⟨R2, e2⟩ : ∃ r, r = (R : RecD) := ⟨_, rfl⟩
    obtain ⟨F2, e3⟩ : ∃ r, r = (f : Fm) := ⟨_, rfl⟩
    have hsm2 : SmallR R2 := by subst e2; exact hsm
    have hrep3 : Rep.rep σ1 (rcV R2 F2) R2 := by subst e2; subst e3; exact hrep
    refine RS.to (K' := [rcW b17 R2 F2, rcW b8 raw f0]) ?_ ⟨fun h => by subst e2; subst e3; exact h⟩
    (repeat (first | refine RS.seq ?_ | refine RS.region ?_ | refine RS.skip ?_ | refine RS.inBlock ?_ | refine RS.block ?_ | refine RS.exit ?_)); refine RS.draw [.ex, .ex, .ex, .ex, .free, .free] [rcW b17 R2 F2, rcW b8 raw f0] ?_ (by kernel_rfl) (by kernel_rfl) (by infer_instance); refine D.ldA (rcV R2 F2) ?_
    refine D.callP ?_ (hc := fun _ _ w' hle _ hw => check_c _ R2 w' (Rep.mono hrep3 (PH.le_trans hle hw.imm)) hsm2)
    refine D.ldA (rcV R2 F2) ?_
    refine D.callP ?_ (hc := fun _ _ w' hle _ hw => checkD_x _ R2 w' (Rep.mono hrep3 (PH.le_trans hle hw.imm)) hsm2.2.2.1)
    refine D.eqI ?_; rw [decide_eq_true (show checkP R2 = checkP R2 from rfl)]; refine D.asB ?_; refine D.done (fun us σ1 hle1 hfs => ?_)
    refine RS.ow ?_
    (repeat (first | refine zS ?_ | refine zR ?_ | refine zQ ?_ | refine zK ?_ | refine zI ?_ | refine zB ?_ | refine zE ?_)); refine RS.ret1 (v := .bool _) Tryz.func3 fun w hw => ?_
    exact ⟨rfl, hw.below⟩
end Go.Proofs.YtaiofgmhlfccgaaGreatDoor
