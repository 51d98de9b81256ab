/- Contracts: a ledger's nodes. -/
import Derived.Test.YthnoaapghcadgaaDoorKeys
namespace Go.Proofs.YthnoaapghcadgaaDoor
open Go.JW Go.RowKit
section
variable {w0 : World} {M : Nat → Prop} {σ : PH} {K : List HP} {bl b1 b2 c1 c2 : Nat} {es1 es2 : Array MapEntry} {S : LedD}
theorem cloneN_c (v : Value) (l : List NodeD) (h : RepL σ v l) (hb : l.length ≤ 1000) (w : World) (hw : Sat w0 M σ K w) : Calls Tryd.prog 39 #[v] w (Ans w0 M σ K fun v' σ' => RepL σ' v' l) := by
  obtain ⟨a, c, rfl⟩ := h.form
  refine RS.enterK Tryd.func39 Tryd.ntmps39 rfl rfl hw ?_
  (repeat (first | refine RS.seq ?_ | refine RS.region ?_ | refine RS.regionQ ?_ (by kernel_rfl) (by kernel_rfl) | refine RS.skip ?_ | refine RS.inBlock ?_ | refine RS.block ?_ | refine RS.exit ?_)); refine asL ?_; refine LS.done ?_
  (repeat (first | refine RS.seq ?_ | refine RS.region ?_ | refine RS.regionQ ?_ (by kernel_rfl) (by kernel_rfl) | refine RS.skip ?_ | refine RS.inBlock ?_ | refine RS.block ?_ | refine RS.exit ?_)); refine mvL ?_; refine eqNilL ?_; refine LS.done ?_
  (repeat (first | refine RS.seq ?_ | refine RS.region ?_ | refine RS.regionQ ?_ (by kernel_rfl) (by kernel_rfl) | refine RS.skip ?_ | refine RS.inBlock ?_ | refine RS.block ?_ | refine RS.exit ?_))
  refine RS.cond (fun z => ?_) (fun z => ?_)
  · (repeat (first | refine RS.seq ?_ | refine RS.region ?_ | refine RS.regionQ ?_ (by kernel_rfl) (by kernel_rfl) | refine RS.skip ?_ | refine RS.inBlock ?_ | refine RS.block ?_ | refine RS.exit ?_)); refine asL ?_; refine LS.done ?_; (repeat (first | refine RS.seq ?_ | refine RS.region ?_ | refine RS.regionQ ?_ (by kernel_rfl) (by kernel_rfl) | refine RS.skip ?_ | refine RS.inBlock ?_ | refine RS.block ?_ | refine RS.exit ?_)); refine RS.ret1 (v := .slice _ _ _) Tryd.func39 fun w hw => ?_
    have hn : l = [] := Classical.byContradiction fun hn => by obtain ⟨b, o, e, _⟩ := h.addr hn; rw [e] at z; cases z
    subst hn
    exact ⟨_, σ, PH.le_refl _, RepL.nil _ _ _, rfl, hw⟩
  · (repeat (first | refine RS.seq ?_ | refine RS.region ?_ | refine RS.regionQ ?_ (by kernel_rfl) (by kernel_rfl) | refine RS.skip ?_ | refine RS.inBlock ?_ | refine RS.block ?_ | refine RS.exit ?_)); refine bldS [] [] (fun b5 => ?_); refine LS.zeroD 0 NodeD 33 (some ⟨b5, 0, none⟩) ?_; refine mvL ?_; refine appD (v := .slice (some ⟨b5, 0, none⟩) 0 0) (l' := l) (vy := .slice a l.length c) (fun w' hw => by rw [fromN_zero]; exact srcD hw TSlice.eq h (PH.le_refl _)) (fun v7 => ?_) (hb := by simp; omega) (hm := by simp; omega); refine as_ (v := v7) ?_; refine LS.done ?_
    (repeat (first | refine RS.seq ?_ | refine RS.region ?_ | refine RS.regionQ ?_ (by kernel_rfl) (by kernel_rfl) | refine RS.skip ?_ | refine RS.inBlock ?_ | refine RS.block ?_ | refine RS.exit ?_))
    refine RS.freeze0 (l := [] ++ l) v7 (fun σ' hle hr => ?_) (hl := by rw [List.nil_append]; omega)
    rw [List.nil_append] at hr
    obtain ⟨a7, c7, rfl⟩ := hr.form
    refine RS.ret1 (v := .slice _ _ _) Tryd.func39 fun w hw => ?_
    exact ⟨_, σ', hle, hr, rfl, hw.to ⟨fun h => h.tail⟩⟩
/-- A call of maps.Keys. -/
theorem keysM {P : Program} {ops : Array Oper} {f : FuncId} {R : Ending → World → Prop} {k : List Item} {n : Nat} {fr : Nat → Value} {rest : List Oper} {d : Nat} {ty : TypeId} {pos : String} {aft : Array Edge} {g it T : Nat} {xs : Array Operand} {ts : Array TypeId} {mb : Option Nat} [i : Fun P g]
    (hc : ∀ w, Calls P g #[.map mb] w fun e w' => e = .returned (.func (.func it) #[] #[.pointer (some ⟨w.heap.size, 0, none⟩)]) ∧ w' = w.alloc (.cells (List.toArray [.map mb]) T))
    (h : ∀ B, LS P false ops f R k rest n (upd fr d (.func (.func it) #[] #[.pointer (some ⟨B, 0, none⟩)])) w0 M σ (blk B (.cells (List.toArray [.map mb]) T (0, 0)) :: K)) (hx : xs.toList.map (ev n fr) = [.map mb] := by rfl) :
    LS P false ops f R k (⟨some d, .call ⟨.value (.func g), xs, ts⟩, ty, pos, aft, none⟩ :: rest) n fr w0 M σ K :=
  LS.enterW rfl rfl (fun w _ => exec_call i.eq hx w) fun w hw => (hc w).mono fun _ _ ⟨he, hs⟩ => ⟨_, σ, _, he, by subst hs; exact hw.alloc _, h _⟩
structure NodesOk (l : List (ByteArray × NodeD)) : Prop where
  nodup : (l.map (·.1)).Nodup
  key : ∀ p ∈ l, p.2.name = p.1
  fine : ∀ p ∈ l, nodeErr p.2 = 0
  few : l.length ≤ 8
theorem decode_w (s : ByteArray) (pos : Nat) : (Utf8.decode s pos).2 ≤ 4 := by
  unfold Utf8.decode
  simp only
  repeat' split
  all_goals simp
theorem runesAt_size (s : ByteArray) : ∀ b pos, s.size ≤ pos + b → s.size ≤ pos + 4 * (runesAt s b pos).length := by
  intro b
  induction b with
  | zero => intro pos h; omega
  | succ b ih =>
    intro pos h
    unfold runesAt
    split
    · rename_i hp
      have h1 := width_pos s pos hp
      have h2 := decode_w s pos
      have := ih (pos + (Utf8.decode s pos).2) (by omega)
      simp only [List.length_cons]; omega
    · omega
theorem name_size {s : ByteArray} (h : isName s = true) : s.size ≤ 32 := by
  simp only [isName, Bool.and_eq_true, decide_eq_true_eq] at h
  have := runesAt_size s s.size 0 (by omega)
  have h2 : (runesAt s s.size 0).length ≤ 8 := h.2.2
  omega
theorem fine_name {n : NodeD} (h : nodeErr n = 0) : isName n.name = true := by
  unfold nodeErr at h
  cases e : isName n.name with
  | true => rfl
  | false => rw [e] at h; simp at h
theorem fine_sets {n : NodeD} (h : nodeErr n = 0) : sizeOk n.cpu n.mem = true ∧ isSet n.marks = true ∧ isSet n.taints = true := by
  unfold nodeErr at h
  rw [fine_name h, if_neg (by simp)] at h
  cases e : sizeOk n.cpu n.mem with
  | false => rw [e] at h; simp at h
  | true =>
    rw [e, if_neg (by simp)] at h
    cases e1 : isSet n.marks <;> cases e2 : isSet n.taints <;> simp_all
theorem fine_small {n : NodeD} (h : nodeErr n = 0) : SmallN n := by
  obtain ⟨_, h1, h2⟩ := fine_sets h
  simp only [isSet, Bool.and_eq_true, decide_eq_true_eq] at h1 h2
  exact ⟨by omega, by omega⟩
theorem fine_cap {n : NodeD} (h : nodeErr n = 0) : 0 ≤ n.cpu ∧ n.cpu ≤ 1099511627776 ∧ 0 ≤ n.mem ∧ n.mem ≤ 1099511627776 := by
  obtain ⟨h1, _⟩ := fine_sets h
  simp only [sizeOk, size1, Bool.and_eq_true, decide_eq_true_eq] at h1
  omega
theorem NodesOk.size {l : List (ByteArray × NodeD)} (h : NodesOk l) : ∀ p ∈ l, p.1.size ≤ 1000 := fun p hp => by
  have := name_size (fine_name (h.fine p hp))
  rw [h.key p hp] at this; omega
theorem asg_mem {κ α : Type} [KeyT κ] : ∀ {l : List (κ × α)} {p : κ × α}, (l.map (·.1)).Nodup → p ∈ l → asg l p.1 = some p.2 := by
  intro l
  induction l with
  | nil => intro p _ h; simp at h
  | cons a l ih =>
    intro p hn hp
    rw [List.map_cons, List.nodup_cons] at hn
    simp only [asg]
    rcases List.mem_cons.1 hp with rfl | hp
    · rw [(KeyT.eqb_iff _ _).2 rfl]; rfl
    · have : KeyT.eqb p.1 a.1 = false := Bool.eq_false_iff.2 fun h => hn.1 (((KeyT.eqb_iff _ _).1 h) ▸ List.mem_map_of_mem hp)
      rw [this]; exact ih hn.2 hp
def nodesOf (S : LedD) : List NodeD := (sortK S.nodes).map (·.2)
theorem nodes_c (h1 : MapOk σ es1 c1 S.nodes) (hok : NodesOk S.nodes) (w : World) (hw : Sat w0 M σ (LK bl b1 b2 es1 c1 es2 c2 ++ K) w) :
    Calls Tryd.prog 22 #[.pointer (some ⟨bl, 0, none⟩)] w (Ans w0 M σ (LK bl b1 b2 es1 c1 es2 c2 ++ K) fun v σ' => RepL σ' v (nodesOf S)) := by
  refine RS.enterK Tryd.func22 Tryd.ntmps22 rfl rfl hw ?_
  refine RS.to (K' := blk bl (.cells (List.toArray [.map (some b1), .map (some b2)]) 55 (0, 0)) :: blk b1 (.map es1 c1) :: blk b2 (.map es2 c2) :: K) ?_ ⟨fun h => h⟩
  have hsl : (sortK S.nodes).length = S.nodes.length := sortK_len _
  have hf8 := hok.few
  (repeat (first | refine RS.seq ?_ | refine RS.region ?_ | refine RS.regionQ ?_ (by kernel_rfl) (by kernel_rfl) | refine RS.skip ?_ | refine RS.inBlock ?_ | refine RS.block ?_ | refine RS.exit ?_)); refine asL ?_; refine LS.done ?_
  (repeat (first | refine RS.seq ?_ | refine RS.region ?_ | refine RS.regionQ ?_ (by kernel_rfl) (by kernel_rfl) | refine RS.skip ?_ | refine RS.inBlock ?_ | refine RS.block ?_ | refine RS.exit ?_)); refine asL ?_; refine LS.done ?_
  refine RS.nilD 0 NodeD 33 ?_
  (repeat (first | refine RS.seq ?_ | refine RS.region ?_ | refine RS.regionQ ?_ (by kernel_rfl) (by kernel_rfl) | refine RS.skip ?_ | refine RS.inBlock ?_ | refine RS.block ?_ | refine RS.exit ?_)); refine mvP ?_; refine nilck ?_; refine fld ?_; refine ld1 (v := .map _) ?_
  refine keysM (fun w => mkeys_c _ w) (fun B => ?_)
  refine callT (fun v τ => RepL τ v ((sortK S.nodes).map (·.1))) (fun v11 τ1 σ1 hq1 hN1 hle1 hτ1 => ?_) (fun w' hw => sorted_c h1 hok.nodup hok.size (by omega) B b1 w' (hw.get (b := B)) (hw.get (b := b1)))
  obtain ⟨a11, c11, rfl⟩ := hq1.form
  have h11 := hq1.mono hτ1
  rw [List.length_map] at *
  refine lenL ?_; refine mvI ?_; refine LS.done ?_
  (repeat (first | refine RS.seq ?_ | refine RS.region ?_ | refine RS.regionQ ?_ (by kernel_rfl) (by kernel_rfl) | refine RS.skip ?_ | refine RS.inBlock ?_ | refine RS.block ?_ | refine RS.exit ?_))
  refine RS.loopF (X := Nat × Value × PH) 3 30 (fun x => x.1 ≤ (sortK S.nodes).length ∧ PH.le σ1 x.2.2) (fun x => [(3, x.2.1), (11, .slice a11 (sortK S.nodes).length c11), (12, .int .i64 (sortK S.nodes).length), (13, .int .i64 x.1)]) (fun x => x.2.2) (fun x => rowD 0 33 x.2.1 (((sortK S.nodes).take x.1).map (·.2)) :: blk bl (.cells (List.toArray [.map (some b1), .map (some b2)]) 55 (0, 0)) :: blk b1 (.map es1 c1) :: blk b2 (.map es2 c2) :: K) (fun x => (sortK S.nodes).length - x.1) (0, .slice none 0 0, σ1) ⟨by omega, PH.le_refl _⟩ ⟨rfl, rfl, rfl, rfl, trivial⟩ rfl ⟨fun h => h.tail⟩ ?_
  rintro ⟨k, v3, σ2⟩ g ⟨hk, hle2⟩ ih
  simp only at hk hle2 ih ⊢
  (repeat (first | refine RS.seq ?_ | refine RS.region ?_ | refine RS.regionQ ?_ (by kernel_rfl) (by kernel_rfl) | refine RS.skip ?_ | refine RS.inBlock ?_ | refine RS.block ?_ | refine RS.exit ?_)); refine ltI ?_; refine LS.done ?_
  (repeat (first | refine RS.seq ?_ | refine RS.region ?_ | refine RS.regionQ ?_ (by kernel_rfl) (by kernel_rfl) | refine RS.skip ?_ | refine RS.inBlock ?_ | refine RS.block ?_ | refine RS.exit ?_))
  by_cases hlt : k < (sortK S.nodes).length
  · refine RS.condT ?_ (h := by simp; omega)
    obtain ⟨ba, oa, rfl, hrow⟩ := h11.addr (List.ne_nil_of_length_pos (by rw [List.length_map]; omega))
    obtain ⟨hcell, _⟩ := (hrow.mono hle2).str k (by simpa using hlt)
    rw [List.getElem_map] at hcell
    have hmem : (sortK S.nodes)[k] ∈ S.nodes := mem_sortK.1 (List.getElem_mem _)
    obtain ⟨p, hp⟩ : ∃ p, p = (sortK S.nodes)[k] := ⟨_, rfl⟩
    rw [← hp] at hcell hmem
    have hget := asg_mem hok.nodup hmem
    obtain ⟨vs, vm, vt, v1, v2, vz, hv, ⟨a1, d1, rfl⟩, ⟨a2, d2, rfl⟩, hrn⟩ := look_n (h1.mono (PH.le_trans hle1 hle2)) p.1
    have hrep := hrn _ hget
    have hsucc : ((sortK S.nodes).take (k + 1)).map (·.2) = ((sortK S.nodes).take k).map (·.2) ++ [p.2] := by
      rw [List.take_add_one, List.getElem?_eq_getElem hlt, ← hp]; simp
    (repeat (first | refine RS.seq ?_ | refine RS.region ?_ | refine RS.regionQ ?_ (by kernel_rfl) (by kernel_rfl) | refine RS.skip ?_ | refine RS.inBlock ?_ | refine RS.block ?_ | refine RS.exit ?_)); refine idx (i := k) ?_; refine ldS hcell ?_; refine asS ?_; refine LS.done ?_
    (repeat (first | refine RS.seq ?_ | refine RS.region ?_ | refine RS.regionQ ?_ (by kernel_rfl) (by kernel_rfl) | refine RS.skip ?_ | refine RS.inBlock ?_ | refine RS.block ?_ | refine RS.exit ?_)); refine mv (v := v3) ?_; refine mvP ?_; refine nilck ?_; refine fld ?_; refine ld1 (v := .map _) ?_; refine mvS ?_; refine lk (bm := b1) p.1 (h1.mono (PH.le_trans hle1 hle2)) ?_; rw [hv]
    refine callT (fun v τ => RepA τ v p.2) (fun v24 τ3 σ3 hq3 hN3 hle3 hτ3 => ?_) (fun w' hw => nown_c _ p.2 w' (Rep.mono hrep hw.imm) (fine_small (hok.fine p hmem)))
    obtain ⟨cs24, rfl, hr24⟩ := hq3
    have hr240 := Rep.mono hr24 hτ3
    obtain ⟨vp, vb, rfl, _, _, _, hvp, hvb⟩ := hr24
    obtain ⟨ap, cp, rfl⟩ := hvp.form
    obtain ⟨ab, cb, rfl⟩ := hvb.form
    refine bldS [.agg (List.toArray (nodeC p.2 (.slice ap p.2.marks.length cp) (.slice ab p.2.taints.length cb)))] (nodeC p.2 (.slice ap p.2.marks.length cp) (.slice ab p.2.taints.length cb)) (fun b25 => ?_); refine appD (v := v3) (l' := [p.2]) (vy := .slice (some ⟨b25, 0, none⟩) 1 1) (fun w' hw => ⟨_, srcB hw TSlice.eq, CellsL.one_ (by rw [fromN_zero]; exact hr240)⟩) (fun v26 => ?_) (hb := by simp; omega) (hm := by simp; omega); refine as_ (v := v26) ?_; refine LS.done ?_
    (repeat (first | refine RS.seq ?_ | refine RS.region ?_ | refine RS.regionQ ?_ (by kernel_rfl) (by kernel_rfl) | refine RS.skip ?_ | refine RS.inBlock ?_ | refine RS.block ?_ | refine RS.exit ?_)); (first | refine addN ?_ | refine addI ?_); refine mvI ?_; refine LS.done ?_; (repeat (first | refine RS.seq ?_ | refine RS.region ?_ | refine RS.regionQ ?_ (by kernel_rfl) (by kernel_rfl) | refine RS.skip ?_ | refine RS.inBlock ?_ | refine RS.block ?_ | refine RS.exit ?_))
    refine ih (k + 1, v26, σ3) ⟨by omega, PH.le_trans hle2 hle3⟩ (by omega) ⟨rfl, rfl, rfl, rfl, trivial⟩ (by repeat (first | with_reducible exact Out.refl _ _ _ | exact Out.hv | refine Out.upd ?_ | refine Out.hvIn ?_)) ⟨fun h => ?_⟩ rfl
    simp only [hsucc]
    exact h.tail
  · refine RS.condF ?_ (h := by simp; omega)
    obtain rfl : k = (sortK S.nodes).length := by omega
    rw [List.take_length]
    (repeat (first | refine RS.seq ?_ | refine RS.region ?_ | refine RS.regionQ ?_ (by kernel_rfl) (by kernel_rfl) | refine RS.skip ?_ | refine RS.inBlock ?_ | refine RS.block ?_ | refine RS.exit ?_))
    refine LS.freeze0 (l := (sortK S.nodes).map (·.2)) v3 (fun σ3 hle3 hr3 => ?_) (hl := by rw [List.length_map]; omega)
    obtain ⟨a3, c3, rfl⟩ := hr3.form
    refine mvL ?_
    refine callA (fun v σ' => RepL σ' v ((sortK S.nodes).map (·.2))) (fun v29 σ4 hle4 hr4 => ?_) (hc := fun w' hw => cloneN_c _ _ hr3 (by rw [List.length_map]; omega) w' hw)
    obtain ⟨a29, c29, rfl⟩ := hr4.form
    refine asL ?_; refine LS.done ?_
    (repeat (first | refine RS.seq ?_ | refine RS.region ?_ | refine RS.regionQ ?_ (by kernel_rfl) (by kernel_rfl) | refine RS.skip ?_ | refine RS.inBlock ?_ | refine RS.block ?_ | refine RS.exit ?_)); refine RS.ret1 (v := .slice _ _ _) Tryd.func22 fun w hw => ?_
    exact ⟨_, σ4, PH.le_trans hle1 (PH.le_trans hle2 (PH.le_trans hle3 hle4)), hr4, rfl, hw⟩
end
end Go.Proofs.YthnoaapghcadgaaDoor
