/- Several texts as one; printed by merge.py. -/
import Derived.Test.YthnoaapghcadgaaGreatDoorPack8
/- Rules: loads out of a row told by data, where it stands. -/
namespace Go.JW
section
variable {w0 w : World} {M : Nat → Prop} {σ : PH} {K K' : List HP} {α : Type} {ri : Rep α} {N e : Nat} {l : List α} {put : HP → List HP}
theorem Sat.rowCell {b m cap : Nat} (hw : Sat w0 M σ K w) (hf : FindD (.slice (some ⟨b, 0, none⟩) m cap) K α ri N e l put K') (i : Nat) {x : α} (hi : l[i]? = some x) :
    ∃ c, Rep.rep (fromN N σ) c x ∧ c.length = Rep.sz α ∧ ∀ j, j < Rep.sz α → w.cell? ⟨b, i * Rep.sz α + j, none⟩ = c[j]? := by
  obtain ⟨hil, hx⟩ := List.getElem?_eq_some_iff.1 hi
  subst hx
  obtain ⟨F1, ⟨cs, hc, h1, h1c, a, cap', e1, h2, h3, h4⟩, h5, h6⟩ := hf.get hw.sep
  rcases h4 with ⟨h8, _⟩ | ⟨b', c0, e2, g1, g2, g3, g4⟩
  · omega
  · injection e1 with e3 _ _
    rw [e2] at e3
    injection e3 with e3
    injection e3 with e3 _ _
    subst e3
    obtain ⟨c, k1, k2⟩ := hc.at_ i hil
    refine ⟨c, k1, Rep.len k1, fun j hj => ?_⟩
    have g2 : w.heap[b]? = some (.cells c0.toArray e (0, 0)) := g2
    rw [cell_blk g2, ← k2 j hj, ← g4, List.getElem?_take, if_pos]
    have : (i + 1) * Rep.sz α ≤ l.length * Rep.sz α := Nat.mul_le_mul_right _ hil
    rw [Nat.succ_mul] at this; omega
end
section
variable {P : Program} {q : Bool} {ops : Array Oper} {f : FuncId} {R : Ending → World → Prop} {k : List Item} {n : Nat} {fr : Nat → Value} {w0 : World} {M : Nat → Prop} {σ : PH} {K K' : List HP}
variable {rest : List Oper} {d : Nat} {ty : TypeId} {pos : String} {aft : Array Edge} {x y z : Operand} {t t' : TypeId}
variable {α : Type} {ri : Rep α} {N e : Nat} {l : List α} {put : HP → List HP}
theorem RS.addrD (v : Value) (h : ∀ b cap, v = .slice (some ⟨b, 0, none⟩) l.length cap → RS P f R k n fr w0 M σ K) (hf : FindD v K α ri N e l put K' := by infer_instance) (hn : 0 < l.length := by omega) : RS P f R k n fr w0 M σ K :=
  ⟨fun w hw => by
    obtain ⟨F1, ⟨cs, hc, h1, h1c, a, cap, e1, h2, h3, h4⟩, h5, h6⟩ := hf.get hw.sep
    rcases h4 with ⟨h8, _⟩ | ⟨b, c0, rfl, g1, g2, g3, g4⟩
    · omega
    · exact (h b cap e1).out w hw⟩
theorem RS.repD (v : Value) (i : Nat) {xx : α} (hi : l[i]? = some xx) (h : ∀ c, Rep.rep (fromN N σ) c xx → RS P f R k n fr w0 M σ K) (hf : FindD v K α ri N e l put K' := by infer_instance) : RS P f R k n fr w0 M σ K :=
  ⟨fun w hw => by
    obtain ⟨hil, hx⟩ := List.getElem?_eq_some_iff.1 hi
    subst hx
    obtain ⟨cs, hc, _⟩ := hw.openD hf
    obtain ⟨c, k1, _⟩ := hc.at_ i hil
    exact (h c k1).out w hw⟩
theorem ldD (v : Value) (i j : Nat) {b m cap off : Nat} {u : Value} {xx : α} [ht : TOne P t] (hi : l[i]? = some xx) (hu : ∀ σ c, Rep.rep σ c xx → nth c j = some u) (h : LS P q ops f R k rest n (upd fr d u) w0 M σ K)
    (hx : ev n fr x = .pointer (some ⟨b, off, none⟩) := by rfl) (ho : off = i * Rep.sz α + j := by first | rfl | exact Nat.zero_add _ | exact congrArg (fun q => q + _) (Nat.zero_add _)) (hv : v = .slice (some ⟨b, 0, none⟩) m cap := by rfl) (hf : FindD v K α ri N e l put K' := by infer_instance) (hj : j < Rep.sz α := by decide) :
    LS P q ops f R k (⟨some d, .load t x, ty, pos, aft, none⟩ :: rest) n fr w0 M σ K :=
  LS.val rfl rfl (fun w hw => by
    subst hv
    obtain ⟨c, h1, _, h2⟩ := hw.rowCell hf i hi
    have h3 := hu _ c h1
    rw [nth_eq] at h3
    have := run_loadVar1 (P := P) (w := w) (b := b) ht.agg off (by subst ho; exact (h2 j hj).trans h3)
    simp [execOp, hx, Instr.loadAt, Instr.sureAddr, this]) h
theorem ldDA (v : Value) (i j : Nat) {b m cap s off : Nat} (vs : List Value) {xx : α} [ht : TAgg P t] [hs : TSz P t s] (hi : l[i]? = some xx) (hu : ∀ σ c, Rep.rep σ c xx → takeAt c j s = some vs) (h : LS P q ops f R k rest n (upd fr d (.agg vs.toArray)) w0 M σ K)
    (hx : ev n fr x = .pointer (some ⟨b, off, none⟩) := by rfl) (ho : off = i * Rep.sz α + j := by first | rfl | exact Nat.zero_add _ | exact congrArg (fun q => q + _) (Nat.zero_add _)) (hv : v = .slice (some ⟨b, 0, none⟩) m cap := by rfl) (hf : FindD v K α ri N e l put K' := by infer_instance) (hj : j + s ≤ Rep.sz α := by decide) :
    LS P q ops f R k (⟨some d, .load t x, ty, pos, aft, none⟩ :: rest) n fr w0 M σ K :=
  LS.val rfl rfl (fun w hw => by
    subst hv
    obtain ⟨c, h1, _, h2⟩ := hw.rowCell hf i hi
    obtain ⟨hl, hc⟩ := takeAt_spec _ _ _ _ (hu _ c h1)
    subst ho
    have := run_loadVarA (P := P) (w := w) (b := b) ht.agg hs.eq (i * Rep.sz α + j) hl (fun jj hjj => by rw [Nat.add_assoc, h2 (j + jj) (by omega)]; exact hc jj hjj)
    simp [execOp, hx, Instr.loadAt, Instr.sureAddr, this]) h
variable {H : HS} {O : List (Nat × Obj)} {Kf : Us → List HP} {Kb : List HP} {E : List Nat} {tags : List Tag}
theorem D.ldD (v : Value) (i j : Nat) {b m cap off : Nat} {u : Value} {xx : α} [ht : TOne P t] (hi : l[i]? = some xx) (hu : ∀ σ c, Rep.rep σ c xx → nth c j = some u) (h : LD P f R k n w0 M σ Kb rest tags ⟨upd fr d u, H, O, Kf, E, false⟩)
    (hx : ∀ us, ev n (fill fr H us) x = .pointer (some ⟨b, off, none⟩) := by intro _; rfl) (ho : off = i * Rep.sz α + j := by first | rfl | exact Nat.zero_add _ | exact congrArg (fun q => q + _) (Nat.zero_add _)) (hv : v = .slice (some ⟨b, 0, none⟩) m cap := by rfl) (hf : FindD v Kb α ri N e l put K' := by infer_instance) (hj : j < Rep.sz α := by decide) :
    LD P f R k n w0 M σ Kb (⟨some d, .load t x, ty, pos, aft, none⟩ :: rest) (.ex :: tags) ⟨fr, H, O, Kf, E, false⟩ :=
  D.ex h fun us σ' w hle _ hw => by
    subst hv
    obtain ⟨c, h1, _, h2⟩ := hw.rowCell hf i hi
    have h3 := hu _ c h1
    rw [nth_eq] at h3
    have := run_loadVar1 (P := P) (w := w) (b := b) ht.agg off (by subst ho; exact (h2 j hj).trans h3)
    simp [execOp, hx us, Instr.loadAt, Instr.sureAddr, this]
theorem D.ldDA (v : Value) (i j : Nat) {b m cap s off : Nat} (vs : List Value) {xx : α} [ht : TAgg P t] [hs : TSz P t s] (hi : l[i]? = some xx) (hu : ∀ σ c, Rep.rep σ c xx → takeAt c j s = some vs) (h : LD P f R k n w0 M σ Kb rest tags ⟨upd fr d (.agg vs.toArray), H, O, Kf, E, false⟩)
    (hx : ∀ us, ev n (fill fr H us) x = .pointer (some ⟨b, off, none⟩) := by intro _; rfl) (ho : off = i * Rep.sz α + j := by first | rfl | exact Nat.zero_add _ | exact congrArg (fun q => q + _) (Nat.zero_add _)) (hv : v = .slice (some ⟨b, 0, none⟩) m cap := by rfl) (hf : FindD v Kb α ri N e l put K' := by infer_instance) (hj : j + s ≤ Rep.sz α := by decide) :
    LD P f R k n w0 M σ Kb (⟨some d, .load t x, ty, pos, aft, none⟩ :: rest) (.ex :: tags) ⟨fr, H, O, Kf, E, false⟩ :=
  D.ex h fun us σ' w hle _ hw => by
    subst hv
    obtain ⟨c, h1, _, h2⟩ := hw.rowCell hf i hi
    obtain ⟨hl, hc⟩ := takeAt_spec _ _ _ _ (hu _ c h1)
    subst ho
    have := run_loadVarA (P := P) (w := w) (b := b) ht.agg hs.eq (i * Rep.sz α + j) hl (fun jj hjj => by rw [Nat.add_assoc, h2 (j + jj) (by omega)]; exact hc jj hjj)
    simp [execOp, hx us, Instr.loadAt, Instr.sureAddr, this]
end
end Go.JW
namespace Go.Proofs.YthnoaapghcadgaaGreatDoor
open Go.JW Go.RowKit
theorem plAt {p : PlaceD} (j : Nat) {u : Value} (h : nth (placeC p) j = some u) : ∀ σ c, Rep.rep σ c p → nth c j = some u := fun _ c hc => by rw [hc.1]; exact h
theorem plTake {p : PlaceD} {j s : Nat} {vs : List Value} (h : takeAt (placeC p) j s = some vs) : ∀ σ c, Rep.rep σ c p → takeAt c j s = some vs := fun _ c hc => by rw [hc.1]; exact h
end Go.Proofs.YthnoaapghcadgaaGreatDoor
/- Plain: what holds of where all pods of a gang go (no program in sight). -/
namespace Go.Proofs.YthnoaapghcadgaaGreatDoor
open Go.JW Go.RowKit
theorem all_each {S : LedD} {mode : Int} : ∀ {ps : List PodD} {own out : List PlaceD}, allP S mode ps own = some out → ∃ r, out = own ++ r ∧ r.length = ps.length ∧ ∀ i (h : i < ps.length) (h' : i < r.length), spotP S (own ++ r.take i) mode ps[i] = some r[i] := by
  intro ps
  induction ps with
  | nil => intro own out h; simp only [allP, Option.some.injEq] at h; exact ⟨[], by simp [h], rfl, fun i h => by simp at h⟩
  | cons p ps ih =>
    intro own out h
    simp only [allP] at h
    rcases opt_cases (spotP S own mode p) with e | ⟨x, e⟩
    · rw [e] at h; cases h
    · rw [e] at h
      obtain ⟨r, h1, h2, h3⟩ := ih h
      refine ⟨x :: r, by rw [h1]; simp, by simp [h2], fun i hi hi' => ?_⟩
      cases i with
      | zero => simpa using e
      | succ i =>
        have := h3 i (by simpa using hi) (by simpa using hi')
        simpa using this
/-- What is told of each place. -/
theorem all_fits {S : LedD} {mode : Int} {ps : List PodD} {out : List PlaceD} (h : allP S mode ps [] = some out) : out.length = ps.length ∧ ∀ i (h : i < ps.length) (h' : i < out.length),
    ∃ n ∈ nodesOf S, n.closed = false ∧ allIn ps[i].picks n.marks = true ∧ allIn n.taints ps[i].bears = true ∧ out[i] = ⟨ps[i].name, n.name, ps[i].cpu, ps[i].mem, ps[i].alone⟩ ∧ ∀ j (hj : j < i), out[j].node = out[i].node → ¬ (out[j].alone = true ∨ out[i].alone = true) := by
  obtain ⟨r, h1, h2, h3⟩ := all_each h
  rw [List.nil_append] at h1
  subst h1
  refine ⟨h2, fun i hi hi' => ?_⟩
  obtain ⟨n, hn, hm, hx⟩ := spot_some (h3 i hi hi')
  rw [List.nil_append] at hm
  obtain ⟨w1, w2, w3, _, w5, w6⟩ := whyP_zero (of_decide_eq_true hm)
  refine ⟨n, hn, w1, w2, w3, hx, fun j hj hjn => ?_⟩
  have hmem : out[j] ∈ nearP (out.take i) n.name := by
    refine List.mem_filter.2 ⟨?_, decide_eq_true (by rw [hjn, hx])⟩
    have : out[j] = (out.take i)[j]'(by rw [List.length_take]; omega) := by simp
    rw [this]; exact List.getElem_mem _
  rintro (ha | ha)
  · rw [List.any_eq_false] at w6
    exact w6 _ hmem ha
  · refine w5 ⟨by rw [hx] at ha; exact ha, List.length_pos_iff.2 (List.ne_nil_of_mem hmem)⟩
theorem all_none {S : LedD} {mode : Int} {kk : Nat} (hi : LedInv S kk) (hk : kk ≤ 1000000) {p : PodD} (hp : ∀ own, OwnOk S own → spotP S own mode p = none) : ∀ {ps : List PodD} {own : List PlaceD}, OwnOk S own → p ∈ ps → allP S mode ps own = none := by
  intro ps
  induction ps with
  | nil => intro own _ h; cases h
  | cons x ps ih =>
    intro own ho h
    simp only [allP]
    rcases opt_cases (spotP S own mode x) with e | ⟨y, e⟩
    · rw [e]
    · rw [e]
      rcases List.mem_cons.1 h with rfl | h
      · rw [hp own ho] at e; cases e
      · exact ih (spot_ok hi hk ho e) h
theorem spot_none_of {S : LedD} {own : List PlaceD} {mode : Int} {p : PodD} (h : ∀ n ∈ nodesOf S, mayP S own p n = false) : spotP S own mode p = none :=
  spot_none.2 (List.filter_eq_nil_iff.2 fun n hn => by rw [h n hn]; simp)
/-! the nodes that Both puts -/
theorem setN_mem {n : Int} {s : ByteArray} : ∀ {k}, k ≤ 4 → s ∈ setN n k → s ∈ marks4 := by
  intro k
  induction k with
  | zero => intro _ h; cases h
  | succ k ih =>
    intro hk h
    simp only [setN, List.mem_append] at h
    rcases h with h | h
    · exact ih (by omega) h
    · split at h
      · rw [List.mem_singleton] at h
        have h4 : marks4.length = 4 := rfl
        rw [h, getD_of (by omega)]; exact List.getElem_mem _
      · cases h
theorem bothN_all {ns : List Int} {P : NodeD → Prop} (h : ∀ i x, P (bothNode i x)) : ∀ k, ∀ p ∈ bothN ns k, P p.2 := by
  intro k
  induction k with
  | zero => intro p hp; cases hp
  | succ k ih =>
    intro p hp
    simp only [bothN] at hp
    unfold putN at hp
    split at hp
    · rcases mem_aset hp with hp | rfl
      · exact ih p hp
      · exact h _ _
    · exact ih p hp
theorem bothT_nodes (ns ms : List Int) : ∀ k, (bothT ns ms k).nodes = bothN ns (min 6 ns.length) := by
  intro k
  induction k with
  | zero => rfl
  | succ k ih => exact ih
theorem bothOf_all {ns ms : List Int} {P : NodeD → Prop} (h : ∀ i x, P (bothNode i x)) : ∀ n ∈ nodesOf (bothOf ns ms), P n := by
  intro n hn
  obtain ⟨p, hp, rfl⟩ := List.mem_map.1 hn
  have h1 := mem_sortK.1 hp
  unfold bothOf at h1
  rw [bothT_nodes] at h1
  exact bothN_all h _ p h1
theorem bothOf_nil (ns : List Int) : (bothOf ns []).taken = [] := rfl
end Go.Proofs.YthnoaapghcadgaaGreatDoor
/- Contract: the document's answer of where a gang goes. -/
namespace Go.Proofs.YthnoaapghcadgaaGreatDoor
open Go.JW Go.RowKit
section
variable {w0 w : World} {M : Nat → Prop} {σ : PH} {K : List HP} {br : Nat} {S : LedD}
theorem rpack_s (g : Int) (hg : I64 g) (pods : List PodD) (vP : Value) (mode : Int) {kk : Nat} (hi : LedInv S kk) (hk : kk ≤ 1000000) (hlS : S.taken.length ≤ 1000) (hl : pods.length ≤ 800) (hp' : RepL σ vP pods) (hw : Sat w0 M σ (refHP br S :: K) w) :
    Calls Tryz.prog 14 #[.pointer (some ⟨br, 0, none⟩), .int .i64 g, vP, .int .i64 mode] w fun e w' => ∃ (v : Value) (σ' : PH), e = .returned (.tuple #[v, .int .i64 (packE S g pods mode)]) ∧ PH.le σ σ' ∧ RepL σ' v (packL S g pods mode) ∧ Sat w0 M σ' (refHP br (packS S g pods mode) :: K) w' := by
  obtain ⟨apo, cpo, rfl⟩ := hp'.form
  refine RS.enterK Tryz.func14 Tryz.ntmps14 rfl rfl hw ?_
  (repeat (first | refine RS.seq ?_ | refine RS.region ?_ | refine RS.regionQ ?_ (by kernel_rfl) (by kernel_rfl) | refine RS.skip ?_ | refine RS.inBlock ?_ | refine RS.block ?_ | refine RS.exit ?_)); refine asL ?_; refine asI ?_; refine LS.done ?_
  (repeat (first | refine RS.seq ?_ | refine RS.region ?_ | refine RS.regionQ ?_ (by kernel_rfl) (by kernel_rfl) | refine RS.skip ?_ | refine RS.inBlock ?_ | refine RS.block ?_ | refine RS.exit ?_)); refine mvP ?_; refine mvI ?_
  refine rplacesL g hi hlS (fun v23 σ1 hle1 hr23 => ?_)
  obtain ⟨a23, c23, rfl⟩ := hr23.form
  refine lenL ?_; refine gtI ?_; refine LS.done ?_
  (repeat (first | refine RS.seq ?_ | refine RS.region ?_ | refine RS.skip ?_ | refine RS.inBlock ?_ | refine RS.block ?_ | refine RS.exit ?_))
  refine RS.cond (fun z => ?_) (fun z => ?_)
  · have z : 0 < (tk S.taken g).length := by have := of_decide_eq_true z; omega
    have e : packE S g pods mode = 4 := by rw [packE, if_pos z]
    (repeat (first | refine RS.seq ?_ | refine RS.region ?_ | refine RS.regionQ ?_ (by kernel_rfl) (by kernel_rfl) | refine RS.skip ?_ | refine RS.inBlock ?_ | refine RS.block ?_ | refine RS.exit ?_)); refine asL ?_; refine asI ?_; refine LS.done ?_; (repeat (first | refine RS.seq ?_ | refine RS.region ?_ | refine RS.regionQ ?_ (by kernel_rfl) (by kernel_rfl) | refine RS.skip ?_ | refine RS.inBlock ?_ | refine RS.block ?_ | refine RS.exit ?_)); refine RS.ret2 (v := .slice _ _ _) (v' := .int _ _) Tryz.func14 fun w hw => ?_
    exact ⟨.slice none 0 0, σ1, by rw [e], hle1, by rw [packL, if_pos z]; exact RepL.nil _ _ _, by rw [packS, if_neg (by rw [e]; decide)]; exact hw⟩
  have z1 : ¬ 0 < (tk S.taken g).length := by have := of_decide_eq_false z; omega
  clear z
  (repeat (first | refine RS.seq ?_ | refine RS.region ?_ | refine RS.regionQ ?_ (by kernel_rfl) (by kernel_rfl) | refine RS.skip ?_ | refine RS.inBlock ?_ | refine RS.block ?_ | refine RS.exit ?_)); refine mvL ?_; refine lenL ?_; refine eqI ?_; refine LS.done ?_
  (repeat (first | refine RS.seq ?_ | refine RS.region ?_ | refine RS.skip ?_ | refine RS.inBlock ?_ | refine RS.block ?_ | refine RS.exit ?_))
  refine RS.cond (fun z => ?_) (fun z => ?_)
  · have z : pods.length = 0 := by have := of_decide_eq_true z; omega
    have e : packE S g pods mode = 3 := by rw [packE, if_neg z1, if_pos z]
    (repeat (first | refine RS.seq ?_ | refine RS.region ?_ | refine RS.regionQ ?_ (by kernel_rfl) (by kernel_rfl) | refine RS.skip ?_ | refine RS.inBlock ?_ | refine RS.block ?_ | refine RS.exit ?_)); refine asL ?_; refine asI ?_; refine LS.done ?_; (repeat (first | refine RS.seq ?_ | refine RS.region ?_ | refine RS.regionQ ?_ (by kernel_rfl) (by kernel_rfl) | refine RS.skip ?_ | refine RS.inBlock ?_ | refine RS.block ?_ | refine RS.exit ?_)); refine RS.ret2 (v := .slice _ _ _) (v' := .int _ _) Tryz.func14 fun w hw => ?_
    exact ⟨.slice none 0 0, σ1, by rw [e], hle1, by rw [packL, if_neg z1, if_pos z]; exact RepL.nil _ _ _, by rw [packS, if_neg (by rw [e]; decide)]; exact hw⟩
  have z2 : ¬ pods.length = 0 := by have := of_decide_eq_false z; omega
  clear z
  have eE : packE S g pods mode = allE (allP S mode pods []) := by rw [packE, if_neg z1, if_neg z2]; rfl
  have eL : packL S g pods mode = (allP S mode pods []).getD [] := by rw [packL, if_neg z1, if_neg z2]
  (repeat (first | refine RS.seq ?_ | refine RS.region ?_ | refine RS.regionQ ?_ (by kernel_rfl) (by kernel_rfl) | refine RS.skip ?_ | refine RS.inBlock ?_ | refine RS.block ?_ | refine RS.exit ?_)); refine mvP ?_
  refine rnodesL hi hlS (fun v30 σ2 hle2 hr30 => ?_)
  obtain ⟨an, cn, rfl⟩ := hr30.form
  refine asL ?_; refine LS.done ?_
  have hN8 := hi.nodes_len
  obtain ⟨N, hN⟩ : ∃ N, N = nodesOf S := ⟨_, rfl⟩
  have hmemN : ∀ n ∈ N, asg S.nodes n.name = some n ∧ nodeErr n = 0 := by rw [hN]; exact fun n hn => node_asg hi hn
  rw [← hN] at hr30 hN8 ⊢
  (repeat (first | refine RS.seq ?_ | refine RS.region ?_ | refine RS.regionQ ?_ (by kernel_rfl) (by kernel_rfl) | refine RS.skip ?_ | refine RS.inBlock ?_ | refine RS.block ?_ | refine RS.exit ?_)); refine asL ?_; refine LS.done ?_
  refine RS.nilD 0 PlaceD 49 ?_
  (repeat (first | refine RS.seq ?_ | refine RS.region ?_ | refine RS.regionQ ?_ (by kernel_rfl) (by kernel_rfl) | refine RS.skip ?_ | refine RS.inBlock ?_ | refine RS.block ?_ | refine RS.exit ?_)); refine asI ?_; refine LS.done ?_
  (repeat (first | refine RS.seq ?_ | refine RS.region ?_ | refine RS.regionQ ?_ (by kernel_rfl) (by kernel_rfl) | refine RS.skip ?_ | refine RS.inBlock ?_ | refine RS.block ?_ | refine RS.exit ?_))
  refine RS.loopF (X := Nat × Value × List PlaceD × PH) 11 154 (fun x => x.1 ≤ pods.length ∧ OwnOk S x.2.2.1 ∧ x.2.2.1.length = x.1 ∧ allP S mode pods [] = allP S mode (pods.drop x.1) x.2.2.1 ∧ PH.le σ2 x.2.2.2) (fun x => [(11, x.2.1), (12, .int .i64 x.1)]) (fun x => x.2.2.2) (fun x => rowD 0 49 x.2.1 x.2.2.1 :: refHP br S :: K) (fun x => pods.length - x.1) (0, .slice none 0 0, [], σ2) ⟨Nat.zero_le _, OwnOk.nil hi, rfl, rfl, PH.le_refl _⟩ ⟨rfl, rfl, trivial⟩ rfl ⟨fun h => h⟩ ?_
  rintro ⟨k, vO, own, σ3⟩ g3 ⟨(hk1 : k ≤ pods.length), (ho : OwnOk S own), (hol : own.length = k), hall, (hle3 : PH.le σ2 σ3)⟩ ih
  dsimp only at hall ⊢
  have hle03 := PH.le_trans hle1 (PH.le_trans hle2 hle3)
  refine RS.formD (l := own) vO (fun aO cO eO _ => ?_); subst eO
  (repeat (first | refine RS.seq ?_ | refine RS.region ?_ | refine RS.regionQ ?_ (by kernel_rfl) (by kernel_rfl) | refine RS.skip ?_ | refine RS.inBlock ?_ | refine RS.block ?_ | refine RS.exit ?_)); refine mvI ?_; refine mvL ?_; refine lenL ?_; refine ltI ?_; refine LS.done ?_
  (repeat (first | refine RS.seq ?_ | refine RS.region ?_ | refine RS.regionQ ?_ (by kernel_rfl) (by kernel_rfl) | refine RS.skip ?_ | refine RS.inBlock ?_ | refine RS.block ?_ | refine RS.exit ?_))
  by_cases hlt : k < pods.length
  · refine RS.condT ?_ (h := by simp; omega)
    obtain ⟨b, o, rfl, hrow⟩ := hp'.addr (List.ne_nil_of_length_pos (by omega))
    obtain ⟨vs, hc, hrp⟩ := hrow k hlt
    have hdr : pods.drop k = pods[k] :: pods.drop (k + 1) := List.drop_eq_getElem_cons hlt
    obtain ⟨p, hpd⟩ : ∃ p, p = pods[k] := ⟨_, rfl⟩
    rw [← hpd] at hrp hdr
    obtain ⟨vp, vb, rfl, hpn, hpS, hpc, hpm, hv1, hv2⟩ := hrp
    obtain ⟨a1, c1, rfl⟩ := hv1.form
    obtain ⟨a2, c2, rfl⟩ := hv2.form
    have hrp0 : Rep.rep σ (podC p (.slice a1 p.picks.length c1) (.slice a2 p.bears.length c2)) p := ⟨_, _, rfl, hpn, hpS, hpc, hpm, hv1, hv2⟩
    have hc : ∀ j, j < 7 → σ.cell b (o + k * 7 + j) = (podC p (.slice a1 p.picks.length c1) (.slice a2 p.bears.length c2))[j]? := hc
    rw [hdr] at hall
    simp only [allP] at hall
    (repeat (first | refine RS.seq ?_ | refine RS.region ?_ | refine RS.regionQ ?_ (by kernel_rfl) (by kernel_rfl) | refine RS.skip ?_ | refine RS.inBlock ?_ | refine RS.block ?_ | refine RS.exit ?_)); refine asL ?_; refine LS.done ?_
    refine RS.nilD 0 ByteArray 9 ?_
    (repeat (first | refine RS.seq ?_ | refine RS.region ?_ | refine RS.regionQ ?_ (by kernel_rfl) (by kernel_rfl) | refine RS.skip ?_ | refine RS.inBlock ?_ | refine RS.block ?_ | refine RS.exit ?_)); refine asL ?_; refine LS.done ?_
    refine RS.nilD 0 Int 3 ?_
    (repeat (first | refine RS.seq ?_ | refine RS.region ?_ | refine RS.regionQ ?_ (by kernel_rfl) (by kernel_rfl) | refine RS.skip ?_ | refine RS.inBlock ?_ | refine RS.block ?_ | refine RS.exit ?_)); refine asI ?_; refine LS.done ?_
    (repeat (first | refine RS.seq ?_ | refine RS.region ?_ | refine RS.regionQ ?_ (by kernel_rfl) (by kernel_rfl) | refine RS.skip ?_ | refine RS.inBlock ?_ | refine RS.block ?_ | refine RS.exit ?_))
    refine RS.loopF (X := Nat × Value × Value × PH) 13 126 (fun x => x.1 ≤ N.length ∧ PH.le σ3 x.2.2.2) (fun x => [(13, x.2.1), (14, x.2.2.1), (15, .int .i64 x.1)]) (fun x => x.2.2.2)
      (fun x => rowD 0 3 x.2.2.1 ((candN S own p (N.take x.1)).map (goodP S own mode p)) :: rowD 0 9 x.2.1 ((candN S own p (N.take x.1)).map (fun x : NodeD => x.name)) :: rowD 0 49 (.slice aO own.length cO) own :: refHP br S :: K) (fun x => N.length - x.1) (0, .slice none 0 0, .slice none 0 0, σ3) ⟨Nat.zero_le _, PH.le_refl _⟩ ⟨rfl, rfl, rfl, trivial⟩ rfl ⟨fun h => h⟩ ?_
    rintro ⟨j, v1, v2, σ4⟩ g4 ⟨(hj1 : j ≤ N.length), (hle4 : PH.le σ3 σ4)⟩ ih2
    dsimp only
    have hle04 := PH.le_trans hle03 hle4
    have hcl : (candN S own p (N.take j)).length ≤ j := by
      have := List.length_filter_le (mayP S own p) (N.take j)
      rw [List.length_take] at this
      unfold candN; omega
    (repeat (first | refine RS.seq ?_ | refine RS.region ?_ | refine RS.regionQ ?_ (by kernel_rfl) (by kernel_rfl) | refine RS.skip ?_ | refine RS.inBlock ?_ | refine RS.block ?_ | refine RS.exit ?_)); refine mvI ?_; refine mvL ?_; refine lenL ?_; refine ltI ?_; refine LS.done ?_
    (repeat (first | refine RS.seq ?_ | refine RS.region ?_ | refine RS.regionQ ?_ (by kernel_rfl) (by kernel_rfl) | refine RS.skip ?_ | refine RS.inBlock ?_ | refine RS.block ?_ | refine RS.exit ?_))
    by_cases hltj : j < N.length
    · refine RS.condT ?_ (h := by simp; omega)
      obtain ⟨bn, on, rfl, hrown⟩ := hr30.addr (List.ne_nil_of_length_pos (by omega))
      obtain ⟨vsn, hcn, hrn⟩ := hrown j hltj
      have hct := cand_take (S := S) (own := own) (p := p) hltj
      obtain ⟨hasg, herr⟩ := hmemN N[j] (List.getElem_mem _)
      obtain ⟨n, hn⟩ : ∃ n, n = N[j] := ⟨_, rfl⟩
      rw [← hn] at hrn hct hasg herr
      obtain ⟨vm, vt, rfl, hn1, hn2, hn3, hn4, hn5⟩ := hrn
      obtain ⟨a3, c3, rfl⟩ := hn4.form
      obtain ⟨a4, c4, rfl⟩ := hn5.form
      have hrn0 : Rep.rep σ2 (nodeC n (.slice a3 n.marks.length c3) (.slice a4 n.taints.length c4)) n := ⟨_, _, rfl, hn1, hn2, hn3, hn4, hn5⟩
      have hcn : ∀ i, i < 6 → σ2.cell bn (on + j * 6 + i) = (nodeC n (.slice a3 n.marks.length c3) (.slice a4 n.taints.length c4))[i]? := hcn
      have hle24 := PH.le_trans hle3 hle4
      have hname : σ4.cell bn (on + j * 6 + 0) = some (.string n.name) := PH.cell_mono hle24 (hcn 0 (by decide))
      have hcap := fine_cap herr
      have hin := uC_in hi hk ho n.name
      have hup := used_pos (hi.takenOk hk) n.name
      have hum := (hi.takenOk hk).most n.name
      have hcnt := hi.count n.name
      have hun : 0 ≤ usedN S.taken n.name := by
        have := usedF_in (f := fun _ => 1) (H := S.taken) (nm := n.name) (fun _ _ _ _ => by simp) S.taken.length
        rw [List.take_length] at this; exact this.1
      obtain ⟨nm, hnm⟩ : ∃ nm, nm = n.name := ⟨_, rfl⟩
      have hpC := fun i => needF_in (f := (·.cpu)) (nm := nm) (ps := own) (fun p hp => (ho.right p hp).1) i
      have hpM := fun i => needF_in (f := (·.mem)) (nm := nm) (ps := own) (fun p hp => (ho.right p hp).2) i
      have hpN := fun i => needF_in (f := fun _ => 1) (nm := nm) (ps := own) (fun p hp => by simp) i
      have hnn := needN_len nm own
      rw [← hnm] at hname hin hup hum hcnt hun
      (repeat (first | refine RS.seq ?_ | refine RS.region ?_ | refine RS.regionQ ?_ (by kernel_rfl) (by kernel_rfl) | refine RS.skip ?_ | refine RS.inBlock ?_ | refine RS.block ?_ | refine RS.exit ?_)); refine mvP ?_; refine mvL ?_; refine mvI ?_; refine idx (i := j) ?_; refine fld ?_; refine ldS hname ?_
      refine rusedL nm hi hk hlS ?_
      refine mvT ?_; refine extr (v := _) ?_; refine extr (v := .int _ _) ?_; refine alloc_ (fun b16 => ?_); refine st (.agg _) _ ?_; refine asI ?_; refine LS.done ?_
      (repeat (first | refine RS.seq ?_ | refine RS.region ?_ | refine RS.regionQ ?_ (by kernel_rfl) (by kernel_rfl) | refine RS.skip ?_ | refine RS.inBlock ?_ | refine RS.block ?_ | refine RS.exit ?_)); refine asL ?_; refine LS.done ?_
      refine RS.nilD 0 PlaceD 49 ?_
      (repeat (first | refine RS.seq ?_ | refine RS.region ?_ | refine RS.regionQ ?_ (by kernel_rfl) (by kernel_rfl) | refine RS.skip ?_ | refine RS.inBlock ?_ | refine RS.block ?_ | refine RS.exit ?_)); refine asI ?_; refine LS.done ?_
      (repeat (first | refine RS.seq ?_ | refine RS.region ?_ | refine RS.regionQ ?_ (by kernel_rfl) (by kernel_rfl) | refine RS.skip ?_ | refine RS.inBlock ?_ | refine RS.block ?_ | refine RS.exit ?_))
      refine RS.loopF (X := Nat × Value × PH) 17 89 (fun x => x.1 ≤ own.length ∧ PH.le σ4 x.2.2) (fun x => [(17, .int .i64 (usedN S.taken nm + needF (fun _ => 1) nm (own.take x.1))), (18, x.2.1), (19, .int .i64 x.1)]) (fun x => x.2.2)
        (fun x => rowD 0 49 x.2.1 (nearP (own.take x.1) nm) :: blk b16 (.cells (List.toArray [.int .i64 (usedC S.taken nm + needF (·.cpu) nm (own.take x.1)), .int .i64 (usedM S.taken nm + needF (·.mem) nm (own.take x.1))]) 44 (0, 0)) :: rowD 0 3 v2 ((candN S own p (N.take j)).map (goodP S own mode p)) :: rowD 0 9 v1 ((candN S own p (N.take j)).map (fun x : NodeD => x.name)) :: rowD 0 49 (.slice aO own.length cO) own :: refHP br S :: K) (fun x => own.length - x.1) (0, .slice none 0 0, σ4) ⟨Nat.zero_le _, PH.le_refl _⟩ ⟨?_, rfl, rfl, trivial⟩ rfl ⟨fun h => ?_⟩ ?_
      · show Value.int .i64 (usedN S.taken nm) = .int .i64 (usedN S.taken nm + needF (fun _ => 1) nm (own.take 0))
        simp [needF]
      · dsimp only
        simp only [List.take_zero, needF, List.map_nil, List.sum_nil, Int.add_zero]
        exact h
      rintro ⟨m, vB, σ5⟩ g5 ⟨(hm1 : m ≤ own.length), (hle5 : PH.le σ4 σ5)⟩ ih3
      dsimp only
      have hnl : (nearP (own.take m) nm).length ≤ m := by
        have := List.length_filter_le (fun p : PlaceD => decide (p.node = nm)) (own.take m)
        rw [List.length_take] at this
        unfold nearP; omega
      refine RS.formD (l := nearP (own.take m) nm) vB (fun aB cB eB _ => ?_); subst eB
      (repeat (first | refine RS.seq ?_ | refine RS.region ?_ | refine RS.regionQ ?_ (by kernel_rfl) (by kernel_rfl) | refine RS.skip ?_ | refine RS.inBlock ?_ | refine RS.block ?_ | refine RS.exit ?_)); refine mvI ?_; refine mvL ?_; refine lenL ?_; refine ltI ?_; refine LS.done ?_
      (repeat (first | refine RS.seq ?_ | refine RS.region ?_ | refine RS.regionQ ?_ (by kernel_rfl) (by kernel_rfl) | refine RS.skip ?_ | refine RS.inBlock ?_ | refine RS.block ?_ | refine RS.exit ?_))
      by_cases hltm : m < own.length
      · refine RS.condT ?_ (h := by simp; omega)
        refine RS.addrD (l := own) (.slice aO own.length cO) (fun bO cO' eO => ?_) (hf := FindD.tail (i := FindD.tail (i := FindD.tail (i := FindD.tail (i := FindD.head)))))
        injection eO with eO1 _ eO2
        subst eO1
        have hget : own[m]? = some own[m] := List.getElem?_eq_getElem hltm
        have hnt := near_take (nm := nm) hltm
        have nC : needF (·.cpu) nm (own.take (m + 1)) = needF (·.cpu) nm (own.take m) + (if own[m].node = nm then own[m].cpu else 0) := needF_succ (·.cpu) nm own m hltm
        have nM : needF (·.mem) nm (own.take (m + 1)) = needF (·.mem) nm (own.take m) + (if own[m].node = nm then own[m].mem else 0) := needF_succ (·.mem) nm own m hltm
        have nN : needF (fun _ => 1) nm (own.take (m + 1)) = needF (fun _ => 1) nm (own.take m) + (if own[m].node = nm then 1 else 0) := needF_succ (fun _ => 1) nm own m hltm
        have hxr := ho.right own[m] (List.getElem_mem _)
        have hxok : ∃ n, asg S.nodes own[m].node = some n := by
          have := ho.there own[m] (List.getElem_mem _)
          rcases opt_cases (asg S.nodes own[m].node) with e | ⟨n, e⟩
          · rw [e] at this; cases this
          · exact ⟨n, e⟩
        obtain ⟨x, hx⟩ : ∃ x, x = own[m] := ⟨_, rfl⟩
        rw [← hx] at hget hnt nC nM nN hxr hxok
        have hname5 : σ5.cell bn (on + j * 6 + 0) = some (.string nm) := PH.cell_mono hle5 hname
        refine RS.repD (l := own) (.slice (some ⟨bO, 0, none⟩) own.length cO) m hget (fun cx hrx => ?_) (hf := FindD.tail (i := FindD.tail (i := FindD.tail (i := FindD.tail (i := FindD.head)))))
        have hrx : Rep.rep (fromN 0 σ5) (placeC x) x := by obtain ⟨_, h2⟩ := hrx; exact ⟨rfl, h2⟩
        (repeat (first | refine RS.seq ?_ | refine RS.region ?_ | refine RS.skip ?_ | refine RS.inBlock ?_ | refine RS.block ?_ | refine RS.exit ?_)); refine RS.drawK [.free, .free, .free, .free, .ex, .free, .free, .free, .free, .ex, .free] ?_ (by kernel_rfl) (by kernel_rfl); refine D.mvL ?_; refine D.mvI ?_; refine D.idx (i := m) ?_; refine D.fld ?_; refine D.ldD (u := .string x.node) (.slice (some ⟨bO, 0, none⟩) own.length cO) m 1 hget (plAt 1 rfl) ?_; refine D.mvL ?_; refine D.mvI ?_; refine D.idx (i := j) ?_; refine D.fld ?_; refine D.ldS hname5 ?_; refine D.eqS ?_; refine D.done (fun us σ1 hle1 hfs => ?_)
        refine RS.ow ?_
        have k20 := hle1
        (repeat (first | refine RS.seq ?_ | refine RS.region ?_ | refine RS.skip ?_ | refine RS.inBlock ?_ | refine RS.block ?_ | refine RS.exit ?_))
        refine RS.cond (fun z => ?_) (fun z => ?_)
        · have z := of_decide_eq_true z
          rw [if_pos z] at hnt nC nM nN
          obtain ⟨hxr1, hxr2⟩ := hxr
          have q1 := hpC m
          have q2 := hpC (m + 1)
          have q3 := hpM m
          have q4 := hpM (m + 1)
          have q5 := hpN m
          have q6 := hpN (m + 1)
          rw [nC] at q2
          rw [nM] at q4
          rw [nN] at q6
          simp only [uC, uM, needC, needM] at hin
          (repeat (first | refine RS.seq ?_ | refine RS.region ?_ | refine RS.skip ?_ | refine RS.inBlock ?_ | refine RS.block ?_ | refine RS.exit ?_)); refine RS.drawK [.ex, .free, .free, .free, .free, .ex, .ex, .free, .free, .free, .st] ?_ (by kernel_rfl) (by kernel_rfl); refine D.ldA [.int .i64 (usedC S.taken nm + needF (·.cpu) nm (own.take m)), .int .i64 (usedM S.taken nm + needF (·.mem) nm (own.take m))] ?_; refine D.mvL ?_; refine D.mvI ?_; refine D.idx (i := m) ?_; refine D.fld ?_; refine D.ldDA (.slice (some ⟨bO, 0, none⟩) own.length cO) m 2 [.int .i64 x.cpu, .int .i64 x.mem] hget (plTake rfl) ?_
          refine D.callP ?_ (hc := fun us σ' w' hle hf hw => radd1_c (usedC S.taken nm + needF (·.cpu) nm (own.take m)) (usedM S.taken nm + needF (·.mem) nm (own.take m)) x.cpu x.mem (by show I64 _; omega) (by show I64 _; omega) (by show I64 _; omega) (by show I64 _; omega) w')
          rw [show addR (usedC S.taken nm + needF (·.cpu) nm (own.take m)) (usedM S.taken nm + needF (·.mem) nm (own.take m)) x.cpu x.mem = ((usedC S.taken nm + needF (·.cpu) nm (own.take m) + x.cpu, usedM S.taken nm + needF (·.mem) nm (own.take m) + x.mem), 0) by unfold addR; rw [if_neg (by omega), if_neg (by omega)]]
          refine D.mvT ?_; refine D.extr (v := _) ?_; refine D.extr (v := .int _ _) ?_
          refine D.stB (.agg (List.toArray [.int .i64 (usedC S.taken nm + needF (·.cpu) nm (own.take m) + x.cpu), .int .i64 (usedM S.taken nm + needF (·.mem) nm (own.take m) + x.mem)])) [.int .i64 (usedC S.taken nm + needF (·.cpu) nm (own.take m) + x.cpu), .int .i64 (usedM S.taken nm + needF (·.mem) nm (own.take m) + x.mem)] ?_ (hr := by show 0 + 2 ≤ 2; omega)
          refine D.done (fun us σ1 hle1 hfs => ?_)
          refine RS.ow ?_
          have k21 := hle1
          (repeat (first | refine RS.seq ?_ | refine RS.region ?_ | refine RS.regionQ ?_ (by kernel_rfl) (by kernel_rfl) | refine RS.skip ?_ | refine RS.inBlock ?_ | refine RS.block ?_ | refine RS.exit ?_)); refine mvI ?_; (first | refine addN ?_ | refine addI ?_); refine asI ?_; refine LS.done ?_
          (repeat (first | refine RS.seq ?_ | refine RS.region ?_ | refine RS.regionQ ?_ (by kernel_rfl) (by kernel_rfl) | refine RS.skip ?_ | refine RS.inBlock ?_ | refine RS.block ?_ | refine RS.exit ?_)); refine mvL ?_; refine mvL ?_; refine mvI ?_; refine idx (i := m) ?_; refine ldDA (.slice (some ⟨bO, 0, none⟩) own.length cO) m 0 (placeC x) hget (plTake rfl) ?_; refine bldS [.agg (List.toArray (placeC x))] (placeC x) (fun b87 => ?_); refine appD (v := .slice aB (nearP (own.take m) nm).length cB) (l' := [x]) (vy := .slice (some ⟨b87, 0, none⟩) 1 1) (fun w' hw => ⟨_, srcB hw TSlice.eq, CellsL.one_ (Rep.mono hrx (fromN_up (PH.le_trans k20 k21)))⟩) (fun v88 => ?_) (hb := by simp; omega) (hm := by simp; omega); refine as_ (v := v88) ?_; refine LS.done ?_
          (repeat (first | refine RS.seq ?_ | refine RS.region ?_ | refine RS.regionQ ?_ (by kernel_rfl) (by kernel_rfl) | refine RS.skip ?_ | refine RS.inBlock ?_ | refine RS.block ?_ | refine RS.exit ?_)); refine mvI ?_; (first | refine addN ?_ | refine addI ?_); refine asI ?_; refine LS.done ?_; (repeat (first | refine RS.seq ?_ | refine RS.region ?_ | refine RS.regionQ ?_ (by kernel_rfl) (by kernel_rfl) | refine RS.skip ?_ | refine RS.inBlock ?_ | refine RS.block ?_ | refine RS.exit ?_))
          exact ih3 (m + 1, v88, _) ⟨hltm, PH.le_trans hle5 (PH.le_trans k20 k21)⟩ (by (try dsimp only); omega) ⟨by dsimp only; rw [nN, ← Int.add_assoc]; rfl, rfl, rfl, trivial⟩ (by repeat (first | with_reducible exact Out.refl _ _ _ | exact Out.hv | refine Out.upd ?_ | refine Out.hvIn ?_)) ⟨fun h => by dsimp only; rw [hnt, nC, nM, ← Int.add_assoc, ← Int.add_assoc]; exact h.tail⟩ rfl
        · have z := of_decide_eq_false z
          rw [if_neg z, List.append_nil] at hnt
          rw [if_neg z, Int.add_zero] at nC nM nN
          refine RS.skip ?_
          (repeat (first | refine RS.seq ?_ | refine RS.region ?_ | refine RS.regionQ ?_ (by kernel_rfl) (by kernel_rfl) | refine RS.skip ?_ | refine RS.inBlock ?_ | refine RS.block ?_ | refine RS.exit ?_)); refine mvI ?_; (first | refine addN ?_ | refine addI ?_); refine asI ?_; refine LS.done ?_; (repeat (first | refine RS.seq ?_ | refine RS.region ?_ | refine RS.regionQ ?_ (by kernel_rfl) (by kernel_rfl) | refine RS.skip ?_ | refine RS.inBlock ?_ | refine RS.block ?_ | refine RS.exit ?_))
          exact ih3 (m + 1, _, _) ⟨hltm, PH.le_trans hle5 k20⟩ (by (try dsimp only); omega) ⟨by dsimp only; rw [nN]; rfl, rfl, rfl, trivial⟩ (by repeat (first | with_reducible exact Out.refl _ _ _ | exact Out.hv | refine Out.upd ?_ | refine Out.hvIn ?_)) ⟨fun h => by dsimp only; rw [hnt, nC, nM]; exact h⟩ rfl
      · refine RS.condF ?_ (h := by simp; omega)
        clear ih3 hpC hpM hpN
        obtain rfl : m = own.length := by omega
        rw [List.take_length]
        rw [List.take_length] at hnl
        have eC : usedC S.taken nm + needF (·.cpu) nm own = uC S own nm := rfl
        have eM : usedM S.taken nm + needF (·.mem) nm own = uM S own nm := rfl
        have eN : usedN S.taken nm + needF (fun _ => 1) nm own = uN S own nm := rfl
        rw [eC, eM, eN]
        subst hnm
        have hle35 := PH.le_trans hle4 hle5
        have hle25 := PH.le_trans hle24 hle5
        have hle05 := PH.le_trans hle04 hle5
        have hc5 := PH.cells_mono hle05 (n := 7) (vs := podC p (.slice a1 p.picks.length c1) (.slice a2 p.bears.length c2)) rfl hc
        have hcn5 := PH.cells_mono hle25 (n := 6) (vs := nodeC n (.slice a3 n.marks.length c3) (.slice a4 n.taints.length c4)) rfl hcn
        (repeat (first | refine RS.seq ?_ | refine RS.region ?_ | refine RS.skip ?_ | refine RS.inBlock ?_ | refine RS.block ?_ | refine RS.exit ?_)); refine RS.drawK [.free, .free, .free, .ex, .free, .free, .free, .ex, .ex, .free, .ex, .free] ?_ (by kernel_rfl) (by kernel_rfl); refine D.mvL ?_; refine D.mvI ?_; refine D.idx (i := k) ?_; refine D.ldSA (vs := podC p (.slice a1 p.picks.length c1) (.slice a2 p.bears.length c2)) rfl hc5 ?_; refine D.mvL ?_; refine D.mvI ?_; refine D.idx (i := j) ?_; refine D.ldSA (vs := nodeC n (.slice a3 n.marks.length c3) (.slice a4 n.taints.length c4)) rfl hcn5 ?_; refine D.ldA [.int .i64 (uC S own n.name), .int .i64 (uM S own n.name)] ?_; refine D.mvL ?_
        refine D.callP ?_ (hc := fun us σ' w' hle hf hw => rwhy_c p n a1 a2 a3 a4 c1 c2 c3 c4 (uC S own n.name) (uM S own n.name) (nearP own n.name) (.slice aB (nearP own n.name).length cB) (by show I64 _; omega) (by show I64 _; omega) w' (Rep.mono hrp0 (PH.le_trans hle05 (PH.le_trans hle hw.imm))) (Rep.mono hrn0 (PH.le_trans hle25 (PH.le_trans hle hw.imm))) (hw.rowRepD (by omega) FindD.head))
        refine D.eqI ?_; refine D.done (fun us σ1 hle1 hfs => ?_)
        refine RS.ow ?_
        have k24 := hle1
        have hcl' : (candN S own p (N.take j)).length ≤ 8 := by omega
        (repeat (first | refine RS.seq ?_ | refine RS.region ?_ | refine RS.skip ?_ | refine RS.inBlock ?_ | refine RS.block ?_ | refine RS.exit ?_))
        refine RS.cond (fun z => ?_) (fun z => ?_)
        · have z := of_decide_eq_true z
          have hmay : mayP S own p n = true := decide_eq_true z
          rw [hmay, if_pos rfl] at hct
          have hw6 := (whyP_zero (of_decide_eq_true hmay)).2.2.2.1
          obtain ⟨hpp, hf1, hf2⟩ := (fitP_iff hin.1 hin.2 hcap).1 hw6
          have hs64 : I64 (goodP S own mode p n) := by
            have e1 := partP_in hin.1.1 hpp.1 hf1
            have e2 := partP_in hin.2.1 hpp.2 hf2
            unfold goodP scoreP leftP
            simp only [uN, needN] at *
            show I64 _
            repeat' split
            all_goals omega
          have hc1 := PH.cells_mono k24 (n := 7) (vs := podC p (.slice a1 p.picks.length c1) (.slice a2 p.bears.length c2)) rfl hc5
          have hcn1 := PH.cells_mono k24 (n := 6) (vs := nodeC n (.slice a3 n.marks.length c3) (.slice a4 n.taints.length c4)) rfl hcn5
          have hneed : ∀ i, i < 2 → PH.cell _ b (o + k * 7 + 2 + i) = [Value.int .i64 p.cpu, .int .i64 p.mem][i]? := fun i hi => by
            rw [Nat.add_assoc (o + k * 7), hc1 (2 + i) (by omega)]
            rcases (show i = 0 ∨ i = 1 by omega) with rfl | rfl <;> rfl
          have hcapc : ∀ i, i < 2 → PH.cell _ bn (on + j * 6 + 1 + i) = [Value.int .i64 n.cpu, .int .i64 n.mem][i]? := fun i hi => by
            rw [Nat.add_assoc (on + j * 6), hcn1 (1 + i) (by omega)]
            rcases (show i = 0 ∨ i = 1 by omega) with rfl | rfl <;> rfl
          have hns : n.name.size ≤ 140737488355328 := hn1
          (repeat (first | refine RS.seq ?_ | refine RS.region ?_ | refine RS.regionQ ?_ (by kernel_rfl) (by kernel_rfl) | refine RS.skip ?_ | refine RS.inBlock ?_ | refine RS.block ?_ | refine RS.exit ?_)); refine mv (v := v1) ?_; refine mvL ?_; refine mvI ?_; refine idx (i := j) ?_; refine fld ?_; refine ldS (hcn1 0 (by decide)) ?_; refine bldS [.string n.name] [.string n.name] (fun b107 => ?_); refine appD (v := v1) (l' := [n.name]) (vy := .slice (some ⟨b107, 0, none⟩) 1 1) (fun w' hw => ⟨_, srcB hw TSlice.eq, CellsL.one_ (show Rep.rep (fromN 0 _) [Value.string n.name] n.name from ⟨rfl, hns⟩)⟩) (fun v108 => ?_) (hb := by simp only [List.length_map, List.length_cons, List.length_nil]; omega) (hm := by simp only [List.length_map, List.length_cons, List.length_nil]; omega); refine as_ (v := v108) ?_; refine LS.done ?_
          refine RS.to (K' := rowD 0 3 v2 ((candN S own p (N.take j)).map (goodP S own mode p)) :: blk b16 (.cells (List.toArray [.int .i64 (uC S own n.name), .int .i64 (uM S own n.name)]) 44 (0, 0)) :: rowD 0 9 v108 ((candN S own p (N.take j)).map (fun x : NodeD => x.name) ++ [n.name]) :: rowD 0 49 (.slice aO own.length cO) own :: refHP br S :: K) ?_ ⟨fun h => h.tail.tail.swap⟩
          (repeat (first | refine RS.seq ?_ | refine RS.region ?_ | refine RS.skip ?_ | refine RS.inBlock ?_ | refine RS.block ?_ | refine RS.exit ?_)); refine RS.draw [.free, .free, .free, .free, .free, .free, .ex, .ex, .free, .free, .free, .free, .ex, .free, .ex, .ex, .eff, .eff] [blk b16 (.cells (List.toArray [.int .i64 (uC S own n.name), .int .i64 (uM S own n.name)]) 44 (0, 0))] ?_ (by kernel_rfl) (by kernel_rfl) (by infer_instance); refine D.mv (v := v2) ?_; refine D.mvI ?_; refine D.mvL ?_; refine D.mvI ?_; refine D.idx (i := j) ?_; refine D.fld ?_; refine D.ldSA (vs := [.int .i64 n.cpu, .int .i64 n.mem]) rfl hcapc ?_; refine D.ldA [.int .i64 (uC S own n.name), .int .i64 (uM S own n.name)] ?_; refine D.mvL ?_; refine D.mvI ?_; refine D.idx (i := k) ?_; refine D.fld ?_; refine D.ldSA (vs := [.int .i64 p.cpu, .int .i64 p.mem]) rfl hneed ?_; refine D.mvI ?_
          refine D.callP (v := .int .i64 (goodP S own mode p n)) ?_ (hc := fun us σ' w' hle hf hw => rscore_c mode n.cpu n.mem (uC S own n.name) (uM S own n.name) p.cpu p.mem (uN S own n.name) ⟨hin.1.1, hin.2.1⟩ hpp ⟨hf1, hf2⟩ ⟨hcap.2.1, hcap.2.2.2⟩ (by simp only [uN, needN]; omega) w')
          refine D.litT (α := Int) (vs := fun _ => [.int .i64 (goodP S own mode p n)]) 0 [goodP S own mode p n] ?_ (fun us σ' hle hf => ⟨⟨rfl, hs64⟩, trivial⟩); refine D.appD v2 [goodP S own mode p n] (vy := fun us => us 124) ?_ (fun us σ' _ hf => ⟨_, hf.1, PH.le_refl _⟩) (hb := by simp only [List.length_map, List.length_cons, List.length_nil]; omega) (hm := by simp only [List.length_map, List.length_cons, List.length_nil]; omega); refine D.mvD 125 ?_; refine D.done (fun us σ1 hle1 hfs => ?_)
          refine RS.ow ?_
          have k26 := hle1
          (repeat (first | refine RS.seq ?_ | refine RS.region ?_ | refine RS.regionQ ?_ (by kernel_rfl) (by kernel_rfl) | refine RS.skip ?_ | refine RS.inBlock ?_ | refine RS.block ?_ | refine RS.exit ?_)); refine mvI ?_; (first | refine addN ?_ | refine addI ?_); refine asI ?_; refine LS.done ?_; (repeat (first | refine RS.seq ?_ | refine RS.region ?_ | refine RS.regionQ ?_ (by kernel_rfl) (by kernel_rfl) | refine RS.skip ?_ | refine RS.inBlock ?_ | refine RS.block ?_ | refine RS.exit ?_))
          refine ih2 (j + 1, v108, us 14, _) ⟨hltj, PH.le_trans hle35 (PH.le_trans k24 k26)⟩ (by (try dsimp only); omega) ⟨rfl, rfl, rfl, trivial⟩ (by repeat (first | with_reducible exact Out.refl _ _ _ | exact Out.hv | refine Out.upd ?_ | refine Out.hvIn ?_)) ⟨fun h => ?_⟩ rfl
          dsimp only
          rw [hct, List.map_append, List.map_append]
          exact SepIn.cons_sub (fun _ h => h.tail) h
        · have z := of_decide_eq_false z
          have hmay : mayP S own p n = false := decide_eq_false z
          rw [hmay, if_neg (by simp), List.append_nil] at hct
          refine RS.skip ?_
          (repeat (first | refine RS.seq ?_ | refine RS.region ?_ | refine RS.regionQ ?_ (by kernel_rfl) (by kernel_rfl) | refine RS.skip ?_ | refine RS.inBlock ?_ | refine RS.block ?_ | refine RS.exit ?_)); refine mvI ?_; (first | refine addN ?_ | refine addI ?_); refine asI ?_; refine LS.done ?_; (repeat (first | refine RS.seq ?_ | refine RS.region ?_ | refine RS.regionQ ?_ (by kernel_rfl) (by kernel_rfl) | refine RS.skip ?_ | refine RS.inBlock ?_ | refine RS.block ?_ | refine RS.exit ?_))
          exact ih2 (j + 1, v1, v2, _) ⟨hltj, PH.le_trans hle35 k24⟩ (by (try dsimp only); omega) ⟨rfl, rfl, rfl, trivial⟩ (by repeat (first | with_reducible exact Out.refl _ _ _ | exact Out.hv | refine Out.upd ?_ | refine Out.hvIn ?_)) ⟨fun h => by dsimp only; rw [hct]; exact h.tail.tail⟩ rfl
    · refine RS.condF ?_ (h := by simp; omega)
      clear ih2
      obtain rfl : j = N.length := by omega
      rw [List.take_length]
      rw [List.take_length] at hcl
      obtain ⟨c, hcd⟩ : ∃ c, c = candN S own p N := ⟨_, rfl⟩
      rw [← hcd] at hcl ⊢
      refine RS.exit ?_
      refine RS.freeze0 (l := c.map (goodP S own mode p)) v2 (fun σ5 hle5 hrs => ?_) (hl := by rw [List.length_map]; omega) (hf := FindD.head)
      refine RS.freeze0 (l := c.map (fun x : NodeD => x.name)) v1 (fun σ6 hle6 hrnm => ?_) (hl := by rw [List.length_map]; omega) (hf := FindD.head)
      obtain ⟨as_, cs, rfl⟩ := hrs.form
      obtain ⟨an1, cn1, rfl⟩ := hrnm.form
      obtain ⟨z, hz⟩ : ∃ z, z = bestTo (c.map (fun x : NodeD => x.name)) (c.map (goodP S own mode p)) c.length := ⟨_, rfl⟩
      have hzb := bestTo_in (c.map (fun x : NodeD => x.name)) (c.map (goodP S own mode p)) c.length
      have hsp : spotP S own mode p = if z < 0 then none else some ⟨p.name, (c.map (fun x : NodeD => x.name)).getD z.toNat ⟨#[]⟩, p.cpu, p.mem, p.alone⟩ := by rw [hz, hcd, hN]; rfl
      rw [← hz] at hzb
      have hb : ∀ w' : World, PH.le σ6 (hp w') → Calls Tryz.prog 38 #[.slice an1 (c.map (fun x : NodeD => x.name)).length cn1, .slice as_ (c.map (goodP S own mode p)).length cs] w' fun e w'' => e = .returned (.int .i64 z) ∧ Below w'.heap.size w' w'' := fun w' hi' => by
        have h1 := rbest_c (c.map (fun x : NodeD => x.name)) (c.map (goodP S own mode p)) _ _ w' (hrnm.mono hi') (hrs.mono (PH.le_trans hle6 hi')) (by simp)
        have e : (c.map (goodP S own mode p)).length = c.length := List.length_map _
        have e2 : bestTo (c.map (fun x : NodeD => x.name)) (c.map (goodP S own mode p)) (c.map (goodP S own mode p)).length = z := by rw [e, hz]
        rw [e2] at h1
        exact h1
      (repeat (first | refine RS.seq ?_ | refine RS.region ?_ | refine RS.regionQ ?_ (by kernel_rfl) (by kernel_rfl) | refine RS.skip ?_ | refine RS.inBlock ?_ | refine RS.block ?_ | refine RS.exit ?_)); refine mvL ?_; refine mvL ?_
      refine callP (v := .int .i64 z) ?_ (hc := fun w' hw => hb w' hw.imm)
      refine asI ?_; refine LS.done ?_
      (repeat (first | refine RS.seq ?_ | refine RS.region ?_ | refine RS.regionQ ?_ (by kernel_rfl) (by kernel_rfl) | refine RS.skip ?_ | refine RS.inBlock ?_ | refine RS.block ?_ | refine RS.exit ?_)); refine mvI ?_; refine ltI ?_; refine LS.done ?_
      (repeat (first | refine RS.seq ?_ | refine RS.region ?_ | refine RS.skip ?_ | refine RS.inBlock ?_ | refine RS.block ?_ | refine RS.exit ?_))
      have hle46 := PH.le_trans hle5 hle6
      have hle06 := PH.le_trans hle04 hle46
      refine RS.cond (fun y => ?_) (fun y => ?_)
      · have y := of_decide_eq_true y
        rw [if_pos y] at hsp
        rw [hsp] at hall
        (repeat (first | refine RS.seq ?_ | refine RS.region ?_ | refine RS.regionQ ?_ (by kernel_rfl) (by kernel_rfl) | refine RS.skip ?_ | refine RS.inBlock ?_ | refine RS.block ?_ | refine RS.exit ?_)); refine asL ?_; refine asI ?_; refine LS.done ?_; (repeat (first | refine RS.seq ?_ | refine RS.region ?_ | refine RS.regionQ ?_ (by kernel_rfl) (by kernel_rfl) | refine RS.skip ?_ | refine RS.inBlock ?_ | refine RS.block ?_ | refine RS.exit ?_)); refine RS.ret2 (v := .slice _ _ _) (v' := .int _ _) Tryz.func14 fun w hw => ?_
        exact ⟨.slice none 0 0, σ6, by rw [eE, hall]; rfl, hle06, by rw [eL, hall]; exact RepL.nil _ _ _, by rw [packS, if_neg (by rw [eE, hall]; show ¬ (6 : Int) = 0; decide)]; exact hw.weak fun F h => h.tail⟩
      · have y := of_decide_eq_false y
        rw [if_neg y] at hsp
        have hlz : z.toNat < c.length := by omega
        obtain ⟨bnn, onn, rfl, _⟩ := hrnm.addr (List.ne_nil_of_length_pos (by rw [List.length_map]; omega))
        obtain ⟨nb, hnb⟩ : ∃ nb, nb = (c.map (fun x : NodeD => x.name)).getD z.toNat ⟨#[]⟩ := ⟨_, rfl⟩
        have hcellz := RepL.strAt hrnm rfl z.toNat (by rw [List.length_map]; exact hlz)
        rw [← hnb] at hsp hcellz
        have hnbs : nb.size ≤ 140737488355328 := by
          have : nb ∈ c.map (fun x : NodeD => x.name) := by rw [hnb, getD_of (by rw [List.length_map]; exact hlz)]; exact List.getElem_mem _
          obtain ⟨n, hn, rfl⟩ := List.mem_map.1 this
          rw [hcd] at hn
          have h1 := (hmemN n (List.mem_filter.1 hn).1).2
          have := name_size (fine_name h1); omega
        have ho2 := spot_ok hi hk ho hsp
        rw [hsp] at hall
        obtain ⟨x, hx⟩ : ∃ x : PlaceD, x = ⟨p.name, nb, p.cpu, p.mem, p.alone⟩ := ⟨_, rfl⟩
        rw [← hx] at hall ho2
        have hc6 := PH.cells_mono hle06 (n := 7) (vs := podC p (.slice a1 p.picks.length c1) (.slice a2 p.bears.length c2)) rfl hc
        have hneed : ∀ i, i < 2 → PH.cell _ b (o + k * 7 + 2 + i) = [Value.int .i64 p.cpu, .int .i64 p.mem][i]? := fun i hi => by
          rw [Nat.add_assoc (o + k * 7), hc6 (2 + i) (by omega)]
          rcases (show i = 0 ∨ i = 1 by omega) with rfl | rfl <;> rfl
        refine RS.skip ?_
        (repeat (first | refine RS.seq ?_ | refine RS.region ?_ | refine RS.skip ?_ | refine RS.inBlock ?_ | refine RS.block ?_ | refine RS.exit ?_)); refine RS.draw [.free, .free, .free, .free, .free, .ex, .free, .free, .free, .ex, .free, .free, .free, .free, .ex, .free, .free, .free, .free, .ex, .ex, .ex, .eff, .eff] [] ?_ (by kernel_rfl) (by kernel_rfl) (by infer_instance); refine D.mvL ?_; refine D.mvL ?_; refine D.mvI ?_; refine D.idx (i := k) ?_; refine D.fld ?_; refine D.ldS (hc6 0 (by decide)) ?_; refine D.mvL ?_; refine D.mvI ?_; refine D.idx (i := z.toNat) ?_ (hj := by omega) (hi := by rw [List.length_map]; exact hlz); refine D.ldS hcellz ?_; refine D.mvL ?_; refine D.mvI ?_; refine D.idx (i := k) ?_; refine D.fld ?_; refine D.ldSA (vs := [.int .i64 p.cpu, .int .i64 p.mem]) rfl hneed ?_; refine D.mvL ?_; refine D.mvI ?_; refine D.idx (i := k) ?_; refine D.fld ?_; refine D.ldS (hc6 6 (by decide)) ?_; refine D.bldX (β := PlaceD) x (fun us => [(0, .string p.name), (1, .string nb), (2, .agg (List.toArray [.int .i64 p.cpu, .int .i64 p.mem])), (3, .bool p.alone)]) ?_ (fun us σ' hle hf => ⟨_, rfl, by rw [hx]; exact rep_pl σ' ⟨p.name, nb, p.cpu, p.mem, p.alone⟩ hpn hnbs hpc hpm⟩); refine D.litT (α := PlaceD) (vs := fun us => [us 151]) 0 [x] ?_ (fun us σ' hle hf => ⟨by rw [fromN_zero]; exact hf.1.cv, trivial⟩); refine D.appD (.slice aO own.length cO) [x] (vy := fun us => us 152) ?_ (fun us σ' _ hf => ⟨_, hf.1, PH.le_refl _⟩) (hb := by simp; omega) (hm := by simp; omega); refine D.mvD 153 ?_; refine D.done (fun us σ1 hle1 hfs => ?_)
        refine RS.ow ?_
        have k30 := hle1
        (repeat (first | refine RS.seq ?_ | refine RS.region ?_ | refine RS.regionQ ?_ (by kernel_rfl) (by kernel_rfl) | refine RS.skip ?_ | refine RS.inBlock ?_ | refine RS.block ?_ | refine RS.exit ?_)); refine mvI ?_; (first | refine addN ?_ | refine addI ?_); refine asI ?_; refine LS.done ?_; (repeat (first | refine RS.seq ?_ | refine RS.region ?_ | refine RS.regionQ ?_ (by kernel_rfl) (by kernel_rfl) | refine RS.skip ?_ | refine RS.inBlock ?_ | refine RS.block ?_ | refine RS.exit ?_))
        exact ih (k + 1, us 11, own ++ [x], _) ⟨hlt, ho2, by simp [hol], hall, PH.le_trans hle3 (PH.le_trans hle4 (PH.le_trans hle46 k30))⟩ (by (try dsimp only); omega) ⟨rfl, rfl, trivial⟩ (by repeat (first | with_reducible exact Out.refl _ _ _ | exact Out.hv | refine Out.upd ?_ | refine Out.hvIn ?_)) ⟨fun h => h⟩ rfl
  · refine RS.condF ?_ (h := by simp; omega)
    clear ih
    obtain rfl : k = pods.length := by omega
    rw [List.drop_length] at hall
    simp only [allP] at hall
    have ht := take_all (g := g) ho z1 (by omega)
    rw [hall] at eE eL
    refine RS.exit ?_
    refine RS.freeze0 (l := own) _ (fun σ4 hle4 hro => ?_) (hf := FindD.head)
    (repeat (first | refine RS.seq ?_ | refine RS.region ?_ | refine RS.regionQ ?_ (by kernel_rfl) (by kernel_rfl) | refine RS.skip ?_ | refine RS.inBlock ?_ | refine RS.block ?_ | refine RS.exit ?_)); refine mvP ?_; refine mvI ?_; refine mvL ?_
    refine rtakeL g hg _ own hi hk hlS (by omega) hro (fun σ5 hle5 => ?_)
    refine LS.done ?_
    (repeat (first | refine RS.seq ?_ | refine RS.region ?_ | refine RS.regionQ ?_ (by kernel_rfl) (by kernel_rfl) | refine RS.skip ?_ | refine RS.inBlock ?_ | refine RS.block ?_ | refine RS.exit ?_)); refine mvL ?_; refine asL ?_; refine asI ?_; refine LS.done ?_; (repeat (first | refine RS.seq ?_ | refine RS.region ?_ | refine RS.regionQ ?_ (by kernel_rfl) (by kernel_rfl) | refine RS.skip ?_ | refine RS.inBlock ?_ | refine RS.block ?_ | refine RS.exit ?_)); refine RS.ret2 (v := .slice _ _ _) (v' := .int _ _) Tryz.func14 fun w hw => ?_
    exact ⟨_, σ5, by rw [eE]; rfl, PH.le_trans hle03 (PH.le_trans hle4 hle5), by rw [eL]; exact hro.mono hle5, by rw [packS, if_pos (by rw [eE]; rfl), eL]; rw [takeT, if_pos ht] at hw; exact hw⟩
end
end Go.Proofs.YthnoaapghcadgaaGreatDoor
/- Rules: what the statements of chapter 8 call. -/
namespace Go.JW
section
variable {P : Program} {f : FuncId} {R : Ending → World → Prop} {k : List Item} {n : Nat} {fr : Nat → Value} {w0 : World} {M : Nat → Prop} {σ : PH}
variable {rest : List Oper} {d : Nat} {ty : TypeId} {pos : String} {aft : Array Edge} {x : Operand}
variable {H : HS} {O : List (Nat × Obj)} {Kf : Us → List HP} {Kb : List HP} {E : List Nat} {tags : List Tag}
theorem D.mvF8 (T : Value → PH → Prop) (hT : MonoT T) (h : LD P f R k n w0 M σ Kb rest tags ⟨fr, (d, T) :: H, O, Kf, E, false⟩)
    (ho : ∀ us σ', PH.le σ σ' → Facts H (readsTmp ⟨some d, .move x, ty, pos, aft, none⟩) us σ' → T (ev n (fill fr H us) x) σ') :
    LD P f R k n w0 M σ Kb (⟨some d, .move x, ty, pos, aft, none⟩ :: rest) (.ex :: tags) ⟨fr, H, O, Kf, E, false⟩ :=
  D.gr T hT h fun us σ' w hle hf hw => .inl ⟨_, w, by simp [execOp], RowKit.Below.refl _ _, hT _ _ _ (ho us σ' hle hf) (grow_le hw)⟩
theorem D.exT {i : Nat} (T : Value → PH → Prop) (hT : MonoT T) (h : LD P f R k n w0 M σ Kb rest tags ⟨fr, (d, T) :: H, O, Kf, E, false⟩)
    (ho : ∀ us σ', PH.le σ σ' → Facts H (readsTmp ⟨some d, .extract x i, ty, pos, aft, none⟩) us σ' → ∃ l v, ev n (fill fr H us) x = .tuple (List.toArray l) ∧ nth l i = some v ∧ T v σ') :
    LD P f R k n w0 M σ Kb (⟨some d, .extract x i, ty, pos, aft, none⟩ :: rest) (.ex :: tags) ⟨fr, H, O, Kf, E, false⟩ :=
  D.gr T hT h fun us σ' w hle hf hw => by
    obtain ⟨l, v, h1, h2, h3⟩ := ho us σ' hle hf
    rw [nth_eq] at h2
    exact .inl ⟨v, w, by simp [execOp, h1, Instr.extract, h2], RowKit.Below.refl _ _, hT _ _ _ h3 (grow_le hw)⟩
end
end Go.JW
namespace Go.Proofs.YthnoaapghcadgaaGreatDoor
open Go.JW Go.RowKit
theorem packS_len {S : LedD} {g : Int} {pods : List PodD} {mode : Int} {kk : Nat} (hi : LedInv S kk) (hk : kk ≤ 1000000) : (packS S g pods mode).taken.length ≤ S.taken.length + 1 := by
  by_cases h : packE S g pods mode = 0
  · rw [(packS_take hi hk h).1]; exact takeT_len _ _ _
  · rw [packS, if_neg h]; omega
/-- What comes of packing: places, and an error's number. -/
def TP (E : Int) (L : List PlaceD) : Value → PH → Prop := fun u σ => ∃ v, u = .tuple (List.toArray [v, .int .i64 E]) ∧ RepL σ v L
theorem TP.mono (E : Int) (L : List PlaceD) : MonoT (TP E L) := fun _ _ _ ⟨v, h1, h2⟩ hs => ⟨v, h1, h2.mono hs⟩
def TL {α : Type} [Rep α] (L : List α) : Value → PH → Prop := fun v σ => RepL σ v L
theorem TL.mono {α : Type} [Rep α] (L : List α) : MonoT (TL L) := fun _ _ _ h hs => RepL.mono h hs
def TI (E : Int) : Value → PH → Prop := fun v _ => v = .int .i64 E
theorem TI.mono (E : Int) : MonoT (TI E) := fun _ _ _ h _ => h
section
variable {q : Bool} {ops : Array Oper} {f : FuncId} {R : Ending → World → Prop} {k : List Item} {n : Nat} {fr : Nat → Value} {w0 : World} {M : Nat → Prop} {σ : PH} {K K' K1 : List HP}
variable {rest : List Oper} {d : Nat} {ty : TypeId} {pos : String} {aft : Array Edge} {xs : Array Operand} {ts : Array TypeId} {bl br : Nat} {S : LedD} {put : HP → List HP}
theorem bothLL (ns ms : List Int) (vn vm : Value) (hr : RepL σ vn ns) (hrm : RepL σ vm ms)
    (h : ∀ bl br σ', PH.le σ σ' → LS Tryz.prog false ops f R k rest n (upd fr d (.tuple #[.pointer (some ⟨bl, 0, none⟩), .pointer (some ⟨br, 0, none⟩)])) w0 M σ' (ledHP bl (bothOf ns ms) :: refHP br (bothOf ns ms) :: K))
    (hx : xs.toList.map (ev n fr) = [vn, vm] := by rfl) :
    LS Tryz.prog false ops f R k (⟨some d, .call ⟨.value (.func 10), xs, ts⟩, ty, pos, aft, none⟩ :: rest) n fr w0 M σ K :=
  LS.enterW rfl rfl (fun w _ => exec_call Fun.eq hx w) fun w hw => (bothE_s ns ms vn vm hr hrm hw).mono fun _ _ ⟨bl, br, σ', he, hle, hs⟩ => ⟨_, σ', _, he, hs, h bl br σ' hle⟩
theorem podsLL (ps : List Int) (vp : Value) (hr : RepL σ vp ps)
    (h : ∀ v σ', PH.le σ σ' → RepL σ' v (podsOf ps) → LS Tryz.prog false ops f R k rest n (upd fr d v) w0 M σ' K)
    (hx : xs.toList.map (ev n fr) = [vp] := by rfl) :
    LS Tryz.prog false ops f R k (⟨some d, .call ⟨.value (.func 13), xs, ts⟩, ty, pos, aft, none⟩ :: rest) n fr w0 M σ K :=
  callT (fun v τ => RepL τ v (podsOf ps)) (fun v _ σ' hq _ hle hτ => h v σ' hle (hq.mono hτ)) (fun w' hw => pods8_c ps _ w' (hr.mono hw.imm)) hx
theorem rpackLL (g : Int) (hg : I64 g) (pods : List PodD) (vP : Value) (mode : Int) {kk : Nat} (hi : LedInv S kk) (hk : kk ≤ 1000000) (hlS : S.taken.length ≤ 1000) (hl : pods.length ≤ 800) (hp' : RepL σ vP pods)
    (h : ∀ v σ', PH.le σ σ' → RepL σ' v (packL S g pods mode) → LS Tryz.prog false ops f R k rest n (upd fr d (.tuple #[v, .int .i64 (packE S g pods mode)])) w0 M σ' (put (refHP br (packS S g pods mode))))
    (hx : xs.toList.map (ev n fr) = [.pointer (some ⟨br, 0, none⟩), .int .i64 g, vP, .int .i64 mode] := by rfl) (hf : FindX br K S put K' := by infer_instance) :
    LS Tryz.prog false ops f R k (⟨some d, .call ⟨.value (.func 14), xs, ts⟩, ty, pos, aft, none⟩ :: rest) n fr w0 M σ K :=
  LS.enterW rfl rfl (fun w _ => exec_call Fun.eq hx w) fun w hw => (rpack_s g hg pods vP mode hi hk hlS hl hp' (hw.weak fun _ => hf.get)).mono fun _ _ ⟨v, σ', he, hle, hr, hs⟩ => ⟨_, σ', _, he, hs.weak fun _ => hf.set, h v σ' hle hr⟩
theorem sameLL {put2 : HP → List HP} {kk : Nat} (hi : LedInv S kk) (hk : kk ≤ 1000000) (hl : S.taken.length ≤ 1000)
    (h : ∀ σ', PH.le σ σ' → LS Tryz.prog false ops f R k rest n (upd fr d (.bool true)) w0 M σ' (ledHP bl S :: refHP br S :: K1))
    (hx : xs.toList.map (ev n fr) = [.pointer (some ⟨bl, 0, none⟩), .pointer (some ⟨br, 0, none⟩)] := by rfl) (hf : FindL bl K S put K' := by infer_instance) (hf2 : FindX br K' S put2 K1 := by infer_instance) :
    LS Tryz.prog false ops f R k (⟨some d, .call ⟨.value (.func 16), xs, ts⟩, ty, pos, aft, none⟩ :: rest) n fr w0 M σ K :=
  LS.enterW rfl rfl (fun w _ => exec_call Fun.eq hx w) fun w hw => (same7_c hi hk hl (hw.weak fun _ h => SepIn.cons_sub (fun _ => hf2.get) (hf.get h))).mono fun _ _ ⟨he, σ', hle, hs⟩ => ⟨_, σ', _, he, hs, h σ' hle⟩
variable {H : HS} {O : List (Nat × Obj)} {Kb : List HP} {E0 : List Nat} {tags : List Tag} {vP : Us → Value}
theorem D.packT (g : Int) (pods : List PodD) (vP : Us → Value) (mode E : Int) (L : List PlaceD) (S' : LedD) {kk : Nat} (hi : LedInv S kk) (hk : kk ≤ 1000000) (hl : pods.length ≤ 800) (hT : TopsAt σ) (hE : packE S g pods mode = E) (hL : packL S g pods mode = L) (hS : packS S g pods mode = S')
    (h : LD Tryz.prog f R k n w0 M σ Kb rest tags ⟨fr, (d, TP E L) :: H, O, fun _ => put (ledHP bl S'), d :: ((Stg.mk fr H O (fun _ => K) E0 false).seen ⟨some d, .call ⟨.value (.func 12), xs, ts⟩, ty, pos, aft, none⟩ ++ E0), false⟩)
    (hp' : ∀ us σ', PH.le σ σ' → Facts H (readsTmp ⟨some d, .call ⟨.value (.func 12), xs, ts⟩, ty, pos, aft, none⟩) us σ' → RepL σ' (vP us) pods)
    (hx : ∀ us, xs.toList.map (ev n (fill fr H us)) = [.pointer (some ⟨bl, 0, none⟩), .int .i64 g, vP us, .int .i64 mode] := by intro _; rfl) (hf : FindL bl K S put K' := by infer_instance) (hLs : Less (put (ledHP bl S')) Kb := by infer_instance) :
    LD Tryz.prog f R k n w0 M σ Kb (⟨some d, .call ⟨.value (.func 12), xs, ts⟩, ty, pos, aft, none⟩ :: rest) (.eff :: tags) ⟨fr, H, O, fun _ => K, E0, false⟩ := by
  subst hE; subst hL; subst hS
  refine D.eff (TP _ _) (fun _ => put (ledHP bl (packS S g pods mode))) _ (TP.mono _ _) (fun _ => hLs) h fun us σ' w X hle hfs hw => ?_
  refine .inr ⟨_, _, exec_call Fun.eq (hx us) w, ?_⟩
  have hw' : Sat w0 M σ' (ledHP bl S :: X :: K') w := hw.weak fun _ h => (SepIn.cons_sub (fun _ => hf.get) h).swap
  exact (pack_s g pods (vP us) mode hi hk hl (hT.mono hle) (hp' us σ' hle hfs) hw').mono fun _ _ ⟨v, σ'', he, h1, h2, h3⟩ => ⟨_, he, σ'', h1, h3.weak fun _ h => SepIn.cons_sub (fun _ => hf.set) h.swap, v, rfl, h2⟩
theorem D.rpackT (g : Int) (hg : I64 g) (pods : List PodD) (vP : Us → Value) (mode E : Int) (L : List PlaceD) (S' : LedD) {kk : Nat} (hi : LedInv S kk) (hk : kk ≤ 1000000) (hlS : S.taken.length ≤ 1000) (hl : pods.length ≤ 800) (hE : packE S g pods mode = E) (hL : packL S g pods mode = L) (hS : packS S g pods mode = S')
    (h : LD Tryz.prog f R k n w0 M σ Kb rest tags ⟨fr, (d, TP E L) :: H, O, fun _ => put (refHP br S'), d :: ((Stg.mk fr H O (fun _ => K) E0 false).seen ⟨some d, .call ⟨.value (.func 14), xs, ts⟩, ty, pos, aft, none⟩ ++ E0), false⟩)
    (hp' : ∀ us σ', PH.le σ σ' → Facts H (readsTmp ⟨some d, .call ⟨.value (.func 14), xs, ts⟩, ty, pos, aft, none⟩) us σ' → RepL σ' (vP us) pods)
    (hx : ∀ us, xs.toList.map (ev n (fill fr H us)) = [.pointer (some ⟨br, 0, none⟩), .int .i64 g, vP us, .int .i64 mode] := by intro _; rfl) (hf : FindX br K S put K' := by infer_instance) (hLs : Less (put (refHP br S')) Kb := by infer_instance) :
    LD Tryz.prog f R k n w0 M σ Kb (⟨some d, .call ⟨.value (.func 14), xs, ts⟩, ty, pos, aft, none⟩ :: rest) (.eff :: tags) ⟨fr, H, O, fun _ => K, E0, false⟩ := by
  subst hE; subst hL; subst hS
  refine D.eff (TP _ _) (fun _ => put (refHP br (packS S g pods mode))) _ (TP.mono _ _) (fun _ => hLs) h fun us σ' w X hle hfs hw => ?_
  refine .inr ⟨_, _, exec_call Fun.eq (hx us) w, ?_⟩
  have hw' : Sat w0 M σ' (refHP br S :: X :: K') w := hw.weak fun _ h => (SepIn.cons_sub (fun _ => hf.get) h).swap
  exact (rpack_s g hg pods (vP us) mode hi hk hlS hl (hp' us σ' hle hfs) hw').mono fun _ _ ⟨v, σ'', he, h1, h2, h3⟩ => ⟨_, he, σ'', h1, h3.weak fun _ h => SepIn.cons_sub (fun _ => hf.set) h.swap, v, rfl, h2⟩
end
end Go.Proofs.YthnoaapghcadgaaGreatDoor
