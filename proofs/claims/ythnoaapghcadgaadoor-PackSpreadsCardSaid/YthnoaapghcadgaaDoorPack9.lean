/- Several texts as one; printed by merge.py. -/
import Derived.Test.YthnoaapghcadgaaDoorPack8
/- Rules: loads out of a row told by data, where it stands. -/
namespace Go.JW
section
variable {w0 w : World} {M : Nat → Prop} {σ : PH} {K K' : List HP} {α : Type} {ri : Rep α} {N e : Nat} {l : List α} {put : HP → List HP}
theorem Sat.rowCell {b m cap : Nat} (hw : Sat w0 M σ K w) (hf : FindD (.slice (some ⟨b, 0, none⟩) m cap) K α ri N e l put K') (i : Nat) {x : α} (hi : l[i]? = some x) :
    ∃ c, Rep.rep (fromN N σ) c x ∧ c.length = Rep.sz α ∧ ∀ j, j < Rep.sz α → w.cell? ⟨b, i * Rep.sz α + j, none⟩ = c[j]? := by
  obtain ⟨hil, hx⟩ := List.getElem?_eq_some_iff.1 hi
  subst hx
  obtain ⟨F1, ⟨cs, hc, h1, h1c, a, cap', e1, h2, h3, h4⟩, h5, h6⟩ := hf.get hw.sep
  rcases h4 with ⟨h8, _⟩ | ⟨b', c0, e2, g1, g2, g3, g4⟩
  · omega
  · injection e1 with e3 _ _
    rw [e2] at e3
    injection e3 with e3
    injection e3 with e3 _ _
    subst e3
    obtain ⟨c, k1, k2⟩ := hc.at_ i hil
    refine ⟨c, k1, Rep.len k1, fun j hj => ?_⟩
    have g2 : w.heap[b]? = some (.cells c0.toArray e (0, 0)) := g2
    rw [cell_blk g2, ← k2 j hj, ← g4, List.getElem?_take, if_pos]
    have : (i + 1) * Rep.sz α ≤ l.length * Rep.sz α := Nat.mul_le_mul_right _ hil
    rw [Nat.succ_mul] at this; omega
end
section
variable {P : Program} {q : Bool} {ops : Array Oper} {f : FuncId} {R : Ending → World → Prop} {k : List Item} {n : Nat} {fr : Nat → Value} {w0 : World} {M : Nat → Prop} {σ : PH} {K K' : List HP}
variable {rest : List Oper} {d : Nat} {ty : TypeId} {pos : String} {aft : Array Edge} {x y z : Operand} {t t' : TypeId}
variable {α : Type} {ri : Rep α} {N e : Nat} {l : List α} {put : HP → List HP}
theorem RS.addrD (v : Value) (h : ∀ b cap, v = .slice (some ⟨b, 0, none⟩) l.length cap → RS P f R k n fr w0 M σ K) (hf : FindD v K α ri N e l put K' := by infer_instance) (hn : 0 < l.length := by omega) : RS P f R k n fr w0 M σ K :=
  ⟨fun w hw => by
    obtain ⟨F1, ⟨cs, hc, h1, h1c, a, cap, e1, h2, h3, h4⟩, h5, h6⟩ := hf.get hw.sep
    rcases h4 with ⟨h8, _⟩ | ⟨b, c0, rfl, g1, g2, g3, g4⟩
    · omega
    · exact (h b cap e1).out w hw⟩
theorem RS.repD (v : Value) (i : Nat) {xx : α} (hi : l[i]? = some xx) (h : ∀ c, Rep.rep (fromN N σ) c xx → RS P f R k n fr w0 M σ K) (hf : FindD v K α ri N e l put K' := by infer_instance) : RS P f R k n fr w0 M σ K :=
  ⟨fun w hw => by
    obtain ⟨hil, hx⟩ := List.getElem?_eq_some_iff.1 hi
    subst hx
    obtain ⟨cs, hc, _⟩ := hw.openD hf
    obtain ⟨c, k1, _⟩ := hc.at_ i hil
    exact (h c k1).out w hw⟩
theorem ldD (v : Value) (i j : Nat) {b m cap off : Nat} {u : Value} {xx : α} [ht : TOne P t] (hi : l[i]? = some xx) (hu : ∀ σ c, Rep.rep σ c xx → nth c j = some u) (h : LS P q ops f R k rest n (upd fr d u) w0 M σ K)
    (hx : ev n fr x = .pointer (some ⟨b, off, none⟩) := by rfl) (ho : off = i * Rep.sz α + j := by first | rfl | exact Nat.zero_add _ | exact congrArg (fun q => q + _) (Nat.zero_add _)) (hv : v = .slice (some ⟨b, 0, none⟩) m cap := by rfl) (hf : FindD v K α ri N e l put K' := by infer_instance) (hj : j < Rep.sz α := by decide) :
    LS P q ops f R k (⟨some d, .load t x, ty, pos, aft, none⟩ :: rest) n fr w0 M σ K :=
  LS.val rfl rfl (fun w hw => by
    subst hv
    obtain ⟨c, h1, _, h2⟩ := hw.rowCell hf i hi
    have h3 := hu _ c h1
    rw [nth_eq] at h3
    have := run_loadVar1 (P := P) (w := w) (b := b) ht.agg off (by subst ho; exact (h2 j hj).trans h3)
    simp [execOp, hx, Instr.loadAt, Instr.sureAddr, this]) h
theorem ldDA (v : Value) (i j : Nat) {b m cap s off : Nat} (vs : List Value) {xx : α} [ht : TAgg P t] [hs : TSz P t s] (hi : l[i]? = some xx) (hu : ∀ σ c, Rep.rep σ c xx → takeAt c j s = some vs) (h : LS P q ops f R k rest n (upd fr d (.agg vs.toArray)) w0 M σ K)
    (hx : ev n fr x = .pointer (some ⟨b, off, none⟩) := by rfl) (ho : off = i * Rep.sz α + j := by first | rfl | exact Nat.zero_add _ | exact congrArg (fun q => q + _) (Nat.zero_add _)) (hv : v = .slice (some ⟨b, 0, none⟩) m cap := by rfl) (hf : FindD v K α ri N e l put K' := by infer_instance) (hj : j + s ≤ Rep.sz α := by decide) :
    LS P q ops f R k (⟨some d, .load t x, ty, pos, aft, none⟩ :: rest) n fr w0 M σ K :=
  LS.val rfl rfl (fun w hw => by
    subst hv
    obtain ⟨c, h1, _, h2⟩ := hw.rowCell hf i hi
    obtain ⟨hl, hc⟩ := takeAt_spec _ _ _ _ (hu _ c h1)
    subst ho
    have := run_loadVarA (P := P) (w := w) (b := b) ht.agg hs.eq (i * Rep.sz α + j) hl (fun jj hjj => by rw [Nat.add_assoc, h2 (j + jj) (by omega)]; exact hc jj hjj)
    simp [execOp, hx, Instr.loadAt, Instr.sureAddr, this]) h
variable {H : HS} {O : List (Nat × Obj)} {Kf : Us → List HP} {Kb : List HP} {E : List Nat} {tags : List Tag}
theorem D.ldD (v : Value) (i j : Nat) {b m cap off : Nat} {u : Value} {xx : α} [ht : TOne P t] (hi : l[i]? = some xx) (hu : ∀ σ c, Rep.rep σ c xx → nth c j = some u) (h : LD P f R k n w0 M σ Kb rest tags ⟨upd fr d u, H, O, Kf, E, false⟩)
    (hx : ∀ us, ev n (fill fr H us) x = .pointer (some ⟨b, off, none⟩) := by intro _; rfl) (ho : off = i * Rep.sz α + j := by first | rfl | exact Nat.zero_add _ | exact congrArg (fun q => q + _) (Nat.zero_add _)) (hv : v = .slice (some ⟨b, 0, none⟩) m cap := by rfl) (hf : FindD v Kb α ri N e l put K' := by infer_instance) (hj : j < Rep.sz α := by decide) :
    LD P f R k n w0 M σ Kb (⟨some d, .load t x, ty, pos, aft, none⟩ :: rest) (.ex :: tags) ⟨fr, H, O, Kf, E, false⟩ :=
  D.ex h fun us σ' w hle _ hw => by
    subst hv
    obtain ⟨c, h1, _, h2⟩ := hw.rowCell hf i hi
    have h3 := hu _ c h1
    rw [nth_eq] at h3
    have := run_loadVar1 (P := P) (w := w) (b := b) ht.agg off (by subst ho; exact (h2 j hj).trans h3)
    simp [execOp, hx us, Instr.loadAt, Instr.sureAddr, this]
theorem D.ldDA (v : Value) (i j : Nat) {b m cap s off : Nat} (vs : List Value) {xx : α} [ht : TAgg P t] [hs : TSz P t s] (hi : l[i]? = some xx) (hu : ∀ σ c, Rep.rep σ c xx → takeAt c j s = some vs) (h : LD P f R k n w0 M σ Kb rest tags ⟨upd fr d (.agg vs.toArray), H, O, Kf, E, false⟩)
    (hx : ∀ us, ev n (fill fr H us) x = .pointer (some ⟨b, off, none⟩) := by intro _; rfl) (ho : off = i * Rep.sz α + j := by first | rfl | exact Nat.zero_add _ | exact congrArg (fun q => q + _) (Nat.zero_add _)) (hv : v = .slice (some ⟨b, 0, none⟩) m cap := by rfl) (hf : FindD v Kb α ri N e l put K' := by infer_instance) (hj : j + s ≤ Rep.sz α := by decide) :
    LD P f R k n w0 M σ Kb (⟨some d, .load t x, ty, pos, aft, none⟩ :: rest) (.ex :: tags) ⟨fr, H, O, Kf, E, false⟩ :=
  D.ex h fun us σ' w hle _ hw => by
    subst hv
    obtain ⟨c, h1, _, h2⟩ := hw.rowCell hf i hi
    obtain ⟨hl, hc⟩ := takeAt_spec _ _ _ _ (hu _ c h1)
    subst ho
    have := run_loadVarA (P := P) (w := w) (b := b) ht.agg hs.eq (i * Rep.sz α + j) hl (fun jj hjj => by rw [Nat.add_assoc, h2 (j + jj) (by omega)]; exact hc jj hjj)
    simp [execOp, hx us, Instr.loadAt, Instr.sureAddr, this]
end
end Go.JW
namespace Go.Proofs.YthnoaapghcadgaaDoor
open Go.JW Go.RowKit
theorem plAt {p : PlaceD} (j : Nat) {u : Value} (h : nth (placeC p) j = some u) : ∀ σ c, Rep.rep σ c p → nth c j = some u := fun _ c hc => by rw [hc.1]; exact h
theorem plTake {p : PlaceD} {j s : Nat} {vs : List Value} (h : takeAt (placeC p) j s = some vs) : ∀ σ c, Rep.rep σ c p → takeAt c j s = some vs := fun _ c hc => by rw [hc.1]; exact h
end Go.Proofs.YthnoaapghcadgaaDoor
/- Plain: what holds of where all pods of a gang go (no program in sight). -/
namespace Go.Proofs.YthnoaapghcadgaaDoor
open Go.JW Go.RowKit
theorem all_each {S : LedD} {mode : Int} : ∀ {ps : List PodD} {own out : List PlaceD}, allP S mode ps own = some out → ∃ r, out = own ++ r ∧ r.length = ps.length ∧ ∀ i (h : i < ps.length) (h' : i < r.length), spotP S (own ++ r.take i) mode ps[i] = some r[i] := by
  intro ps
  induction ps with
  | nil => intro own out h; simp only [allP, Option.some.injEq] at h; exact ⟨[], by simp [h], rfl, fun i h => by simp at h⟩
  | cons p ps ih =>
    intro own out h
    simp only [allP] at h
    rcases opt_cases (spotP S own mode p) with e | ⟨x, e⟩
    · rw [e] at h; cases h
    · rw [e] at h
      obtain ⟨r, h1, h2, h3⟩ := ih h
      refine ⟨x :: r, by rw [h1]; simp, by simp [h2], fun i hi hi' => ?_⟩
      cases i with
      | zero => simpa using e
      | succ i =>
        have := h3 i (by simpa using hi) (by simpa using hi')
        simpa using this
/-- What is told of each place. -/
theorem all_fits {S : LedD} {mode : Int} {ps : List PodD} {out : List PlaceD} (h : allP S mode ps [] = some out) : out.length = ps.length ∧ ∀ i (h : i < ps.length) (h' : i < out.length),
    ∃ n ∈ nodesOf S, n.closed = false ∧ allIn ps[i].picks n.marks = true ∧ allIn n.taints ps[i].bears = true ∧ out[i] = ⟨ps[i].name, n.name, ps[i].cpu, ps[i].mem, ps[i].alone⟩ ∧ ∀ j (hj : j < i), out[j].node = out[i].node → ¬ (out[j].alone = true ∨ out[i].alone = true) := by
  obtain ⟨r, h1, h2, h3⟩ := all_each h
  rw [List.nil_append] at h1
  subst h1
  refine ⟨h2, fun i hi hi' => ?_⟩
  obtain ⟨n, hn, hm, hx⟩ := spot_some (h3 i hi hi')
  rw [List.nil_append] at hm
  obtain ⟨w1, w2, w3, _, w5, w6⟩ := whyP_zero (of_decide_eq_true hm)
  refine ⟨n, hn, w1, w2, w3, hx, fun j hj hjn => ?_⟩
  have hmem : out[j] ∈ nearP (out.take i) n.name := by
    refine List.mem_filter.2 ⟨?_, decide_eq_true (by rw [hjn, hx])⟩
    have : out[j] = (out.take i)[j]'(by rw [List.length_take]; omega) := by simp
    rw [this]; exact List.getElem_mem _
  rintro (ha | ha)
  · rw [List.any_eq_false] at w6
    exact w6 _ hmem ha
  · refine w5 ⟨by rw [hx] at ha; exact ha, List.length_pos_iff.2 (List.ne_nil_of_mem hmem)⟩
theorem all_none {S : LedD} {mode : Int} {kk : Nat} (hi : LedInv S kk) (hk : kk ≤ 1000000) {p : PodD} (hp : ∀ own, OwnOk S own → spotP S own mode p = none) : ∀ {ps : List PodD} {own : List PlaceD}, OwnOk S own → p ∈ ps → allP S mode ps own = none := by
  intro ps
  induction ps with
  | nil => intro own _ h; cases h
  | cons x ps ih =>
    intro own ho h
    simp only [allP]
    rcases opt_cases (spotP S own mode x) with e | ⟨y, e⟩
    · rw [e]
    · rw [e]
      rcases List.mem_cons.1 h with rfl | h
      · rw [hp own ho] at e; cases e
      · exact ih (spot_ok hi hk ho e) h
theorem spot_none_of {S : LedD} {own : List PlaceD} {mode : Int} {p : PodD} (h : ∀ n ∈ nodesOf S, mayP S own p n = false) : spotP S own mode p = none :=
  spot_none.2 (List.filter_eq_nil_iff.2 fun n hn => by rw [h n hn]; simp)
/-! the nodes that Both puts -/
theorem setN_mem {n : Int} {s : ByteArray} : ∀ {k}, k ≤ 4 → s ∈ setN n k → s ∈ marks4 := by
  intro k
  induction k with
  | zero => intro _ h; cases h
  | succ k ih =>
    intro hk h
    simp only [setN, List.mem_append] at h
    rcases h with h | h
    · exact ih (by omega) h
    · split at h
      · rw [List.mem_singleton] at h
        have h4 : marks4.length = 4 := rfl
        rw [h, getD_of (by omega)]; exact List.getElem_mem _
      · cases h
theorem bothN_all {ns : List Int} {P : NodeD → Prop} (h : ∀ i x, P (bothNode i x)) : ∀ k, ∀ p ∈ bothN ns k, P p.2 := by
  intro k
  induction k with
  | zero => intro p hp; cases hp
  | succ k ih =>
    intro p hp
    simp only [bothN] at hp
    unfold putN at hp
    split at hp
    · rcases mem_aset hp with hp | rfl
      · exact ih p hp
      · exact h _ _
    · exact ih p hp
theorem bothT_nodes (ns ms : List Int) : ∀ k, (bothT ns ms k).nodes = bothN ns (min 6 ns.length) := by
  intro k
  induction k with
  | zero => rfl
  | succ k ih => exact ih
theorem bothOf_all {ns ms : List Int} {P : NodeD → Prop} (h : ∀ i x, P (bothNode i x)) : ∀ n ∈ nodesOf (bothOf ns ms), P n := by
  intro n hn
  obtain ⟨p, hp, rfl⟩ := List.mem_map.1 hn
  have h1 := mem_sortK.1 hp
  unfold bothOf at h1
  rw [bothT_nodes] at h1
  exact bothN_all h _ p h1
theorem bothOf_nil (ns : List Int) : (bothOf ns []).taken = [] := rfl
end Go.Proofs.YthnoaapghcadgaaDoor
/- Contract: the document's answer of where a gang goes. -/
namespace Go.Proofs.YthnoaapghcadgaaDoor
open Go.JW Go.RowKit
section
variable {w0 w : World} {M : Nat → Prop} {σ : PH} {K : List HP} {br : Nat} {S : LedD}
end
end Go.Proofs.YthnoaapghcadgaaDoor
/- Rules: what the statements of chapter 8 call. -/
namespace Go.JW
section
variable {P : Program} {f : FuncId} {R : Ending → World → Prop} {k : List Item} {n : Nat} {fr : Nat → Value} {w0 : World} {M : Nat → Prop} {σ : PH}
variable {rest : List Oper} {d : Nat} {ty : TypeId} {pos : String} {aft : Array Edge} {x : Operand}
variable {H : HS} {O : List (Nat × Obj)} {Kf : Us → List HP} {Kb : List HP} {E : List Nat} {tags : List Tag}
theorem D.mvF8 (T : Value → PH → Prop) (hT : MonoT T) (h : LD P f R k n w0 M σ Kb rest tags ⟨fr, (d, T) :: H, O, Kf, E, false⟩)
    (ho : ∀ us σ', PH.le σ σ' → Facts H (readsTmp ⟨some d, .move x, ty, pos, aft, none⟩) us σ' → T (ev n (fill fr H us) x) σ') :
    LD P f R k n w0 M σ Kb (⟨some d, .move x, ty, pos, aft, none⟩ :: rest) (.ex :: tags) ⟨fr, H, O, Kf, E, false⟩ :=
  D.gr T hT h fun us σ' w hle hf hw => .inl ⟨_, w, by simp [execOp], RowKit.Below.refl _ _, hT _ _ _ (ho us σ' hle hf) (grow_le hw)⟩
theorem D.exT {i : Nat} (T : Value → PH → Prop) (hT : MonoT T) (h : LD P f R k n w0 M σ Kb rest tags ⟨fr, (d, T) :: H, O, Kf, E, false⟩)
    (ho : ∀ us σ', PH.le σ σ' → Facts H (readsTmp ⟨some d, .extract x i, ty, pos, aft, none⟩) us σ' → ∃ l v, ev n (fill fr H us) x = .tuple (List.toArray l) ∧ nth l i = some v ∧ T v σ') :
    LD P f R k n w0 M σ Kb (⟨some d, .extract x i, ty, pos, aft, none⟩ :: rest) (.ex :: tags) ⟨fr, H, O, Kf, E, false⟩ :=
  D.gr T hT h fun us σ' w hle hf hw => by
    obtain ⟨l, v, h1, h2, h3⟩ := ho us σ' hle hf
    rw [nth_eq] at h2
    exact .inl ⟨v, w, by simp [execOp, h1, Instr.extract, h2], RowKit.Below.refl _ _, hT _ _ _ h3 (grow_le hw)⟩
end
end Go.JW
namespace Go.Proofs.YthnoaapghcadgaaDoor
open Go.JW Go.RowKit
theorem packS_len {S : LedD} {g : Int} {pods : List PodD} {mode : Int} {kk : Nat} (hi : LedInv S kk) (hk : kk ≤ 1000000) : (packS S g pods mode).taken.length ≤ S.taken.length + 1 := by
  by_cases h : packE S g pods mode = 0
  · rw [(packS_take hi hk h).1]; exact takeT_len _ _ _
  · rw [packS, if_neg h]; omega
/-- What comes of packing: places, and an error's number. -/
def TP (E : Int) (L : List PlaceD) : Value → PH → Prop := fun u σ => ∃ v, u = .tuple (List.toArray [v, .int .i64 E]) ∧ RepL σ v L
theorem TP.mono (E : Int) (L : List PlaceD) : MonoT (TP E L) := fun _ _ _ ⟨v, h1, h2⟩ hs => ⟨v, h1, h2.mono hs⟩
def TL {α : Type} [Rep α] (L : List α) : Value → PH → Prop := fun v σ => RepL σ v L
theorem TL.mono {α : Type} [Rep α] (L : List α) : MonoT (TL L) := fun _ _ _ h hs => RepL.mono h hs
def TI (E : Int) : Value → PH → Prop := fun v _ => v = .int .i64 E
theorem TI.mono (E : Int) : MonoT (TI E) := fun _ _ _ h _ => h
section
variable {q : Bool} {ops : Array Oper} {f : FuncId} {R : Ending → World → Prop} {k : List Item} {n : Nat} {fr : Nat → Value} {w0 : World} {M : Nat → Prop} {σ : PH} {K K' K1 : List HP}
variable {rest : List Oper} {d : Nat} {ty : TypeId} {pos : String} {aft : Array Edge} {xs : Array Operand} {ts : Array TypeId} {bl br : Nat} {S : LedD} {put : HP → List HP}
theorem bothLL (ns ms : List Int) (vn vm : Value) (hr : RepL σ vn ns) (hrm : RepL σ vm ms)
    (h : ∀ bl br σ', PH.le σ σ' → LS Tryd.prog false ops f R k rest n (upd fr d (.tuple #[.pointer (some ⟨bl, 0, none⟩), .pointer (some ⟨br, 0, none⟩)])) w0 M σ' (ledHP bl (bothOf ns ms) :: refHP br (bothOf ns ms) :: K))
    (hx : xs.toList.map (ev n fr) = [vn, vm] := by rfl) :
    LS Tryd.prog false ops f R k (⟨some d, .call ⟨.value (.func 13), xs, ts⟩, ty, pos, aft, none⟩ :: rest) n fr w0 M σ K :=
  LS.enterW rfl rfl (fun w _ => exec_call Fun.eq hx w) fun w hw => (bothE_s ns ms vn vm hr hrm hw).mono fun _ _ ⟨bl, br, σ', he, hle, hs⟩ => ⟨_, σ', _, he, hs, h bl br σ' hle⟩
theorem podsLL (ps : List Int) (vp : Value) (hr : RepL σ vp ps)
    (h : ∀ v σ', PH.le σ σ' → RepL σ' v (podsOf ps) → LS Tryd.prog false ops f R k rest n (upd fr d v) w0 M σ' K)
    (hx : xs.toList.map (ev n fr) = [vp] := by rfl) :
    LS Tryd.prog false ops f R k (⟨some d, .call ⟨.value (.func 14), xs, ts⟩, ty, pos, aft, none⟩ :: rest) n fr w0 M σ K :=
  callT (fun v τ => RepL τ v (podsOf ps)) (fun v _ σ' hq _ hle hτ => h v σ' hle (hq.mono hτ)) (fun w' hw => pods8_c ps _ w' (hr.mono hw.imm)) hx
variable {H : HS} {O : List (Nat × Obj)} {Kb : List HP} {E0 : List Nat} {tags : List Tag} {vP : Us → Value}
theorem D.packT (g : Int) (pods : List PodD) (vP : Us → Value) (mode E : Int) (L : List PlaceD) (S' : LedD) {kk : Nat} (hi : LedInv S kk) (hk : kk ≤ 1000000) (hl : pods.length ≤ 800) (hT : TopsAt σ) (hE : packE S g pods mode = E) (hL : packL S g pods mode = L) (hS : packS S g pods mode = S')
    (h : LD Tryd.prog f R k n w0 M σ Kb rest tags ⟨fr, (d, TP E L) :: H, O, fun _ => put (ledHP bl S'), d :: ((Stg.mk fr H O (fun _ => K) E0 false).seen ⟨some d, .call ⟨.value (.func 12), xs, ts⟩, ty, pos, aft, none⟩ ++ E0), false⟩)
    (hp' : ∀ us σ', PH.le σ σ' → Facts H (readsTmp ⟨some d, .call ⟨.value (.func 12), xs, ts⟩, ty, pos, aft, none⟩) us σ' → RepL σ' (vP us) pods)
    (hx : ∀ us, xs.toList.map (ev n (fill fr H us)) = [.pointer (some ⟨bl, 0, none⟩), .int .i64 g, vP us, .int .i64 mode] := by intro _; rfl) (hf : FindL bl K S put K' := by infer_instance) (hLs : Less (put (ledHP bl S')) Kb := by infer_instance) :
    LD Tryd.prog f R k n w0 M σ Kb (⟨some d, .call ⟨.value (.func 12), xs, ts⟩, ty, pos, aft, none⟩ :: rest) (.eff :: tags) ⟨fr, H, O, fun _ => K, E0, false⟩ := by
  subst hE; subst hL; subst hS
  refine D.eff (TP _ _) (fun _ => put (ledHP bl (packS S g pods mode))) _ (TP.mono _ _) (fun _ => hLs) h fun us σ' w X hle hfs hw => ?_
  refine .inr ⟨_, _, exec_call Fun.eq (hx us) w, ?_⟩
  have hw' : Sat w0 M σ' (ledHP bl S :: X :: K') w := hw.weak fun _ h => (SepIn.cons_sub (fun _ => hf.get) h).swap
  exact (pack_s g pods (vP us) mode hi hk hl (hT.mono hle) (hp' us σ' hle hfs) hw').mono fun _ _ ⟨v, σ'', he, h1, h2, h3⟩ => ⟨_, he, σ'', h1, h3.weak fun _ h => SepIn.cons_sub (fun _ => hf.set) h.swap, v, rfl, h2⟩
end
end Go.Proofs.YthnoaapghcadgaaDoor
