/- Rows told by data: written into, cut short. -/
import Derived.Test.YthnoaapghcadgaaDoorRowD
namespace Go.JW

theorem setAt_left : ∀ (a c : List Value) (k : Nat) (vs : List Value), k + vs.length ≤ a.length → setAt (a ++ c) k vs = setAt a k vs ++ c := by
  intro a
  induction a with
  | nil => intro c k vs h; cases vs with
    | nil => simp [setAt_nil]
    | cons v vs => simp at h
  | cons x a ih =>
    intro c k vs h
    cases vs with
    | nil => simp [setAt_nil]
    | cons v vs =>
      cases k with
      | zero => simp only [List.cons_append, setAt]; rw [ih c 0 vs (by simp at h ⊢; omega)]
      | succ k => simp only [List.cons_append, setAt]; rw [ih c k (v :: vs) (by simp at h ⊢; omega)]
theorem setAt_right : ∀ (a c : List Value) (k : Nat) (vs : List Value), setAt (a ++ c) (a.length + k) vs = a ++ setAt c k vs := by
  intro a
  induction a with
  | nil => intro c k vs; simp
  | cons x a ih =>
    intro c k vs
    cases vs with
    | nil => simp [setAt_nil]
    | cons v vs =>
      have := ih c k (v :: vs)
      simp only [List.length_cons, List.cons_append]
      rw [show a.length + 1 + k = (a.length + k) + 1 by omega]
      simp only [setAt]; rw [this]
theorem setAt_len : ∀ (a : List Value) (k : Nat) (vs : List Value), (setAt a k vs).length = a.length := by
  intro a
  induction a with
  | nil => intro k vs; cases vs <;> simp [setAt]
  | cons x a ih =>
    intro k vs
    cases vs with
    | nil => simp [setAt_nil]
    | cons v vs =>
      cases k with
      | zero => simp [setAt, ih]
      | succ k => simp [setAt, ih]
theorem take_setAt (c0 : List Value) (n k : Nat) (vs : List Value) (h : k + vs.length ≤ n) (hn : n ≤ c0.length) : (setAt c0 k vs).take n = setAt (c0.take n) k vs := by
  have e : c0 = c0.take n ++ c0.drop n := (List.take_append_drop n c0).symm
  have hl : (c0.take n).length = n := by rw [List.length_take]; omega
  conv => lhs; rw [e]
  rw [setAt_left _ _ _ _ (by omega), List.take_append_of_le_length (by rw [setAt_len]; omega), List.take_of_length_le (by rw [setAt_len]; omega)]
section
variable {α : Type} [Rep α] {σ : PH}
theorem CellsL.at_ : ∀ {l : List α} {cs : List Value}, CellsL σ cs l → ∀ i (hi : i < l.length), ∃ c, Rep.rep σ c l[i] ∧ ∀ j, j < Rep.sz α → cs[i * Rep.sz α + j]? = c[j]? := by
  intro l
  induction l with
  | nil => intro cs _ i hi; simp at hi
  | cons x l ih =>
    rintro cs ⟨c1, c2, rfl, h1, h2⟩ i hi
    have hl := Rep.len h1
    cases i with
    | zero => exact ⟨c1, h1, fun j hj => by rw [Nat.zero_mul, Nat.zero_add, List.getElem?_append_left (by omega)]⟩
    | succ i =>
      obtain ⟨c, g1, g2⟩ := ih h2 i (by simpa using hi)
      refine ⟨c, by simpa using g1, fun j hj => ?_⟩
      rw [← g2 j hj, List.getElem?_append_right (by rw [Nat.succ_mul]; omega), hl, Nat.succ_mul]; congr 1; omega
theorem CellsL.write : ∀ {l : List α} {cs : List Value}, CellsL σ cs l → ∀ (i : Nat) (hi : i < l.length) (f : Nat) (vs : List Value), f + vs.length ≤ Rep.sz α → ∀ x' : α, (∀ c, Rep.rep σ c l[i] → Rep.rep σ (setAt c f vs) x') → CellsL σ (setAt cs (i * Rep.sz α + f) vs) (l.set i x') := by
  intro l
  induction l with
  | nil => intro cs _ i hi; simp at hi
  | cons x l ih =>
    rintro cs ⟨c1, c2, rfl, h1, h2⟩ i hi f vs hf x' hx
    have hl := Rep.len h1
    cases i with
    | zero =>
      rw [Nat.zero_mul, Nat.zero_add, setAt_left _ _ _ _ (by omega)]
      exact ⟨_, _, rfl, hx _ h1, h2⟩
    | succ i =>
      rw [show (i + 1) * Rep.sz α + f = c1.length + (i * Rep.sz α + f) by rw [hl, Nat.succ_mul]; omega, setAt_right]
      exact ⟨_, _, rfl, h1, ih h2 i (by simpa using hi) f vs hf x' (fun c hc => hx c (by simpa using hc))⟩
theorem CellsL.take : ∀ {l : List α} {cs : List Value}, CellsL σ cs l → ∀ k, CellsL σ (cs.take (k * Rep.sz α)) (l.take k) := by
  intro l
  induction l with
  | nil => intro cs h k; simp only [CellsL] at h; subst h; simp [CellsL]
  | cons x l ih =>
    rintro cs ⟨c1, c2, rfl, h1, h2⟩ k
    have hl := Rep.len h1
    cases k with
    | zero => simp [CellsL]
    | succ k =>
      refine ⟨c1, c2.take (k * Rep.sz α), ?_, h1, ih h2 k⟩
      rw [List.take_append, List.take_of_length_le (by rw [Nat.succ_mul]; omega)]; congr 2; rw [Nat.succ_mul]; omega
end
section
variable {P : Program} {q : Bool} {ops : Array Oper} {f : FuncId} {R : Ending → World → Prop} {k : List Item} {n : Nat} {fr : Nat → Value} {w0 : World} {M : Nat → Prop} {σ : PH} {K K' : List HP}
variable {v : Value} {α : Type} {ri : Rep α} {N e : Nat} {l l' : List α} {put : HP → List HP}
/-- A row with something in it: its block, whole. -/
theorem RS.openRowD (v : Value) (h : ∀ b c0 cap, v = .slice (some ⟨b, 0, none⟩) l.length cap → l.length ≤ cap → cap ≤ 9223372036854775807 → cap * Rep.sz α ≤ c0.length → CellsL (fromN N σ) (c0.take (l.length * Rep.sz α)) l → RS P f R k n fr w0 M σ (blk b (.cells (List.toArray c0) e (0, 0)) :: K')) (hf : FindD v K α ri N e l put K' := by infer_instance) (hn : 0 < l.length := by omega) :
    RS P f R k n fr w0 M σ K :=
  ⟨fun w hw => by
    obtain ⟨F1, ⟨cs, hc, h1, h1c, a, cap, e1, h2, h3, h4⟩, h5, h6⟩ := hf.get hw.sep
    rcases h4 with ⟨h8, _⟩ | ⟨b, c0, rfl, g1, g2, g3, g4⟩
    · omega
    · exact (h b c0 cap e1 h2 h3 g3 (by rw [g4]; exact hc)).out w ⟨hw.os, hw.tape, hw.output, hw.size, hw.keep, hw.imm, F1, ⟨g1, g2⟩, h5, h6⟩⟩
theorem RS.closeRowD [Rep α] (N : Nat) (l : List α) {b e s m cap : Nat} {c0 : List Value} (hm : m ≤ cap) (hcap : cap ≤ 9223372036854775807) (hl : cap * s ≤ c0.length) (hc : CellsL (fromN N σ) (c0.take (m * s)) l)
    (h : RS P f R k n fr w0 M σ (rowD N e (.slice (some ⟨b, 0, none⟩) m cap) l :: K')) (hf : FindB b K (.cells c0.toArray e (0, 0)) put K' := by infer_instance) (hml : m = l.length := by first | rfl | simp | omega) (hs : s = Rep.sz α := by rfl) : RS P f R k n fr w0 M σ K :=
  ⟨fun w hw => h.out w (by
    subst hml; subst hs
    refine hw.weak fun F hF => ?_
    obtain ⟨F1, ⟨g1, g2⟩, g3, g4⟩ := hf.get hF
    have hle : l.length * Rep.sz α ≤ cap * Rep.sz α := Nat.mul_le_mul_right _ hm
    exact ⟨F1, ⟨_, hc, by rw [List.length_take]; omega, hc.one, _, _, rfl, hm, hcap, .inr ⟨b, c0, rfl, g1, g2, hl, rfl⟩⟩, g3, g4⟩)⟩
/-- The first so many. -/
theorem RS.cutD {a : Option Addr} {m cap : Nat} (kk : Nat) (hk : kk ≤ l.length) (hf : FindD (.slice a m cap) K α ri N e l put K') (h : RS P f R k n fr w0 M σ (rowD N e (.slice a kk cap) (l.take kk) :: K')) : RS P f R k n fr w0 M σ K :=
  ⟨fun w hw => h.out w (by
    refine hw.weak fun F hF => ?_
    obtain ⟨F1, ⟨cs, hc, h1, h1c, a', cap', e1, h2, h3, h4⟩, h5, h6⟩ := hf.get hF
    injection e1 with e1 e2 e3
    subst e1; subst e2; subst e3
    have hlen : (l.take kk).length = kk := by rw [List.length_take]; omega
    have hmul : kk * Rep.sz α ≤ l.length * Rep.sz α := Nat.mul_le_mul_right _ hk
    refine ⟨F1, ⟨cs.take (kk * Rep.sz α), hc.take kk, by rw [List.length_take, hlen]; omega, (hc.take kk).one, a, cap, by rw [hlen], by omega, h3, ?_⟩, h5, h6⟩
    rcases h4 with ⟨g2, g3⟩ | ⟨b, c0, g1, g2, g3, g4, g5⟩
    · exact .inl ⟨by omega, g3⟩
    · exact .inr ⟨b, c0, g1, g2, g3, g4, by rw [hlen, ← g5, List.take_take]; congr 1; omega⟩)⟩
variable {H : HS} {O : List (Nat × Obj)} {Kf : Us → List HP} {Kb : List HP} {E : List Nat} {sg : Bool} {tags : List Tag} {rest : List Oper} {d : Nat} {ty : TypeId} {pos : String} {aft : Array Edge} {x y z : Operand} {t t' : TypeId}
theorem D.slcHi (l : Nat) {a : Option Addr} {len cap s : Nat} {e : TypeId} {lo : Operand} {kk : IntKind} {j : Int} [ht : TSlice P t e] [hs : TSz P e s]
    (h : LD P f R k n w0 M σ Kb rest tags ⟨upd fr d (.slice a l cap), H, O, Kf, E, sg⟩) (hx : ∀ us, ev n (fill fr H us) x = .slice a len cap := by intro _; rfl) (hlo : ∀ us, ev n (fill fr H us) lo = .int kk j := by intro _; rfl) (hj : j = (l : Int) := by omega) (hl : l ≤ cap := by omega) :
    LD P f R k n w0 M σ Kb (⟨some d, .slice t x none (some lo) none, ty, pos, aft, none⟩ :: rest) (.free :: tags) ⟨fr, H, O, Kf, E, sg⟩ := by
  refine D.slc 0 l cap ?_ hx (fun us w => by subst hj; simp [Instr.sliceBounds, hlo us, run_sliceBound, hl])
  have e : (a.map (·.add (0 * s))) = a := by cases a <;> simp [Addr.add]
  simp only [e, Nat.sub_zero, ite_self]; exact h
end
end Go.JW
