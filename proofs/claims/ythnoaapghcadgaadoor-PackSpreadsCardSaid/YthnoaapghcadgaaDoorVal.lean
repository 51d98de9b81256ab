/- More rules: literals of structs and slices; rows of a call's own; append. -/
import Derived.Test.YthnoaapghcadgaaDoorRep
import Derived.Deep.AppendSrc
import Derived.Laws.Slices
import Derived.Laws.BytesString
namespace Go.JW

/-! ### literals, as lists -/
def plOf (P : Program) (t : TypeId) : Option (List (Nat × Nat)) :=
  match P.underlying t with
  | some (.struct fs) => fs.toList.mapM fun f => (szOf P f.type).map fun s => (f.offset, s)
  | _ => none
class TPl (P : Program) (t : TypeId) (pl : outParam (List (Nat × Nat))) : Prop where eq : plOf P t = some pl
def nthP : List (Nat × Nat) → Nat → Option (Nat × Nat)
  | [], _ => none
  | p :: _, 0 => some p
  | _ :: l, i + 1 => nthP l i
theorem nthP_eq (l : List (Nat × Nat)) (i : Nat) : nthP l i = l[i]? := by
  induction l generalizing i with
  | nil => simp [nthP]
  | cons v l ih => cases i <;> simp [nthP, ih]
def fillL (place : Nat → Option (Nat × Nat)) (cells : List Value) : List (Nat × Value) → Option (List Value)
  | [] => some cells
  | (i, v) :: rest =>
    match place i with
    | none => none
    | some (off, size) => bif Nat.beq (cellsL v).length size && Nat.ble (off + (cellsL v).length) cells.length then fillL place (setAt cells off (cellsL v)) rest else none
theorem foldl_set (off : Nat) : ∀ (vs : List Value) (j : Nat) (cs : Array Value), (vs.zipIdx j).foldl (fun (cs : Array Value) (p : Value × Nat) => cs.setIfInBounds (off + p.2) p.1) cs = (setAt cs.toList (off + j) vs).toArray := by
  intro vs
  induction vs with
  | nil => intro j cs; simp [setAt_nil]
  | cons v vs ih =>
    intro j cs
    rw [List.zipIdx_cons, List.foldl_cons, ih, setAt_cons]
    simp [Nat.add_assoc]
theorem fill_list (place : Nat → Option (Nat × Nat)) : ∀ (parts : List (Nat × Value)) (cells cs : List Value), fillL place cells parts = some cs → Instr.fill place cells.toArray parts = some cs.toArray := by
  intro parts
  induction parts with
  | nil => intro cells cs h; simp [fillL] at h; subst h; rfl
  | cons p parts ih =>
    obtain ⟨i, v⟩ := p
    intro cells cs h
    simp only [fillL] at h
    cases hp : place i with
    | none => simp [hp] at h
    | some q =>
      obtain ⟨off, size⟩ := q
      simp only [hp] at h
      cases hc : (Nat.beq (cellsL v).length size && Nat.ble (off + (cellsL v).length) cells.length) with
      | false => simp [hc] at h
      | true =>
        simp only [hc, cond_true] at h
        rw [Bool.and_eq_true, Nat.ble_eq] at hc
        have h1 := Nat.eq_of_beq_eq_true hc.1
        have hz : v.cells.size = (cellsL v).length := by rw [← cells_toList]; simp
        simp only [Instr.fill, hp]
        rw [if_neg (by rw [hz]; simp; omega)]
        have e : (v.cells.zipIdx.foldl (fun cs (c, j) => cs.setIfInBounds (off + j) c) cells.toArray) = (setAt cells off (cellsL v)).toArray := by
          have := foldl_set off (cellsL v) 0 cells.toArray
          rw [← Array.foldl_toList]
          rw [Array.toList_zipIdx, cells_toList]
          simpa using this
        rw [e]
        exact ih _ _ h

section
variable {P : Program}
theorem run_places {fs : Array Field} {pl : List (Nat × Nat)} (w : World) (h : fs.toList.mapM (fun f => (szOf P f.type).map fun s => (f.offset, s)) = some pl) :
    (fs.mapM fun f => do pure (f.offset, ← sizeOf f.type) : Sem _).run P w = .ok pl.toArray w := by
  have key : ∀ (l : List Field) (pl : List (Nat × Nat)), l.mapM (fun f => (szOf P f.type).map fun s => (f.offset, s)) = some pl → (l.mapM fun f => do pure (f.offset, ← sizeOf f.type) : Sem _).run P w = .ok pl w := by
    intro l
    induction l with
    | nil => intro pl h; simp at h; subst h; simp
    | cons f l ih =>
      intro pl h
      rw [List.mapM_cons] at h
      cases hs : szOf P f.type with
      | none => simp [hs] at h
      | some s =>
        cases hm : l.mapM (fun f => (szOf P f.type).map fun s => (f.offset, s)) with
        | none => simp [hs, hm] at h
        | some pl' =>
          simp [hs, hm] at h
          subst h
          have := ih pl' hm
          simp at this
          simp [List.mapM_cons, run_sz w hs, this]
  have := key fs.toList pl h
  rw [Array.mapM_eq_mapM_toList]
  show (Bind.bind _ _ : Sem _).run P w = _
  rw [Sem.run_bind, this]
  rfl
theorem run_build {t : TypeId} {pl : List (Nat × Nat)} {zs cs : List Value} {parts : List (Nat × Value)} (w : World) (hp : plOf P t = some pl) (hz : zeroOf P t = some zs) (h : fillL (nthP pl) zs parts = some cs) :
    (Instr.build t parts.toArray).run P w = .ok (.agg cs.toArray) w := by
  unfold plOf at hp
  cases hu : P.underlying t with
  | none => simp [hu] at hp
  | some dd =>
    cases dd <;> simp only [hu] at hp <;> try cases hp
    rename_i fs
    obtain ⟨z, h1, h2⟩ := zero_cells hz w
    have h3 := run_places w hp
    have e : (fun i => pl.toArray[i]?) = nthP pl := by funext i; rw [nthP_eq]; simp
    have h4 := fill_list (nthP pl) parts zs cs h
    simp only [Instr.build, Sem.run_bind, h1, Result.andThen_ok, run_underlying hu, h3, h2]
    rw [e, h4]
    rfl
end
/-- Elements one behind the other. -/
def catL (s : Nat) : List Value → Option (List Value)
  | [] => some []
  | v :: l => bif Nat.beq (cellsL v).length s then (catL s l).map (cellsL v ++ ·) else none
theorem setAt_mid : ∀ (a b c d : List Value), b.length = d.length → setAt (a ++ b ++ c) a.length d = a ++ d ++ c := by
  intro a
  induction a with
  | nil =>
    intro b c d
    induction b generalizing d with
    | nil => intro h; cases d with
      | nil => simp [setAt_nil]
      | cons _ _ => simp at h
    | cons x b ih =>
      intro h
      cases d with
      | nil => simp at h
      | cons y d =>
        have := ih d (by simpa using h)
        simp only [List.nil_append, List.length_nil] at this
        simp only [List.nil_append, List.cons_append, List.length_nil, setAt, this]
  | cons x a ih =>
    intro b c d h
    have := ih b c d h
    cases d with
    | nil => simp [setAt_nil] at *; exact h
    | cons y d => simp only [List.cons_append, List.length_cons, setAt] at this ⊢; rw [this]
theorem fill_cat (s : Nat) : ∀ (l : List Value) (cs : List Value) (i : Nat) (a b : List Value), catL s l = some cs → a.length = i * s → b.length = l.length * s →
    fillL (fun i => some (i * s, s)) (a ++ b) (l.zipIdx i |>.map fun p => (p.2, p.1)) = some (a ++ cs) := by
  intro l
  induction l with
  | nil => intro cs i a b h ha hb; simp [catL] at h; subst h; simp at hb; subst hb; simp [fillL]
  | cons v l ih =>
    intro cs i a b h ha hb
    simp only [catL] at h
    cases hc : Nat.beq (cellsL v).length s with
    | false => simp [hc] at h
    | true =>
      simp only [hc, cond_true, Option.map_eq_some_iff] at h
      obtain ⟨cs', h1, rfl⟩ := h
      have hl := Nat.eq_of_beq_eq_true hc
      simp only [List.length_cons, Nat.succ_mul] at hb
      have e1 : b = b.take s ++ b.drop s := (List.take_append_drop s b).symm
      have ht : (b.take s).length = s := by rw [List.length_take]; omega
      have hd : (b.drop s).length = l.length * s := by rw [List.length_drop]; omega
      simp only [List.zipIdx_cons, List.map_cons, fillL]
      have hc2 : (Nat.beq (cellsL v).length s && Nat.ble (i * s + (cellsL v).length) (a ++ b).length) = true := by
        rw [Bool.and_eq_true, Nat.ble_eq]; refine ⟨hc, ?_⟩; rw [List.length_append]; omega
      rw [hc2, cond_true, ← ha, e1, ← List.append_assoc, setAt_mid a (b.take s) (b.drop s) (cellsL v) (by omega)]
      have := ih cs' (i + 1) (a ++ cellsL v) (b.drop s) h1 (by rw [List.length_append, Nat.succ_mul]; omega) hd
      rw [this, List.append_assoc]
theorem run_buildSlice {P : Program} {t e : TypeId} {s : Nat} {zs cs vs : List Value} {parts : List (Nat × Value)} (w : World) (ht : P.underlying t = some (.slice e)) (hs : szOf P e = some s) (hz : zeroOf P e = some zs) (hp : parts = vs.zipIdx.map fun p => (p.2, p.1))
    (hc : catL s vs = some cs) (hb : vs.length * s ≤ 16777216) : (Instr.buildSlice t vs.length parts.toArray).run P w = .ok (.slice (some ⟨w.heap.size, 0, none⟩) vs.length vs.length) (w.alloc (.cells cs.toArray e)) := by
  subst hp
  obtain ⟨z, h1, h2⟩ := zero_cells hz w
  have key : ∀ zc : Array Value, Instr.fill (fun i => some (i * s, s)) ((Array.range (vs.length * s)).map (fun x => zc[x % zc.size]!)) (vs.zipIdx.map fun p => (p.2, p.1)) = some cs.toArray := by
    intro zc
    have hl := fill_cat s vs cs 0 [] ((Array.range (vs.length * s)).map (fun x => zc[x % zc.size]!)).toList hc (by simp) (by simp)
    have := fill_list _ _ _ _ hl
    rwa [List.nil_append, Array.toArray_toList] at this
  have hb' : ¬ (16777216 < vs.length * s) := by omega
  by_cases h0 : vs.length * s = 0
  · have := key #[]
    simp only [h0] at this
    simp at this
    simp [Instr.buildSlice, run_underlying ht, run_sz w hs, h0, this, newRow]
  · have := key z.cells
    simp [Instr.buildSlice, run_underlying ht, run_sz w hs, hb', h0, h1, this, newRow]

/-! ### rows of a call's own -/
/-- A slice of m elements that is the call's own (its spare cells too). -/
def rowH (e : TypeId) (s : Nat) (v : Value) (m : Nat) (cs : List Value) : HP :=
  ⟨fun g F => cs.length = m * s ∧ cs.all (·.oneCell') = true ∧ ∃ a cap, v = .slice a m cap ∧ m ≤ cap ∧ cap ≤ 9223372036854775807 ∧ ((m = 0 ∧ cap = 0) ∨ ∃ b c0, a = some ⟨b, 0, none⟩ ∧ F b ∧ g.cur b = some (.cells (List.toArray c0) e (0, 0)) ∧ cap * s ≤ c0.length ∧ c0.take (m * s) = cs),
   fun ⟨h1, h0, a, cap, h2, h3, h4, h5⟩ hg _ => ⟨h1, h0, a, cap, h2, h3, h4, h5.elim .inl fun ⟨b, c0, h6, h7, h8, h9⟩ => .inr ⟨b, c0, h6, h7, by rw [hg _ h7]; exact h8, h9⟩⟩⟩
class FindR (v : Value) (K : List HP) (e s m : outParam Nat) (cs : outParam (List Value)) (put : outParam (HP → List HP)) (K' : outParam (List HP)) : Prop where
  get : ∀ {g : VH} {F : Nat → Prop}, SepIn g K F → SepIn g (rowH e s v m cs :: K') F
  set : ∀ {A : HP} {g : VH} {F : Nat → Prop}, SepIn g (A :: K') F → SepIn g (put A) F
instance FindR.tail {v : Value} {K : List HP} {e s m : Nat} {cs : List Value} {put : HP → List HP} {K' : List HP} {B : HP} [i : FindR v K e s m cs put K'] : FindR v (B :: K) e s m cs (fun A => B :: put A) (B :: K') where
  get h := SepIn.swap (SepIn.cons_sub (fun _ => i.get) h)
  set h := SepIn.cons_sub (fun _ => i.set) (SepIn.swap h)
instance FindR.head {v : Value} {K : List HP} {e s m : Nat} {cs : List Value} : FindR v (rowH e s v m cs :: K) e s m cs (fun A => A :: K) K where
  get h := h
  set h := h
section
variable {P : Program}
theorem run_append_roomL {w : World} {t tx ty e : TypeId} {s b m cap k : Nat} {c0 news : List Value} {x : Value} (ht : P.underlying t = some (.slice e)) (hs : szOf P e = some s) (hb : w.heap[b]? = some (.cells c0.toArray e (0, 0))) (hx : Src P s tx x k news w)
    (hroom : m + k ≤ cap) (hc : cap * s ≤ c0.length) :
    (Builtin.append_ #[t, tx] ty #[.slice (some ⟨b, 0, none⟩) m cap, x]).run P w = .ok (.slice (some ⟨b, 0, none⟩) (m + k) cap) { w with heap := w.heap.setIfInBounds b (.cells (setAt c0 (m * s) news).toArray e (0, 0)) } := by
  have hl : (m + k) * s ≤ cap * s := Nat.mul_le_mul_right s hroom
  rw [Nat.add_mul] at hl
  have hst := run_storeCellsL (P := P) (b := b) (T := e) (m * s) news 0 w c0 hb (by rw [hx.newsLen]; omega) (by rw [List.all_eq_true]; exact hx.one)
  have hsz := run_sz (P := P) w hs
  rcases hx.kind with ⟨e', hk⟩ | hk <;> simp [Builtin.append_, run_underlying ht, run_underlying hk, hsz, hx.len, hroom, hx.cells, add_off, hst]
theorem setAt_take : ∀ (l : List Value) (i : Nat) (vs : List Value), i + vs.length ≤ l.length → (setAt l i vs).take (i + vs.length) = l.take i ++ vs := by
  intro l
  induction l with
  | nil => intro i vs h; cases vs with
    | nil => simp [setAt]
    | cons v vs => simp at h
  | cons u l ih =>
    intro i vs h
    cases vs with
    | nil => simp [setAt]
    | cons v vs =>
      cases i with
      | zero => have := ih 0 vs (by simp at h ⊢; omega); simp [setAt] at this ⊢; exact this
      | succ i =>
        have := ih i (v :: vs) (by simp at h ⊢; omega)
        simp only [setAt, List.length_cons, List.take_succ_cons, List.cons_append] at this ⊢
        rw [show i + 1 + (vs.length + 1) = (i + (vs.length + 1)) + 1 by omega, List.take_succ_cons, this]
end
section
variable {w0 w : World} {M : Nat → Prop} {σ : PH} {K K' : List HP}
theorem Sat.getR (h : Sat w0 M σ K w) {v : Value} {e s m : Nat} {cs : List Value} {put : HP → List HP} [i : FindR v K e s m cs put K'] : ∃ F, (rowH e s v m cs).h ⟨σ, hp w⟩ F ∧ (∀ b, F b → b < w.heap.size ∧ σ b = none) := by
  obtain ⟨F1, h1, h2, _⟩ := i.get h.sep
  exact ⟨F1, h1, h2⟩
/-- An assertion put in the place of one whose block has been written. -/
theorem Sat.putG {A : HP} (h : Sat w0 M σ (A :: K') w) {B : HP} {b : Nat} {o' : Obj} (hA : ∀ F, A.h ⟨σ, hp w⟩ F → (∀ x, F x → x < w.heap.size ∧ σ x = none) → F b ∧ B.h ⟨σ, fun x => if x = b then some o' else hp w x⟩ F) :
    Sat w0 M σ (B :: K') { w with heap := w.heap.setIfInBounds b o' } := by
  obtain ⟨F1, h1, h2, h3⟩ := h.sep
  obtain ⟨hF, hB⟩ := hA F1 h1 h2
  have hb : b < w.heap.size := (h2 b hF).1
  have hs : ({ w with heap := w.heap.setIfInBounds b o' } : World).heap.size = w.heap.size := by simp
  refine ⟨h.os, h.tape, h.output, by rw [hs]; exact h.size, h.keep, fun x y hx => ?_, F1, ?_, ?_, ?_⟩
  · rw [hp_set w b o' hb]
    have hne : x ≠ b := fun e => by subst e; have := (h2 x hF).2; rw [this] at hx; exact absurd hx (by simp)
    simp only [if_neg hne]; exact h.imm x y hx
  · rw [hp_set w b o' hb]; exact hB
  · rw [hs]; exact h2
  · rw [hs]
    refine h3.here fun x hx => ?_
    have hne : x ≠ b := fun e => hx.2 (e ▸ hF)
    rw [hp_set w b o' hb]; simp [hne]
theorem Sat.one {A : HP} (h : Sat w0 M σ (A :: K') w) {B : HP} (hA : ∀ F, A.h ⟨σ, hp w⟩ F → B.h ⟨σ, hp w⟩ F) : Sat w0 M σ (B :: K') w :=
  ⟨h.os, h.tape, h.output, h.size, h.keep, h.imm, let ⟨F1, h1, h2, h3⟩ := h.sep; ⟨F1, hA F1 h1, h2, h3⟩⟩
end
section
variable {P : Program} {q : Bool} {ops : Array Oper} {f : FuncId} {R : Ending → World → Prop} {k : List Item} {n : Nat} {fr : Nat → Value} {w0 : World} {M : Nat → Prop} {σ : PH} {K K' : List HP}
variable {rest : List Oper} {d : Nat} {ty : TypeId} {pos : String} {aft : Array Edge} {x y z : Operand} {t t' : TypeId}
theorem RS.nilRow (e s : Nat) (h : RS P f R k n fr w0 M σ (rowH e s (.slice none 0 0) 0 [] :: K)) : RS P f R k n fr w0 M σ K :=
  ⟨fun w hw => h.out w (hw.weak fun F hF => ⟨fun _ => False, ⟨by simp, rfl, none, 0, rfl, by omega, by omega, .inl ⟨rfl, rfl⟩⟩, fun _ h => h.elim, hF.mono fun b hb => ⟨hb, fun h => h⟩⟩)⟩
/-- 'append' onto a row of one's own. -/
theorem appRun {w : World} {e s by_ m kk : Nat} {zs cs news : List Value} {v vy : Value} {put : HP → List HP} [ht : TSlice P t e] [hs : TSz P e s] [hby : TBytes P e by_] [hz : TZero P e zs] [hf : FindR v K e s m cs put K'] (hw : Sat w0 M σ K w) (hsrc : Src P s t' vy kk news w)
    (hzs : Nat.beq zs.length s = true) (hb : (m + kk) * by_ ≤ 140737488355328) (hm : m + kk ≤ 140737488355328) :
    ∃ v' w', (Builtin.append_ #[t, t'] ty #[v, vy]).run P w = .ok v' w' ∧ Sat w0 M σ (put (rowH e s v' (m + kk) (cs ++ news))) w' := by
  have hS := hw.weak fun _ => hf.get
  obtain ⟨F, ⟨h1, h1c, a, cap, rfl, h2, h3, h4⟩, hF⟩ := hw.getR (i := hf)
  have hone : (cs ++ news).all (·.oneCell') = true := by rw [List.all_append, h1c, Bool.true_and, List.all_eq_true]; exact hsrc.one
  have hlen : (cs ++ news).length = (m + kk) * s := by rw [List.length_append, h1, hsrc.newsLen, Nat.add_mul]
  by_cases h00 : m = 0 ∧ kk = 0 ∧ cap = 0
  · obtain ⟨rfl, rfl, rfl⟩ := h00
    have hnews : news = [] := List.eq_nil_of_length_eq_zero (by rw [hsrc.newsLen]; simp)
    have hcs : cs = [] := List.eq_nil_of_length_eq_zero (by rw [h1]; simp)
    subst hnews; subst hcs
    refine ⟨.slice a 0 0, w, ?_, ?_⟩
    · have hsz := run_sz (P := P) w hs.eq
      cases a <;> rcases hsrc.kind with ⟨e', hk⟩ | hk <;> simp [Builtin.append_, run_underlying ht.eq, run_underlying hk, hsz, hsrc.len, hsrc.cells, storeCells]
    · exact (hw.weak fun _ => hf.get).weak fun _ => hf.set
  by_cases hr : m + kk ≤ cap
  · rcases h4 with ⟨rfl, rfl⟩ | ⟨b, c0, rfl, h5, h6, h7, h8⟩
    · exact absurd ⟨rfl, by omega, rfl⟩ h00
    · have := run_append_roomL (P := P) (ty := ty) ht.eq hs.eq h6 hsrc hr h7
      refine ⟨_, _, this, ?_⟩
      refine Sat.weak (K := rowH e s (.slice (some ⟨b, 0, none⟩) (m + kk) cap) (m + kk) (cs ++ news) :: K') ?_ fun _ => hf.set
      refine hS.putG fun F' ⟨_, _, a', cap', g1, g2, g3, g4⟩ hF' => ?_
      injection g1 with g1a g1b g1c
      subst g1a; subst g1c
      have hle : (m + kk) * s ≤ cap * s := Nat.mul_le_mul_right s hr
      rw [Nat.add_mul] at hle
      rcases g4 with ⟨hm0, hc0⟩ | ⟨b', c0', g5, g6, g7, g8, g9⟩
      · exact absurd ⟨hm0, by omega, hc0⟩ h00
      · injection g5 with g5; injection g5 with g5
        subst g5
        have hcc : c0' = c0 := by
          have : some (Obj.cells c0'.toArray e (0, 0)) = some (Obj.cells c0.toArray e (0, 0)) := g7.symm.trans h6
          injection this with this; injection this with this; simpa using this
        subst hcc
        refine ⟨g6, hlen, hone, _, _, rfl, hr, h3, .inr ⟨b, setAt c0' (m * s) news, rfl, g6, by simp, by rw [setAt_length]; exact h7, ?_⟩⟩
        rw [show (m + kk) * s = m * s + news.length by rw [hsrc.newsLen, Nat.add_mul], setAt_take _ _ _ (by rw [hsrc.newsLen]; omega), h8]
  · have hg : cap < m + kk := by omega
    have hbe := hby.eq
    have hse := hs.eq
    have hze := hz.eq
    unfold zeroOf at hze
    unfold szOf at hse
    cases hi : P.info? e with
    | none => simp [hi] at hse
    | some i =>
      cases hzz : i.zero with
      | none => simp [hi, hzz] at hze
      | some z =>
        simp [hi] at hse hbe
        simp [hi, hzz] at hze
        subst hse; subst hbe
        have hzsz : z.cells.size = i.size := by rw [← Array.length_toList, hze]; exact Nat.eq_of_beq_eq_true hzs
        have hold : (Builtin.firstCells i.size m (.slice a m cap)).run P w.drew = .ok cs.toArray w.drew := by
          rcases h4 with ⟨rfl, rfl⟩ | ⟨b, c0, rfl, _, h6, h7, h8⟩
          · have : cs = [] := List.eq_nil_of_length_eq_zero (by rw [h1]; simp)
            subst this
            cases a with
            | none => exact run_firstCells_none _ _ _ _ _
            | some ad => exact run_firstCells_some w.drew i.size 0 ad 0 0 [] (by simp) (by simp)
          · refine run_firstCells_some w.drew i.size m _ m cap cs h1 fun j u hj => ?_
            rw [add_off]
            have : w.drew.cell? ⟨b, 0 + j, none⟩ = c0[0 + j]? := cell_blk (w := w.drew) h6 _
            rw [this, Nat.zero_add]
            rw [← h8, List.getElem?_take] at hj
            split at hj
            · exact hj
            · cases hj
        have hrun := run_append_grow_src (P := P) w t t' ty e i z ht.eq hi hzz a m cap cs hold vy kk news hsrc hg (by omega) (growslice_fits hg hb)
        have hge := grownCap_ge w (m + kk) cap e
        have hcm : grownCap w (m + kk) cap e ≤ maxLen := grownCap_le_maxLen w (m + kk) cap e (by simp [maxLen]; omega)
        refine ⟨_, _, hrun, Sat.weak (K := _ :: K') ?_ fun _ => hf.set⟩
        have hA := ((hS.weak fun F hF => hF.tail).drew).alloc (.cells ((cs ++ news).toArray ++ Builtin.zeroCells z.cells (grownCap w (m + kk) cap e - (m + kk))) e)
        refine hA.one fun F' ⟨g1, g2⟩ => ⟨hlen, hone, _, _, rfl, hge, by simp [maxLen] at hcm; omega, .inr ⟨_, ((cs ++ news).toArray ++ Builtin.zeroCells z.cells (grownCap w (m + kk) cap e - (m + kk))).toList, rfl, g1, by rw [Array.toArray_toList]; exact g2, ?_, ?_⟩⟩
        · rw [Array.toList_append, List.length_append, Array.length_toList, Array.length_toList, size_zeroCells, hzsz, List.size_toArray, hlen, ← Nat.add_mul]; exact Nat.mul_le_mul_right _ (by omega)
        · rw [Array.toList_append, ← hlen]; exact List.take_left
theorem appR {e s by_ m kk : Nat} {zs cs news : List Value} {v vy : Value} {put : HP → List HP} [ht : TSlice P t e] [hs : TSz P e s] [hby : TBytes P e by_] [hz : TZero P e zs]
    (hsrc : ∀ w, Sat w0 M σ K w → Src P s t' vy kk news w)
    (h : ∀ v', LS P false ops f R k rest n (upd fr d v') w0 M σ (put (rowH e s v' (m + kk) (cs ++ news)))) (hx : ev n fr x = v := by rfl) (hy : ev n fr y = vy := by rfl) (hf : FindR v K e s m cs put K' := by infer_instance)
    (hzs : Nat.beq zs.length s = true := by rfl) (hb : (m + kk) * by_ ≤ 140737488355328 := by omega) (hm : m + kk ≤ 140737488355328 := by omega) :
    LS P false ops f R k (⟨some d, .call ⟨.builtin .append, #[x, y], #[t, t']⟩, ty, pos, aft, none⟩ :: rest) n fr w0 M σ K :=
  LS.valW rfl rfl fun w hw => by
    obtain ⟨v', w', h1, h2⟩ := appRun (t := t) (ty := ty) (hf := hf) hw (hsrc w hw) hzs hb hm
    exact ⟨v', w', σ, _, by simp [execOp, resolve, invoke, builtin, hx, hy, h1], h2, h v'⟩
/-- What a block of one's own yields to an append. -/
theorem srcB {w : World} {b s m c e' : Nat} {cs news : List Value} {T : TypeId} {put : HP → List HP} (hw : Sat w0 M σ K w) (hk : P.underlying t' = some (.slice e')) (hf : FindB b K (.cells cs.toArray T (0, 0)) put K' := by infer_instance)
    (hn : takeAt cs 0 (m * s) = some news := by rfl) (h1 : news.all (·.oneCell') = true := by rfl) : Src P s t' (.slice (some ⟨b, 0, none⟩) m c) m news w := by
  obtain ⟨g1, g2⟩ := takeAt_spec _ _ _ _ hn
  refine Src.ofSlice w hk _ _ _ _ g1 (fun j u hj => ?_) (by rw [List.all_eq_true] at h1; exact h1)
  have hj' : j < m * s := by rw [← g1]; exact (List.getElem?_eq_some_iff.1 hj).1
  rw [add_off, cell_blk hw.get, g2 j hj', hj]
/-- What a slice that is not written any more yields to an append. -/
theorem srcS {α : Type} [Rep α] {w : World} {e' c : Nat} {a : Option Addr} {news : List Value} {l : List α} (hw : Sat w0 M σ K w) (hk : P.underlying t' = some (.slice e')) (hl : news.length = l.length * Rep.sz α)
    (hr : l ≠ [] → ∃ b o, a = some ⟨b, o, none⟩ ∧ ∀ j, j < news.length → σ.cell b (o + j) = news[j]?) (h1 : news.all (·.oneCell') = true) : Src P (Rep.sz α) t' (.slice a l.length c) l.length news w := by
  rw [List.all_eq_true] at h1
  by_cases hn : l = []
  · subst hn
    have : news = [] := List.eq_nil_of_length_eq_zero (by rw [hl]; simp)
    subst this
    cases a with
    | none => exact Src.ofNil w hk c
    | some ad => exact Src.ofSlice w hk _ _ _ _ (by simp) (by simp) (by simp)
  · obtain ⟨b, o, rfl, hc⟩ := hr hn
    refine Src.ofSlice w hk _ _ _ _ hl (fun j u hj => ?_) h1
    have hj' := (List.getElem?_eq_some_iff.1 hj).1
    rw [add_off, hw.cell ((hc j hj').trans hj)]
theorem lenR {e s m : Nat} {cs : List Value} {v : Value} {put : HP → List HP} {ee : TypeId} [ht : TSlice P t ee] (h : LS P q ops f R k rest n (upd fr d (.int .i64 m)) w0 M σ K) (hx : ev n fr x = v := by rfl) (hf : FindR v K e s m cs put K' := by infer_instance) :
    LS P q ops f R k (⟨some d, .call ⟨.builtin .len, #[x], #[t]⟩, ty, pos, aft, none⟩ :: rest) n fr w0 M σ K :=
  LS.val rfl rfl (fun w hw => by
    obtain ⟨F, ⟨h1, h1c, a, cap, rfl, _⟩, _⟩ := hw.getR (i := hf)
    simp [execOp, resolve, invoke, builtin, hx, Builtin.len_, run_underlying ht.eq, goInt]) h
theorem bld {pl : List (Nat × Nat)} {zs : List Value} {parts : Array (Nat × Operand)} {vals : List (Nat × Value)} (cs : List Value) [hp : TPl P t pl] [hz : TZero P t zs] (h : LS P q ops f R k rest n (upd fr d (.agg cs.toArray)) w0 M σ K)
    (hx : parts.toList.map (fun p => (p.1, ev n fr p.2)) = vals := by rfl) (hc : fillL (nthP pl) zs vals = some cs := by rfl) :
    LS P q ops f R k (⟨some d, .build t parts, ty, pos, aft, none⟩ :: rest) n fr w0 M σ K :=
  LS.val rfl rfl (fun w _ => by
    have e : (parts.map fun (i, x) => (i, ev n fr x)) = vals.toArray := by rw [← hx]; cases parts; simp
    simp [execOp, e, run_build w hp.eq hz.eq hc]) h
theorem bldS {e s : Nat} {zs : List Value} {parts : Array (Nat × Operand)} {len : Nat} (vs : List Value) (cs : List Value) [ht : TSlice P t e] [hs : TSz P e s] [hz : TZero P e zs]
    (h : ∀ b, LS P false ops f R k rest n (upd fr d (.slice (some ⟨b, 0, none⟩) len len)) w0 M σ (blk b (.cells cs.toArray e (0, 0)) :: K))
    (hx : parts.toList.map (fun p => (p.1, ev n fr p.2)) = vs.zipIdx.map (fun p => (p.2, p.1)) := by rfl) (hc : catL s vs = some cs := by rfl) (hl : Nat.beq vs.length len = true := by rfl) (hb : Nat.ble (vs.length * s) 16777216 = true := by rfl) :
    LS P false ops f R k (⟨some d, .buildSlice t len parts, ty, pos, aft, none⟩ :: rest) n fr w0 M σ K :=
  LS.valW rfl rfl fun w hw => by
    have el := Nat.eq_of_beq_eq_true hl
    subst el
    have e1 : (parts.map fun (i, x) => (i, ev n fr x)) = (vs.zipIdx.map fun p => (p.2, p.1)).toArray := by rw [← hx]; cases parts; simp
    have := run_buildSlice w ht.eq hs.eq hz.eq rfl hc (Nat.le_of_ble_eq_true hb)
    exact ⟨_, _, σ, _, by simp [execOp, e1, this], hw.alloc _, h _⟩
theorem shrI {kk kd : IntKind} {a b : Int} (h : LS P q ops f R k rest n (upd fr d (.int kk (a.fdiv (2 ^ min b.toNat kk.bits)))) w0 M σ K) (hx : ev n fr x = .int kk a := by rfl) (hy : ev n fr y = .int kd b := by rfl) (hb : 0 ≤ b := by omega) :
    LS P q ops f R k (⟨some d, .binOp .shr t x y t', ty, pos, aft, none⟩ :: rest) n fr w0 M σ K :=
  LS.val rfl rfl (fun w _ => by
    have hb' : ¬ b < 0 := by omega
    simp only [execOp, hx, hy, eqGuard, Sem.run_bind]
    split <;> simp [binOp, Op.shift, hb']) h
theorem cvU {kk : IntKind} {a : Int} [hs : TInt P t kk] [hd : TInt P t' .u64] (h : LS P q ops f R k rest n (upd fr d (.int .u64 a)) w0 M σ K) (hx : ev n fr x = .int kk a := by rfl) (h1 : 0 ≤ a := by omega) (h2 : a ≤ 9223372036854775807 := by omega) :
    LS P q ops f R k (⟨some d, .convert t t' x, ty, pos, aft, none⟩ :: rest) n fr w0 M σ K := cvI (by rw [IntWalk.u64_in _ ⟨h1, by omega⟩]; exact h) hx
theorem tdivRange {a b : Int} (ha : I64 a) (hb : 0 < b) : -9223372036854775808 ≤ a.tdiv b ∧ a.tdiv b ≤ 9223372036854775807 := by
  obtain ⟨h1, h2⟩ := ha
  have h3 : (a.tdiv b).natAbs ≤ a.natAbs := Int.natAbs_tdiv_le_natAbs a b
  have h4 : a < 0 → a.tdiv b ≤ 0 := fun h => by
    have h5 : 0 ≤ (-a).tdiv b := Int.tdiv_nonneg (by omega) (by omega)
    rw [Int.neg_tdiv] at h5; omega
  omega
theorem quoN {a b : Int} (h : LS P q ops f R k rest n (upd fr d (.int .i64 (a.tdiv b))) w0 M σ K) (hx : ev n fr x = .int .i64 a := by rfl) (hy : ev n fr y = .int .i64 b := by rfl) (ha : I64 a := by first | assumption | omega) (hb : 0 < b := by omega) :
    LS P q ops f R k (⟨some d, .binOp .quo t x y t', ty, pos, aft, none⟩ :: rest) n fr w0 M σ K :=
  quoI (by rw [wrapEq (tdivRange ha hb).1 (tdivRange ha hb).2]; exact h) hx hy (by omega)
theorem slc (l hh m : Nat) {a : Option Addr} {len cap s : Nat} {e : TypeId} {lo hi mx : Option Operand} [ht : TSlice P t e] [hs : TSz P e s]
    (h : LS P q ops f R k rest n (upd fr d (.slice (if m = l then a else a.map (·.add (l * s))) (hh - l) (m - l))) w0 M σ K) (hx : ev n fr x = .slice a len cap := by rfl)
    (hb : ∀ w, (Instr.sliceBounds true len cap (lo.map (ev n fr)) (hi.map (ev n fr)) (mx.map (ev n fr))).run P w = .ok (l, hh, m) w) :
    LS P q ops f R k (⟨some d, .slice t x lo hi mx, ty, pos, aft, none⟩ :: rest) n fr w0 M σ K :=
  LS.val rfl rfl (fun w _ => by
    simp [execOp, hx, Instr.sliceAt, run_underlying ht.eq, Instr.slice, hb, run_sz w hs.eq]) h
theorem slcLo (l : Nat) {a : Option Addr} {len cap s : Nat} {e : TypeId} {lo : Operand} {kk : IntKind} {j : Int} (v : Value) [ht : TSlice P t e] [hs : TSz P e s]
    (h : LS P q ops f R k rest n (upd fr d v) w0 M σ K) (hx : ev n fr x = .slice a len cap := by rfl) (hlo : ev n fr lo = .int kk j := by rfl) (hj : j = (l : Int) := by omega) (hl : l ≤ len := by omega)
    (hv : .slice (if cap = l then a else a.map (·.add (l * s))) (len - l) (cap - l) = v := by rfl) :
    LS P q ops f R k (⟨some d, .slice t x (some lo) none none, ty, pos, aft, none⟩ :: rest) n fr w0 M σ K := by
  subst hv
  exact slc l len cap h hx (fun w => by subst hj; simp [Instr.sliceBounds, hlo, run_sliceBound, hl])
theorem slcHi (l : Nat) {a : Option Addr} {len cap s : Nat} {e : TypeId} {lo : Operand} {kk : IntKind} {j : Int} (v : Value) [ht : TSlice P t e] [hs : TSz P e s]
    (h : LS P q ops f R k rest n (upd fr d v) w0 M σ K) (hx : ev n fr x = .slice a len cap := by rfl) (hlo : ev n fr lo = .int kk j := by rfl) (hj : j = (l : Int) := by omega) (hl : l ≤ cap := by omega)
    (hv : .slice (if cap = 0 then a else a) l cap = v := by rfl) :
    LS P q ops f R k (⟨some d, .slice t x none (some lo) none, ty, pos, aft, none⟩ :: rest) n fr w0 M σ K := by
  subst hv
  refine slc 0 l cap ?_ hx (fun w => by subst hj; simp [Instr.sliceBounds, hlo, run_sliceBound, hl])
  have e : (a.map (·.add (0 * s))) = a := by cases a <;> simp [Addr.add]
  simp only [e, Nat.sub_zero]; exact h
/-- A block of one's own is not written any more. -/
theorem RS.freeze {b : Nat} {o : Obj} {put : HP → List HP} (hf : FindB b K o put K') (h : ∀ σ', PH.le σ σ' → σ' b = some o → RS P f R k n fr w0 M σ' K') : RS P f R k n fr w0 M σ K := ⟨fun w hw => by
    obtain ⟨F1, ⟨h1, h2⟩, h3, h4⟩ := hf.get hw.sep
    have hn := (h3 b h1).2
    refine (h (fun x => if x = b then some o else σ x) (fun x y hx => ?_) (by simp)).out w ⟨hw.os, hw.tape, hw.output, hw.size, fun x hx hM => ?_, fun x y hx => ?_, ?_⟩
    · by_cases e : x = b
      · subst e; rw [hn] at hx; cases hx
      · simpa [e] using hx
    · by_cases e : x = b
      · subst e
        have := hw.keep x hx hM
        rw [hn] at this
        have h5 : w0.heap[x]? = some w0.heap[x] := Array.getElem?_eq_getElem hx
        rw [h5] at this; cases this
      · simpa [e] using hw.keep x hx hM
    · by_cases e : x = b
      · subst e; simp at hx; subst hx; exact h2
      · simp [e] at hx; exact hw.imm x y hx
    · refine (h4.over (g' := hp w) (σ' := fun x => if x = b then some o else σ x) (fun _ _ => rfl) (fun x y hx => by
        by_cases e : x = b
        · subst e; rw [hn] at hx; cases hx
        · simpa [e] using hx)).mono fun x hx => ⟨hx.1.1, ?_⟩
      have : x ≠ b := fun e => hx.2 (e ▸ h1)
      simp [this]; exact hx.1.2⟩
theorem Sat.freezeRow {w : World} {v : Value} {e s m : Nat} {cs : List Value} {put : HP → List HP} (hw : Sat w0 M σ K w) (hf : FindR v K e s m cs put K' := by infer_instance) :
    ∃ a cap σ', v = .slice a m cap ∧ m ≤ cap ∧ PH.le σ σ' ∧ Sat w0 M σ' K' w ∧ cs.length = m * s ∧ cs.all (·.oneCell') = true ∧
      ((m = 0 ∧ cap = 0) ∨ ∃ b, a = some ⟨b, 0, none⟩ ∧ (b < w0.heap.size → M b) ∧ (hp w).cell b 0 = (hp w).cell b 0 ∧ σ' b = hp w b ∧ ∀ j, j < m * s → σ'.cell b j = cs[j]?) := by
  obtain ⟨F1, ⟨h1, h1c, a, cap, rfl, h2, h3, h4⟩, h5, h6⟩ := hf.get hw.sep
  rcases h4 with ⟨rfl, rfl⟩ | ⟨b, c0, rfl, g1, g2, g3, g4⟩
  · exact ⟨a, 0, σ, rfl, by omega, PH.le_refl _, hw.weak (fun F hF => (hf.get hF).tail), h1, h1c, .inl ⟨rfl, rfl⟩⟩
  · have hn := (h5 b g1).2
    refine ⟨_, cap, fun x => if x = b then hp w b else σ x, rfl, h2, fun x y hx => ?_, ⟨hw.os, hw.tape, hw.output, hw.size, fun x hx hM => ?_, fun x y hx => ?_, ?_⟩, h1, h1c, .inr ⟨b, rfl, fun hb => ?_, rfl, by simp, fun j hj => ?_⟩⟩
    · by_cases e : x = b
      · subst e; rw [hn] at hx; cases hx
      · simpa [e] using hx
    · by_cases e : x = b
      · subst e
        have := hw.keep x hx hM
        rw [hn] at this
        have h5 : w0.heap[x]? = some w0.heap[x] := Array.getElem?_eq_getElem hx
        rw [h5] at this; cases this
      · simpa [e] using hw.keep x hx hM
    · by_cases e : x = b
      · subst e; simpa using hx
      · simp [e] at hx; exact hw.imm x y hx
    · refine (h6.over (g' := hp w) (σ' := fun x => if x = b then hp w b else σ x) (fun _ _ => rfl) (fun x y hx => by
        by_cases e : x = b
        · subst e; rw [hn] at hx; cases hx
        · simpa [e] using hx)).mono fun x hx => ⟨hx.1.1, ?_⟩
      have : x ≠ b := fun e => hx.2 (e ▸ g1)
      simp [this]; exact hx.1.2
    · refine Classical.byContradiction fun hM => ?_
      have := hw.keep b hb hM
      rw [hn] at this
      have h5 : w0.heap[b]? = some w0.heap[b] := Array.getElem?_eq_getElem hb
      rw [h5] at this; cases this
    · have g2 : hp w b = _ := g2
      have : PH.cell (fun x => if x = b then hp w b else σ x) b j = c0[j]? := by simp [PH.cell, g2]
      rw [this, ← g4, List.getElem?_take, if_pos hj]
end
end Go.JW
