/- The base of the walks: rules, contracts, plain laws, part 5. -/
import Derived.Test.YtealabaiamaojaaGreatDoorQ4
namespace Go.JW
open Go.Proofs.YtealabaiamaojaaGreatDoor
structure Ru where
  n : Int
instance : Rep Ru where
  sz := 1
  rep _ cs x := cs = [.int .i32 x.n]
  len h := by rw [h]; rfl
  one h := by rw [h]; rfl
  mono h _ := h
def rus (l : List Int) : List Ru := l.map Ru.mk
theorem rus_len (l : List Int) : (rus l).length = l.length := by simp [rus]
theorem rus_app (a b : List Int) : rus (a ++ b) = rus a ++ rus b := by simp [rus]
theorem RowAt.ru {σ : PH} {b o : Nat} {l : List Int} (h : RowAt σ b o (rus l)) (i : Nat) (hi : i < l.length) : σ.cell b (o + i) = some (.int .i32 (l.getD i 0)) := by
  obtain ⟨cs, hc, hr⟩ := h i (by rw [rus_len]; exact hi)
  have hr : cs = [.int .i32 ((rus l)[i]'(by rw [rus_len]; exact hi)).n] := hr
  have := hc 0 (by exact Nat.zero_lt_one)
  subst hr
  have e : Rep.sz Ru = 1 := rfl
  rw [e, Nat.mul_one, Nat.add_zero] at this
  rw [this]
  simp [rus, List.getD, hi]
theorem runesFrom_at (s : ByteArray) : ∀ (f i : Nat) (acc : Array Value), Conv.runesFrom s f i acc = acc ++ (((runesAt s f i).map (·.2)).map (Value.int .i32)).toArray
  | 0, _, acc => by simp [Conv.runesFrom, runesAt]
  | f + 1, i, acc => by
    unfold Conv.runesFrom
    rw [runesAt]
    split
    · show Conv.runesFrom s f (i + (Utf8.decode s i).2) (acc.push (.int .i32 (Int.ofNat (Utf8.decode s i).1))) = _
      rw [runesFrom_at s f]
      simp
    · simp
theorem runesFrom_Rn (u : Bs) : Conv.runesFrom (B u) (B u).size 0 #[] = ((Rn u).map (Value.int .i32)).toArray := by
  rw [runesFrom_at]; simp [Rn, runes]
theorem s2r_run {P : Program} {t t' e : TypeId} (u : Bs) (w : World) [hs : TStr P t] [ht : TSlice P t' e] [he : TInt P e .i32] (hu : u.length ≤ 70368744177664) :
    ∃ v w', (convert t t' (.string (B u))).run P w = .ok v w' ∧ RowKit.Below w.heap.size w w' ∧ RepL (since w w') v (rus (Rn u)) := by
  have hle := Rn_le u
  have hz : (Conv.runesFrom (B u) (B u).size 0 #[]).size = (Rn u).length := by rw [runesFrom_Rn]; simp
  have h := run_runes_of_string (P := P) w t t' e (B u) hs.eq ht.eq he.eq (by rw [hz]; omega)
  rw [hz, runesFrom_Rn] at h
  have hge := grownCap_ge w (Rn u).length 0 e
  refine ⟨_, _, h, ⟨rfl, rfl, rfl, by show w.heap.size ≤ (w.heap.push _).size; simp, fun k hk => by show (w.heap.push _)[k]? = _; simp [Array.getElem?_push, Nat.ne_of_lt hk]⟩, by rw [rus_len]; omega, _, _, by rw [rus_len], by rw [rus_len]; exact hge, fun _ => ⟨_, 0, rfl, fun i hi => ⟨[.int .i32 (rus (Rn u))[i].n], fun j hj => ?_, rfl⟩⟩⟩
  have hj : j = 0 := by have : j < 1 := hj; omega
  subst hj
  unfold PH.cell since
  rw [if_pos (Nat.le_refl _)]
  have e0 : (w.drew.alloc (.cells (((Rn u).map (Value.int .i32)).toArray ++ Array.replicate (grownCap w (Rn u).length 0 e - (Rn u).length) (.int .i32 0)) e)).heap[w.heap.size]? = some (.cells (((Rn u).map (Value.int .i32)).toArray ++ Array.replicate (grownCap w (Rn u).length 0 e - (Rn u).length) (.int .i32 0)) e) := by
    show (w.heap.push _)[w.heap.size]? = _
    simp
  rw [e0]
  have hi' : i < (Rn u).length := by rwa [rus_len] at hi
  show (((Rn u).map (Value.int .i32)).toArray ++ Array.replicate _ _)[0 + i * 1 + 0]? = _
  rw [Nat.mul_one, Nat.zero_add, Nat.add_zero, Array.getElem?_append_left (by simpa using hi')]
  simp [hi', rus]
theorem r2s_run {P : Program} {t t' e : TypeId} {l : List Int} {v : Value} (w : World) (h : RepL (hp w) v (rus l)) [ht : TSlice P t e] [he : TInt P e .i32] [hd : TStr P t'] :
    (convert t t' v).run P w = .ok (.string (runesBytes l)) w := by
  obtain ⟨a, cap, rfl⟩ := h.form
  cases hn : l with
  | nil =>
    subst hn
    cases a with
    | none => exact run_convert_runes_nil w t t' e _ _ ht.eq he.eq hd.eq
    | some a => exact run_convert_runes w t t' e a 0 cap [] (Nat.le_refl _) ht.eq he.eq hd.eq (fun j hj => absurd hj (Nat.not_lt_zero _))
  | cons y ys =>
    rw [← hn]
    obtain ⟨b, o, rfl, hr⟩ := h.addr (by simp [hn, rus])
    have := run_convert_runes (P := P) w t t' e ⟨b, o, none⟩ (rus l).length cap l (by rw [rus_len]; exact Nat.le_refl _) ht.eq he.eq hd.eq (fun j hj => by
      have := hr.ru j hj
      rw [PH.cell_world] at this
      rw [add_off]
      exact this)
    rw [this, rus_len, List.take_length]
section
variable {P : Program} {q : Bool} {ops : Array Oper} {f : FuncId} {R : Ending → World → Prop} {k : List Item} {n : Nat} {fr : Nat → Value} {w0 : World} {M : Nat → Prop} {σ : PH} {K K' : List HP}
variable {rest : List Oper} {d : Nat} {ty : TypeId} {pos : String} {aft : Array Edge} {x y z : Operand} {t t' e : TypeId}
theorem r2s {v : Value} (l : List Int) [ht : TSlice P t e] [he : TInt P e .i32] [hd : TStr P t'] (hr : RepL σ v (rus l)) (h : LS P q ops f R k rest n (upd fr d (.string (runesBytes l))) w0 M σ K)
    (hx : ev n fr x = v := by rfl) : LS P q ops f R k (⟨some d, .convert t t' x, ty, pos, aft, none⟩ :: rest) n fr w0 M σ K :=
  LS.val rfl rfl (fun w hw => by
    simp only [execOp, hx]
    rw [Sem.run_bind, r2s_run w (hr.mono hw.imm)]
    rfl) h
end
section
variable {P : Program} {f : FuncId} {R : Ending → World → Prop} {k : List Item} {n : Nat} {fr : Nat → Value} {w0 : World} {M : Nat → Prop} {σ : PH} {Kf : Us → List HP}
variable {H : HS} {O : List (Nat × Obj)} {Kb Kb' : List HP} {E : List Nat} {tags : List Tag} {rest : List Oper} {d : Nat} {ty : TypeId} {pos : String} {aft : Array Edge} {x y z : Operand} {t t' e : TypeId}
theorem D.s2r (u : Bs) [hs : TStr P t] [ht : TSlice P t' e] [he : TInt P e .i32] (h : LD P f R k n w0 M σ Kb rest tags ⟨fr, (d, fun v σ => RepL σ v (rus (Rn u))) :: H, O, Kf, E, false⟩)
    (hx : ∀ us, ev n (fill fr H us) x = .string (B u) := by intro _; rfl) (hu : u.length ≤ 70368744177664 := by omega) :
    LD P f R k n w0 M σ Kb (⟨some d, .convert t t' x, ty, pos, aft, none⟩ :: rest) (.ex :: tags) ⟨fr, H, O, Kf, E, false⟩ :=
  D.gr (fun v σ => RepL σ v (rus (Rn u))) (fun _ _ _ h hs => h.mono hs) h fun us σ' w hle hfs hw => by
    obtain ⟨v, w', h1, h2, h3⟩ := s2r_run (P := P) (t := t) (t' := t') u w hu
    exact .inl ⟨v, w', by simp only [execOp, hx us]; rw [Sem.run_bind, h1]; rfl, h2, h3.mono (since_le _ _ _)⟩
theorem D.r2s {v : Us → Value} (l : List Int) [ht : TSlice P t e] [he : TInt P e .i32] [hd : TStr P t'] (h : LD P f R k n w0 M σ Kb rest tags ⟨upd fr d (.string (runesBytes l)), H, O, Kf, E, false⟩)
    (hr : ∀ us σ', PH.le σ σ' → Facts H (readsTmp ⟨some d, .convert t t' x, ty, pos, aft, none⟩) us σ' → RepL σ' (v us) (rus l)) (hx : ∀ us, ev n (fill fr H us) x = v us := by intro _; rfl) :
    LD P f R k n w0 M σ Kb (⟨some d, .convert t t' x, ty, pos, aft, none⟩ :: rest) (.ex :: tags) ⟨fr, H, O, Kf, E, false⟩ :=
  D.ex h fun us σ' w hle hfs hw => by
    simp only [execOp, hx us]
    rw [Sem.run_bind, r2s_run w ((hr us σ' hle hfs).mono hw.imm)]
    rfl
theorem D.maxI {a b : Int} (h : LD P f R k n w0 M σ Kb rest tags ⟨upd fr d (.int .i64 (if b > a then b else a)), H, O, Kf, E, false⟩) (hx : ∀ us, ev n (fill fr H us) x = .int .i64 a := by intro _; rfl) (hy : ∀ us, ev n (fill fr H us) y = .int .i64 b := by intro _; rfl) :
    LD P f R k n w0 M σ Kb (⟨some d, .call ⟨.builtin .max, #[x, y], #[t, t']⟩, ty, pos, aft, none⟩ :: rest) (.ex :: tags) ⟨fr, H, O, Kf, E, false⟩ :=
  D.ex h fun us σ' w _ _ _ => by
    have := run_max_int2 (P := P) w #[t, t'] ty .i64 .i64 a b
    simp [execOp, resolve, invoke, builtin, hx us, hy us, this]
theorem D.minI {a b : Int} (h : LD P f R k n w0 M σ Kb rest tags ⟨upd fr d (.int .i64 (if b < a then b else a)), H, O, Kf, E, false⟩) (hx : ∀ us, ev n (fill fr H us) x = .int .i64 a := by intro _; rfl) (hy : ∀ us, ev n (fill fr H us) y = .int .i64 b := by intro _; rfl) :
    LD P f R k n w0 M σ Kb (⟨some d, .call ⟨.builtin .min, #[x, y], #[t, t']⟩, ty, pos, aft, none⟩ :: rest) (.ex :: tags) ⟨fr, H, O, Kf, E, false⟩ :=
  D.ex h fun us σ' w _ _ _ => by
    have := run_min_int2 (P := P) w #[t, t'] ty .i64 .i64 a b
    simp [execOp, resolve, invoke, builtin, hx us, hy us, this]
end
class TCon (P : Program) (t : TypeId) : Prop where
  eq : ∃ u, P.underlying t = some u ∧ (match u with | .interface _ => False | _ => True)
theorem run_mkC {P : Program} {t : TypeId} [h : TCon P t] (v : Value) (w : World) : (Instr.makeInterface t v).run P w = .ok (.iface t v) w := by
  obtain ⟨u, h1, h2⟩ := h.eq
  cases u <;> first | exact h2.elim | simp [Instr.makeInterface, run_underlying h1]
theorem run_asY {P : Program} {t t' : TypeId} [h : TCon P t] (v : Value) (w : World) : (Instr.typeAssert (.iface t v) t' t true).run P w = .ok (.tuple #[v, .bool true]) w := by
  obtain ⟨u, h1, h2⟩ := h.eq
  cases u <;> first | exact h2.elim | simp [Instr.typeAssert, run_underlying h1]
theorem run_asN {P : Program} {t t' t2 : TypeId} {z : Value} [h : TCon P t] [hz : TZv P t z] (hne : Nat.beq t2 t = false) (v : Value) (w : World) : (Instr.typeAssert (.iface t2 v) t' t true).run P w = .ok (.tuple #[z, .bool false]) w := by
  obtain ⟨u, h1, h2⟩ := h.eq
  have hne : t2 ≠ t := fun e => by rw [e, Nat.beq_refl] at hne; cases hne
  have hzv := run_zv (P := P) w hz.eq
  cases u <;> first | exact h2.elim | simp [Instr.typeAssert, run_underlying h1, hne, hzv]
section
variable {P : Program} {q : Bool} {ops : Array Oper} {f : FuncId} {R : Ending → World → Prop} {k : List Item} {n : Nat} {fr : Nat → Value} {w0 : World} {M : Nat → Prop} {σ : PH} {K K' : List HP}
variable {rest : List Oper} {d : Nat} {ty : TypeId} {pos : String} {aft : Array Edge} {x y z : Operand} {t t' t2 : TypeId}
theorem mkC (v : Value) [ht : TCon P t] (h : LS P q ops f R k rest n (upd fr d (.iface t v)) w0 M σ K) (hx : ev n fr x = v := by rfl) :
    LS P q ops f R k (⟨some d, .makeInterface t x, ty, pos, aft, none⟩ :: rest) n fr w0 M σ K :=
  LS.val rfl rfl (fun w _ => by simp [execOp, hx, run_mkC]) h
theorem asY (v : Value) [ht : TCon P t] (h : LS P q ops f R k rest n (upd fr d (.tuple #[v, .bool true])) w0 M σ K) (hx : ev n fr x = .iface t v := by rfl) :
    LS P q ops f R k (⟨some d, .typeAssert x t' t true, ty, pos, aft, none⟩ :: rest) n fr w0 M σ K :=
  LS.val rfl rfl (fun w _ => by simp [execOp, hx, run_asY]) h
theorem asN (v zv : Value) [ht : TCon P t] [hz : TZv P t zv] (h : LS P q ops f R k rest n (upd fr d (.tuple #[zv, .bool false])) w0 M σ K) (hx : ev n fr x = .iface t2 v := by rfl) (hne : Nat.beq t2 t = false := by rfl) :
    LS P q ops f R k (⟨some d, .typeAssert x t' t true, ty, pos, aft, none⟩ :: rest) n fr w0 M σ K :=
  LS.val rfl rfl (fun w _ => by simp [execOp, hx, run_asN hne]) h
theorem mkD0 {α : Type} [Rep α] (N : Nat) {e by_ s m : Nat} {zs : List Value} [ht : TSlice P t e] [hs : TSz P e s] [hby : TBytes P e by_] [hz : TZero P e zs]
    (h : ∀ v, LS P false ops f R k rest n (upd fr d v) w0 M σ (rowD N e v ([] : List α) :: K)) (hx : ev n fr x = .int .i64 0 := by rfl) (hy : ev n fr y = .int .i64 (m : Int) := by rfl)
    (hb : by_ * m ≤ 281474976710656 := by omega) (hm : m ≤ 9223372036854775807 := by omega) (hss : s = Rep.sz α := by rfl) :
    LS P false ops f R k (⟨some d, .makeSlice t x y, ty, pos, aft, none⟩ :: rest) n fr w0 M σ K :=
  LS.valW rfl rfl fun w hw => by
    have hbe := hby.eq
    have hse := hs.eq
    have hze := hz.eq
    unfold zeroOf at hze
    unfold szOf at hse
    cases hi : P.info? e with
    | none => simp [hi] at hse
    | some i =>
      cases hzz : i.zero with
      | none => simp [hi, hzz] at hze
      | some z' =>
        simp [hi] at hse hbe
        have hbm : (i.bytes : Int) * (m : Int) ≤ 281474976710656 := by
          have : ((i.bytes * m : Nat) : Int) ≤ 281474976710656 := by rw [hbe]; omega
          rwa [Int.natCast_mul] at this
        have := run_make (P := P) w t e i z' ht.eq hi hzz .i64 .i64 0 m (by omega) (by omega) hbm (by omega)
        simp only [Int.toNat_natCast, hse] at this
        have hA := hw.alloc (.cells (madeCells z'.cells (m * s)) e (0, 0))
        refine ⟨.slice (some ⟨w.heap.size, 0, none⟩) 0 m, w.alloc (.cells (madeCells z'.cells (m * s)) e (0, 0)), σ, rowD N e (.slice (some ⟨w.heap.size, 0, none⟩) 0 m) ([] : List α) :: K, by simp only [execOp, hx, hy]; simp [this], hA.weak fun F hF => ?_, h _⟩
        obtain ⟨F1, ⟨g1, g2⟩, g3, g4⟩ := hF
        have g2' : (hp (w.alloc (.cells (madeCells z'.cells (m * s)) e (0, 0)))) w.heap.size = some (.cells (madeCells z'.cells (m * s)) e (0, 0)) := g2
        exact ⟨F1, ⟨[], rfl, by simp, rfl, _, m, rfl, Nat.zero_le _, hm, .inr ⟨w.heap.size, (madeCells z'.cells (m * s)).toList, rfl, g1, by simpa using g2', by subst hss; simp [madeCells], by simp⟩⟩, g3, g4⟩
theorem insNil {α : Type} [Rep α] {N : Nat} {g : VH} {e : Nat} {K : List HP} {F : Nat → Prop} (h : SepIn g K F) {a : Option Addr} : SepIn g (rowD N e (.slice a 0 0) ([] : List α) :: K) F :=
  ⟨fun _ => False, ⟨[], rfl, by simp, rfl, a, 0, rfl, by simp, by simp, .inl ⟨rfl, rfl⟩⟩, fun _ h => h.elim, h.mono fun _ hb => ⟨hb, fun h => h⟩⟩
end
section
variable {P : Program} {q : Bool} {ops : Array Oper} {f : FuncId} {R : Ending → World → Prop} {k : List Item} {n : Nat} {fr : Nat → Value} {w0 : World} {M : Nat → Prop} {σ : PH} {K : List HP}
variable {rest : List Oper} {d : Nat} {ty : TypeId} {pos : String} {aft : Array Edge} {x y : Operand} {t t' e : TypeId} {p : Option Addr}
theorem pointee_of (ht : P.underlying t = some (.pointer e)) : P.underlying t = some (.pointer (P.pointee t)) := by
  have : P.pointee t = e := by simp [Program.pointee, ht]
  rw [this]; exact ht
theorem bin_eql_P [ht : TPtr P t e] (h : LS P q ops f R k rest n (upd fr d (.bool p.isNone)) w0 M σ K) (hx : ev n fr x = .pointer p := by rfl) (hy : ev n fr y = .pointer none := by rfl) :
    LS P q ops f R k (⟨some d, .binOp .eql t x y t', ty, pos, aft, none⟩ :: rest) n fr w0 M σ K :=
  LS.val rfl rfl (fun w _ => by
    have e : (Op.equal t (.pointer p) (.pointer none)).run P w = .ok p.isNone w := run_equal_pointer_nil w t p (pointee_of ht.eq)
    simp only [execOp, hx, hy, eqGuard, Sem.run_bind]
    simp [binOp, e]) h
end
end Go.JW
namespace Go.Proofs.YtealabaiamaojaaGreatDoor
open Go.JW
instance : TZv Tryz.prog 2 (.int .i64 0) := ⟨by kernel_rfl⟩
instance : TZv Tryz.prog 3 (.int .i64 0) := ⟨by kernel_rfl⟩
instance : TZv Tryz.prog 4 (.bool false) := ⟨by kernel_rfl⟩
instance : TZv Tryz.prog 5 (.int .u8 0) := ⟨by kernel_rfl⟩
instance : TZv Tryz.prog 7 (.agg (List.toArray [.int .i64 0, .int .i64 0, .bool false, .int .u8 0])) := ⟨by kernel_rfl⟩
instance : TFldV Tryz.prog 7 0 0 := ⟨by kernel_rfl⟩
instance : TFldV Tryz.prog 7 1 1 := ⟨by kernel_rfl⟩
instance : TFldV Tryz.prog 7 2 2 := ⟨by kernel_rfl⟩
instance : TFldV Tryz.prog 7 3 3 := ⟨by kernel_rfl⟩
instance : TZv Tryz.prog 9 (.string ⟨#[]⟩) := ⟨by kernel_rfl⟩
instance : TZv Tryz.prog 12 (.int .u64 0) := ⟨by kernel_rfl⟩
instance : TZv Tryz.prog 13 (.agg (List.toArray [.string ⟨#[]⟩, .int .u64 0])) := ⟨by kernel_rfl⟩
instance : TFldV Tryz.prog 13 0 0 := ⟨by kernel_rfl⟩
instance : TFldV Tryz.prog 13 1 1 := ⟨by kernel_rfl⟩
instance : TZv Tryz.prog 15 (.pointer none) := ⟨by kernel_rfl⟩
instance : TZv Tryz.prog 16 (.pointer none) := ⟨by kernel_rfl⟩
instance : TZv Tryz.prog 17 (.pointer none) := ⟨by kernel_rfl⟩
instance : TZv Tryz.prog 18 (.agg (List.toArray [.pointer none])) := ⟨by kernel_rfl⟩
instance : TFldV Tryz.prog 18 0 0 := ⟨by kernel_rfl⟩
instance : TZv Tryz.prog 21 (.int .i32 0) := ⟨by kernel_rfl⟩
instance : TZv Tryz.prog 22 (.slice none 0 0) := ⟨by kernel_rfl⟩
instance : TZv Tryz.prog 24 (.pointer none) := ⟨by kernel_rfl⟩
instance : TZv Tryz.prog 26 (.slice none 0 0) := ⟨by kernel_rfl⟩
instance : TZv Tryz.prog 27 (.agg (List.toArray [.int .i64 0, .int .i64 0])) := ⟨by kernel_rfl⟩
instance : TFldV Tryz.prog 27 0 0 := ⟨by kernel_rfl⟩
instance : TFldV Tryz.prog 27 1 1 := ⟨by kernel_rfl⟩
instance : TZv Tryz.prog 28 (.agg (List.toArray [.int .i64 0, .int .i64 0])) := ⟨by kernel_rfl⟩
instance : TFldV Tryz.prog 28 0 0 := ⟨by kernel_rfl⟩
instance : TFldV Tryz.prog 28 1 1 := ⟨by kernel_rfl⟩
instance : TZv Tryz.prog 29 (.slice none 0 0) := ⟨by kernel_rfl⟩
instance : TZv Tryz.prog 30 (.agg (List.toArray [.string ⟨#[]⟩, .int .i64 0, .int .i64 0, .slice none 0 0, .slice none 0 0, .bool false])) := ⟨by kernel_rfl⟩
instance : TFldV Tryz.prog 30 0 0 := ⟨by kernel_rfl⟩
instance : TFldA Tryz.prog 30 1 1 2 := ⟨by kernel_rfl⟩
instance : TFldV Tryz.prog 30 2 3 := ⟨by kernel_rfl⟩
instance : TFldV Tryz.prog 30 3 4 := ⟨by kernel_rfl⟩
instance : TFldV Tryz.prog 30 4 5 := ⟨by kernel_rfl⟩
instance : TZv Tryz.prog 31 (.agg (List.toArray [.string ⟨#[]⟩, .int .i64 0, .int .i64 0, .slice none 0 0, .slice none 0 0, .bool false])) := ⟨by kernel_rfl⟩
instance : TFldV Tryz.prog 31 0 0 := ⟨by kernel_rfl⟩
instance : TFldA Tryz.prog 31 1 1 2 := ⟨by kernel_rfl⟩
instance : TFldV Tryz.prog 31 2 3 := ⟨by kernel_rfl⟩
instance : TFldV Tryz.prog 31 3 4 := ⟨by kernel_rfl⟩
instance : TFldV Tryz.prog 31 4 5 := ⟨by kernel_rfl⟩
instance : TZv Tryz.prog 32 (.agg (List.toArray [.int .i64 0, .int .i64 0, .slice none 0 0, .slice none 0 0, .string ⟨#[]⟩, .int .i64 0, .int .i64 0, .slice none 0 0, .slice none 0 0, .bool false])) := ⟨by kernel_rfl⟩
instance : TFldV Tryz.prog 32 0 0 := ⟨by kernel_rfl⟩
instance : TFldV Tryz.prog 32 1 1 := ⟨by kernel_rfl⟩
instance : TFldV Tryz.prog 32 2 2 := ⟨by kernel_rfl⟩
instance : TFldV Tryz.prog 32 3 3 := ⟨by kernel_rfl⟩
instance : TFldA Tryz.prog 32 4 4 6 := ⟨by kernel_rfl⟩
instance : TZv Tryz.prog 33 (.agg (List.toArray [.int .i64 0, .int .i64 0, .slice none 0 0, .slice none 0 0, .string ⟨#[]⟩, .int .i64 0, .int .i64 0, .slice none 0 0, .slice none 0 0, .bool false])) := ⟨by kernel_rfl⟩
instance : TFldV Tryz.prog 33 0 0 := ⟨by kernel_rfl⟩
instance : TFldV Tryz.prog 33 1 1 := ⟨by kernel_rfl⟩
instance : TFldV Tryz.prog 33 2 2 := ⟨by kernel_rfl⟩
instance : TFldV Tryz.prog 33 3 3 := ⟨by kernel_rfl⟩
instance : TFldA Tryz.prog 33 4 4 6 := ⟨by kernel_rfl⟩
instance : TZv Tryz.prog 36 (.agg (List.toArray [.string ⟨#[]⟩, .string ⟨#[]⟩, .int .i64 0, .int .i64 0, .bool false])) := ⟨by kernel_rfl⟩
instance : TFldV Tryz.prog 36 0 0 := ⟨by kernel_rfl⟩
instance : TFldV Tryz.prog 36 1 1 := ⟨by kernel_rfl⟩
instance : TFldA Tryz.prog 36 2 2 2 := ⟨by kernel_rfl⟩
instance : TFldV Tryz.prog 36 3 4 := ⟨by kernel_rfl⟩
instance : TZv Tryz.prog 37 (.agg (List.toArray [.string ⟨#[]⟩, .string ⟨#[]⟩, .int .i64 0, .int .i64 0, .bool false])) := ⟨by kernel_rfl⟩
instance : TFldV Tryz.prog 37 0 0 := ⟨by kernel_rfl⟩
instance : TFldV Tryz.prog 37 1 1 := ⟨by kernel_rfl⟩
instance : TFldA Tryz.prog 37 2 2 2 := ⟨by kernel_rfl⟩
instance : TFldV Tryz.prog 37 3 4 := ⟨by kernel_rfl⟩
instance : TZv Tryz.prog 38 (.slice none 0 0) := ⟨by kernel_rfl⟩
instance : TZv Tryz.prog 44 (.slice none 0 0) := ⟨by kernel_rfl⟩
instance : TZv Tryz.prog 45 (.agg (List.toArray [.int .i64 0, .int .i64 0, .slice none 0 0])) := ⟨by kernel_rfl⟩
instance : TFldV Tryz.prog 45 0 0 := ⟨by kernel_rfl⟩
instance : TFldV Tryz.prog 45 1 1 := ⟨by kernel_rfl⟩
instance : TFldV Tryz.prog 45 2 2 := ⟨by kernel_rfl⟩
instance : TZv Tryz.prog 46 (.agg (List.toArray [.int .i64 0, .int .i64 0, .slice none 0 0])) := ⟨by kernel_rfl⟩
instance : TFldV Tryz.prog 46 0 0 := ⟨by kernel_rfl⟩
instance : TFldV Tryz.prog 46 1 1 := ⟨by kernel_rfl⟩
instance : TFldV Tryz.prog 46 2 2 := ⟨by kernel_rfl⟩
instance : TZv Tryz.prog 56 (.pointer none) := ⟨by kernel_rfl⟩
instance : TZv Tryz.prog 57 (.agg (List.toArray [.slice none 0 0, .int .i64 0])) := ⟨by kernel_rfl⟩
instance : TFldV Tryz.prog 57 0 0 := ⟨by kernel_rfl⟩
instance : TFldV Tryz.prog 57 1 1 := ⟨by kernel_rfl⟩
instance : TZv Tryz.prog 58 (.agg (List.toArray [.slice none 0 0, .int .i64 0])) := ⟨by kernel_rfl⟩
instance : TFldV Tryz.prog 58 0 0 := ⟨by kernel_rfl⟩
instance : TFldV Tryz.prog 58 1 1 := ⟨by kernel_rfl⟩
instance : TZv Tryz.prog 63 (.slice none 0 0) := ⟨by kernel_rfl⟩
instance : TZv Tryz.prog 65 (.slice none 0 0) := ⟨by kernel_rfl⟩
instance : TZv Tryz.prog 66 (.agg (List.toArray [.slice none 0 0, .int .i64 0, .int .i64 0])) := ⟨by kernel_rfl⟩
instance : TFldV Tryz.prog 66 0 0 := ⟨by kernel_rfl⟩
instance : TFldV Tryz.prog 66 1 1 := ⟨by kernel_rfl⟩
instance : TFldV Tryz.prog 66 2 2 := ⟨by kernel_rfl⟩
instance : TZv Tryz.prog 67 (.agg (List.toArray [.slice none 0 0, .int .i64 0, .int .i64 0])) := ⟨by kernel_rfl⟩
instance : TFldV Tryz.prog 67 0 0 := ⟨by kernel_rfl⟩
instance : TFldV Tryz.prog 67 1 1 := ⟨by kernel_rfl⟩
instance : TFldV Tryz.prog 67 2 2 := ⟨by kernel_rfl⟩
instance : TZv Tryz.prog 71 (.slice none 0 0) := ⟨by kernel_rfl⟩
instance : TZv Tryz.prog 73 (.agg (List.toArray [.string ⟨#[]⟩])) := ⟨by kernel_rfl⟩
instance : TFldV Tryz.prog 73 0 0 := ⟨by kernel_rfl⟩
instance : TZv Tryz.prog 74 (.agg (List.toArray [.string ⟨#[]⟩])) := ⟨by kernel_rfl⟩
instance : TFldV Tryz.prog 74 0 0 := ⟨by kernel_rfl⟩
instance : TZv Tryz.prog 89 (.agg (List.toArray [.int .i64 0])) := ⟨by kernel_rfl⟩
instance : TFldV Tryz.prog 89 0 0 := ⟨by kernel_rfl⟩
instance : TZv Tryz.prog 90 (.agg (List.toArray [.int .i64 0])) := ⟨by kernel_rfl⟩
instance : TFldV Tryz.prog 90 0 0 := ⟨by kernel_rfl⟩
instance : TZv Tryz.prog 91 (.agg (List.toArray [])) := ⟨by kernel_rfl⟩
instance : TZv Tryz.prog 92 (.agg (List.toArray [])) := ⟨by kernel_rfl⟩
instance : TZv Tryz.prog 95 (.int .u64 0) := ⟨by kernel_rfl⟩
instance : TZv Tryz.prog 100 (.int .i64 0) := ⟨by kernel_rfl⟩
instance : TZv Tryz.prog 118 (.agg (List.toArray [.int .u8 0, .int .u8 0, .int .u8 0, .int .u8 0, .int .u8 0, .int .u8 0, .int .u8 0, .int .u8 0, .int .u8 0, .int .u8 0, .int .u8 0, .int .u8 0, .int .u8 0, .int .u8 0, .int .u8 0, .int .u8 0, .int .u8 0, .int .u8 0, .int .u8 0, .int .u8 0, .int .u8 0, .int .u8 0, .int .u8 0, .int .u8 0, .int .u8 0, .int .u8 0, .int .u8 0, .int .u8 0, .int .u8 0, .int .u8 0, .int .u8 0, .int .u8 0, .int .u8 0, .int .u8 0, .int .u8 0, .int .u8 0, .int .u8 0, .int .u8 0, .int .u8 0, .int .u8 0, .int .u8 0, .int .u8 0, .int .u8 0, .int .u8 0, .int .u8 0, .int .u8 0, .int .u8 0, .int .u8 0, .int .u8 0, .int .u8 0, .int .u8 0, .int .u8 0, .int .u8 0, .int .u8 0, .int .u8 0, .int .u8 0, .int .u8 0, .int .u8 0, .int .u8 0, .int .u8 0, .int .u8 0, .int .u8 0, .int .u8 0, .int .u8 0, .int .u8 0, .int .u8 0, .int .u8 0, .int .u8 0, .int .u8 0, .int .u8 0, .int .u8 0, .int .u8 0, .int .u8 0, .int .u8 0, .int .u8 0, .int .u8 0, .int .u8 0, .int .u8 0, .int .u8 0, .int .u8 0, .int .u8 0, .int .u8 0, .int .u8 0, .int .u8 0, .int .u8 0, .int .u8 0, .int .u8 0, .int .u8 0, .int .u8 0, .int .u8 0, .int .u8 0, .int .u8 0, .int .u8 0, .int .u8 0, .int .u8 0, .int .u8 0, .int .u8 0, .int .u8 0, .int .u8 0, .int .u8 0, .int .u8 0, .int .u8 0, .int .u8 0, .int .u8 0, .int .u8 0, .int .u8 0, .int .u8 0, .int .u8 0, .int .u8 0, .int .u8 0, .int .u8 0, .int .u8 0, .int .u8 0, .int .u8 0, .int .u8 0, .int .u8 0, .int .u8 0, .int .u8 0, .int .u8 0, .int .u8 0, .int .u8 0, .int .u8 0, .int .u8 0, .int .u8 0, .int .u8 0, .int .u8 0, .int .u8 0, .int .u8 0, .int .u8 0, .int .u8 0, .int .u8 0, .int .u8 0, .int .u8 0, .int .u8 0, .int .u8 0, .int .u8 0, .int .u8 0, .int .u8 0, .int .u8 0, .int .u8 0, .int .u8 0, .int .u8 0, .int .u8 0, .int .u8 0, .int .u8 0, .int .u8 0, .int .u8 0, .int .u8 0, .int .u8 0, .int .u8 0, .int .u8 0, .int .u8 0, .int .u8 0, .int .u8 0, .int .u8 0, .int .u8 0, .int .u8 0, .int .u8 0, .int .u8 0, .int .u8 0, .int .u8 0, .int .u8 0, .int .u8 0, .int .u8 0, .int .u8 0, .int .u8 0, .int .u8 0, .int .u8 0, .int .u8 0, .int .u8 0, .int .u8 0, .int .u8 0, .int .u8 0, .int .u8 0, .int .u8 0, .int .u8 0, .int .u8 0, .int .u8 0, .int .u8 0, .int .u8 0, .int .u8 0, .int .u8 0, .int .u8 0, .int .u8 0, .int .u8 0, .int .u8 0, .int .u8 0, .int .u8 0, .int .u8 0, .int .u8 0, .int .u8 0, .int .u8 0, .int .u8 0, .int .u8 0, .int .u8 0, .int .u8 0, .int .u8 0, .int .u8 0, .int .u8 0, .int .u8 0, .int .u8 0, .int .u8 0, .int .u8 0, .int .u8 0, .int .u8 0, .int .u8 0, .int .u8 0, .int .u8 0, .int .u8 0, .int .u8 0, .int .u8 0, .int .u8 0, .int .u8 0, .int .u8 0, .int .u8 0, .int .u8 0, .int .u8 0, .int .u8 0, .int .u8 0, .int .u8 0, .int .u8 0, .int .u8 0, .int .u8 0, .int .u8 0, .int .u8 0, .int .u8 0, .int .u8 0, .int .u8 0, .int .u8 0, .int .u8 0, .int .u8 0, .int .u8 0, .int .u8 0, .int .u8 0, .int .u8 0, .int .u8 0, .int .u8 0, .int .u8 0, .int .u8 0, .int .u8 0, .int .u8 0, .int .u8 0, .int .u8 0, .int .u8 0, .int .u8 0, .int .u8 0, .int .u8 0, .int .u8 0, .int .u8 0, .int .u8 0, .int .u8 0, .int .u8 0, .int .u8 0, .int .u8 0, .int .u8 0, .int .u8 0])) := ⟨by kernel_rfl⟩
instance : TZv Tryz.prog 121 (.pointer none) := ⟨by kernel_rfl⟩
instance : TZv Tryz.prog 122 (.agg (List.toArray [.pointer none, .slice none 0 0])) := ⟨by kernel_rfl⟩
instance : TFldV Tryz.prog 122 0 0 := ⟨by kernel_rfl⟩
instance : TFldV Tryz.prog 122 1 1 := ⟨by kernel_rfl⟩
instance : TZv Tryz.prog 123 (.agg (List.toArray [.pointer none, .slice none 0 0])) := ⟨by kernel_rfl⟩
instance : TFldV Tryz.prog 123 0 0 := ⟨by kernel_rfl⟩
instance : TFldV Tryz.prog 123 1 1 := ⟨by kernel_rfl⟩
instance : TZv Tryz.prog 130 (.pointer none) := ⟨by kernel_rfl⟩
instance : TZv Tryz.prog 131 (.agg (List.toArray [.string ⟨#[]⟩, .int .i64 0, .bool false])) := ⟨by kernel_rfl⟩
instance : TFldV Tryz.prog 131 0 0 := ⟨by kernel_rfl⟩
instance : TFldV Tryz.prog 131 1 1 := ⟨by kernel_rfl⟩
instance : TFldV Tryz.prog 131 2 2 := ⟨by kernel_rfl⟩
instance : TZv Tryz.prog 132 (.agg (List.toArray [.string ⟨#[]⟩, .int .i64 0, .bool false])) := ⟨by kernel_rfl⟩
instance : TFldV Tryz.prog 132 0 0 := ⟨by kernel_rfl⟩
instance : TFldV Tryz.prog 132 1 1 := ⟨by kernel_rfl⟩
instance : TFldV Tryz.prog 132 2 2 := ⟨by kernel_rfl⟩
instance : TZv Tryz.prog 139 (.slice none 0 0) := ⟨by kernel_rfl⟩
instance : TZv Tryz.prog 140 (.agg (List.toArray [.int .i64 0, .int .i64 0])) := ⟨by kernel_rfl⟩
instance : TFldV Tryz.prog 140 0 0 := ⟨by kernel_rfl⟩
instance : TFldV Tryz.prog 140 1 1 := ⟨by kernel_rfl⟩
instance : TZv Tryz.prog 141 (.agg (List.toArray [.int .i64 0, .int .i64 0])) := ⟨by kernel_rfl⟩
instance : TFldV Tryz.prog 141 0 0 := ⟨by kernel_rfl⟩
instance : TFldV Tryz.prog 141 1 1 := ⟨by kernel_rfl⟩
instance : TZv Tryz.prog 142 (.int .u32 0) := ⟨by kernel_rfl⟩
instance : TZv Tryz.prog 144 (.pointer none) := ⟨by kernel_rfl⟩
instance : TZv Tryz.prog 146 (.pointer none) := ⟨by kernel_rfl⟩
instance : TZv Tryz.prog 147 (.pointer none) := ⟨by kernel_rfl⟩
instance : TZv Tryz.prog 148 (.agg (List.toArray [.string ⟨#[]⟩, .bool false])) := ⟨by kernel_rfl⟩
instance : TFldV Tryz.prog 148 0 0 := ⟨by kernel_rfl⟩
instance : TFldV Tryz.prog 148 1 1 := ⟨by kernel_rfl⟩
instance : TZv Tryz.prog 149 (.agg (List.toArray [.string ⟨#[]⟩, .bool false])) := ⟨by kernel_rfl⟩
instance : TFldV Tryz.prog 149 0 0 := ⟨by kernel_rfl⟩
instance : TFldV Tryz.prog 149 1 1 := ⟨by kernel_rfl⟩
instance : TZv Tryz.prog 159 (.slice none 0 0) := ⟨by kernel_rfl⟩
instance : TZv Tryz.prog 160 (.slice none 0 0) := ⟨by kernel_rfl⟩
instance : TZv Tryz.prog 161 (.agg (List.toArray [.slice none 0 0, .slice none 0 0, .int .i64 0])) := ⟨by kernel_rfl⟩
instance : TFldV Tryz.prog 161 0 0 := ⟨by kernel_rfl⟩
instance : TFldV Tryz.prog 161 1 1 := ⟨by kernel_rfl⟩
instance : TFldV Tryz.prog 161 2 2 := ⟨by kernel_rfl⟩
instance : TZv Tryz.prog 162 (.agg (List.toArray [.slice none 0 0, .slice none 0 0, .int .i64 0])) := ⟨by kernel_rfl⟩
instance : TFldV Tryz.prog 162 0 0 := ⟨by kernel_rfl⟩
instance : TFldV Tryz.prog 162 1 1 := ⟨by kernel_rfl⟩
instance : TFldV Tryz.prog 162 2 2 := ⟨by kernel_rfl⟩
instance : TZv Tryz.prog 163 (.int .u16 0) := ⟨by kernel_rfl⟩
instance : TZv Tryz.prog 164 (.agg (List.toArray [.int .u16 0, .int .u16 0, .int .u16 0])) := ⟨by kernel_rfl⟩
instance : TFldV Tryz.prog 164 0 0 := ⟨by kernel_rfl⟩
instance : TFldV Tryz.prog 164 1 1 := ⟨by kernel_rfl⟩
instance : TFldV Tryz.prog 164 2 2 := ⟨by kernel_rfl⟩
instance : TZv Tryz.prog 165 (.agg (List.toArray [.int .u16 0, .int .u16 0, .int .u16 0])) := ⟨by kernel_rfl⟩
instance : TFldV Tryz.prog 165 0 0 := ⟨by kernel_rfl⟩
instance : TFldV Tryz.prog 165 1 1 := ⟨by kernel_rfl⟩
instance : TFldV Tryz.prog 165 2 2 := ⟨by kernel_rfl⟩
instance : TZv Tryz.prog 167 (.agg (List.toArray [.int .u32 0, .int .u32 0, .int .u32 0])) := ⟨by kernel_rfl⟩
instance : TFldV Tryz.prog 167 0 0 := ⟨by kernel_rfl⟩
instance : TFldV Tryz.prog 167 1 1 := ⟨by kernel_rfl⟩
instance : TFldV Tryz.prog 167 2 2 := ⟨by kernel_rfl⟩
instance : TZv Tryz.prog 168 (.agg (List.toArray [.int .u32 0, .int .u32 0, .int .u32 0])) := ⟨by kernel_rfl⟩
instance : TFldV Tryz.prog 168 0 0 := ⟨by kernel_rfl⟩
instance : TFldV Tryz.prog 168 1 1 := ⟨by kernel_rfl⟩
instance : TFldV Tryz.prog 168 2 2 := ⟨by kernel_rfl⟩
instance : TZv Tryz.prog 170 (.agg (List.toArray [.int .u8 0, .int .u8 0, .int .u8 0, .int .u8 0, .int .u8 0, .int .u8 0, .int .u8 0, .int .u8 0, .int .u8 0, .int .u8 0, .int .u8 0, .int .u8 0, .int .u8 0, .int .u8 0, .int .u8 0, .int .u8 0, .int .u8 0, .int .u8 0, .int .u8 0, .int .u8 0, .int .u8 0, .int .u8 0, .int .u8 0, .int .u8 0])) := ⟨by kernel_rfl⟩
instance : TZv Tryz.prog 171 (.int .u64 0) := ⟨by kernel_rfl⟩
instance : TZv Tryz.prog 176 (.pointer none) := ⟨by kernel_rfl⟩
instance : TZv Tryz.prog 187 (.pointer none) := ⟨by kernel_rfl⟩
instance : TZv Tryz.prog 188 (.pointer none) := ⟨by kernel_rfl⟩
instance : TZv Tryz.prog 190 (.agg (List.toArray [.int .u64 0, .int .u64 0, .int .u64 0, .int .u64 0, .int .u64 0, .int .u64 0, .int .u64 0, .int .u64 0, .int .u64 0, .int .u64 0, .int .u64 0, .int .u64 0, .int .u64 0, .int .u64 0, .int .u64 0, .int .u64 0, .int .u64 0, .int .u64 0, .int .u64 0, .int .u64 0])) := ⟨by kernel_rfl⟩
instance : TZv Tryz.prog 191 (.agg (List.toArray [.int .u8 0, .int .u8 0, .int .u8 0, .int .u8 0, .int .u8 0, .int .u8 0, .int .u8 0, .int .u8 0, .int .u8 0, .int .u8 0, .int .u8 0, .int .u8 0, .int .u8 0, .int .u8 0, .int .u8 0, .int .u8 0, .int .u8 0, .int .u8 0, .int .u8 0, .int .u8 0, .int .u8 0, .int .u8 0, .int .u8 0, .int .u8 0, .int .u8 0, .int .u8 0, .int .u8 0, .int .u8 0, .int .u8 0, .int .u8 0, .int .u8 0, .int .u8 0, .int .u8 0, .int .u8 0, .int .u8 0, .int .u8 0, .int .u8 0, .int .u8 0, .int .u8 0, .int .u8 0, .int .u8 0, .int .u8 0, .int .u8 0, .int .u8 0, .int .u8 0, .int .u8 0, .int .u8 0, .int .u8 0, .int .u8 0, .int .u8 0, .int .u8 0, .int .u8 0, .int .u8 0, .int .u8 0, .int .u8 0, .int .u8 0, .int .u8 0, .int .u8 0, .int .u8 0, .int .u8 0, .int .u8 0, .int .u8 0, .int .u8 0, .int .u8 0, .int .u8 0])) := ⟨by kernel_rfl⟩
instance : TZv Tryz.prog 202 (.int .i64 0) := ⟨by kernel_rfl⟩
instance : TZv Tryz.prog 209 (.agg (List.toArray [.int .u8 0, .int .u8 0, .int .u8 0, .int .u8 0, .int .u8 0, .int .u8 0, .int .u8 0, .int .u8 0, .int .u8 0, .int .u8 0, .int .u8 0, .int .u8 0, .int .u8 0, .int .u8 0, .int .u8 0, .int .u8 0, .int .u8 0, .int .u8 0, .int .u8 0, .int .u8 0, .int .u8 0, .int .u8 0, .int .u8 0, .int .u8 0, .int .u8 0, .int .u8 0, .int .u8 0, .int .u8 0, .int .u8 0, .int .u8 0, .int .u8 0, .int .u8 0])) := ⟨by kernel_rfl⟩
instance : TZv Tryz.prog 210 (.agg (List.toArray [.int .u8 0, .int .u8 0, .int .u8 0, .int .u8 0, .int .u8 0, .int .u8 0, .int .u8 0, .int .u8 0, .int .u8 0, .int .u8 0, .int .u8 0, .int .u8 0, .int .u8 0, .int .u8 0, .int .u8 0, .int .u8 0, .int .u8 0, .int .u8 0, .int .u8 0, .int .u8 0, .int .u8 0, .int .u8 0, .int .u8 0, .int .u8 0, .int .u8 0, .int .u8 0, .int .u8 0, .int .u8 0, .int .u8 0, .int .u8 0, .int .u8 0, .int .u8 0, .int .u8 0, .int .u8 0, .int .u8 0, .int .u8 0, .int .u8 0, .int .u8 0, .int .u8 0, .int .u8 0, .int .u8 0, .int .u8 0, .int .u8 0, .int .u8 0, .int .u8 0, .int .u8 0, .int .u8 0, .int .u8 0, .int .u8 0, .int .u8 0, .int .u8 0, .int .u8 0, .int .u8 0, .int .u8 0, .int .u8 0, .int .u8 0, .int .u8 0, .int .u8 0, .int .u8 0, .int .u8 0, .int .u8 0, .int .u8 0, .int .u8 0, .int .u8 0])) := ⟨by kernel_rfl⟩
instance : TZv Tryz.prog 211 (.int .u64 0) := ⟨by kernel_rfl⟩
instance : TZv Tryz.prog 215 (.pointer none) := ⟨by kernel_rfl⟩
instance : TZv Tryz.prog 217 (.agg (List.toArray [.int .u8 0, .int .u8 0])) := ⟨by kernel_rfl⟩
instance : TFldV Tryz.prog 217 0 0 := ⟨by kernel_rfl⟩
instance : TFldV Tryz.prog 217 1 1 := ⟨by kernel_rfl⟩
instance : TZv Tryz.prog 218 (.agg (List.toArray [.int .u8 0, .int .u8 0])) := ⟨by kernel_rfl⟩
instance : TFldV Tryz.prog 218 0 0 := ⟨by kernel_rfl⟩
instance : TFldV Tryz.prog 218 1 1 := ⟨by kernel_rfl⟩
instance : TZv Tryz.prog 219 (.agg (List.toArray [.int .u8 0, .int .u8 0, .int .u8 0, .int .u8 0, .int .u8 0, .int .u8 0, .int .u8 0, .int .u8 0, .int .u8 0, .int .u8 0, .int .u8 0, .int .u8 0, .int .u8 0, .int .u8 0, .int .u8 0, .int .u8 0, .int .u8 0, .int .u8 0, .int .u8 0, .int .u8 0, .int .u8 0, .int .u8 0, .int .u8 0, .int .u8 0, .int .u8 0, .int .u8 0, .int .u8 0, .int .u8 0, .int .u8 0, .int .u8 0, .int .u8 0, .int .u8 0])) := ⟨by kernel_rfl⟩
instance : TZv Tryz.prog 222 (.pointer none) := ⟨by kernel_rfl⟩
instance : TZv Tryz.prog 225 (.agg (List.toArray [.pointer none, .pointer none, .pointer none, .string ⟨#[]⟩])) := ⟨by kernel_rfl⟩
instance : TFldV Tryz.prog 225 0 0 := ⟨by kernel_rfl⟩
instance : TFldV Tryz.prog 225 1 1 := ⟨by kernel_rfl⟩
instance : TFldV Tryz.prog 225 2 2 := ⟨by kernel_rfl⟩
instance : TFldV Tryz.prog 225 3 3 := ⟨by kernel_rfl⟩
instance : TZv Tryz.prog 227 (.agg (List.toArray [])) := ⟨by kernel_rfl⟩
instance : TZv Tryz.prog 228 (.agg (List.toArray [])) := ⟨by kernel_rfl⟩
instance : TFldA Tryz.prog 228 0 0 0 := ⟨by kernel_rfl⟩
instance : TZv Tryz.prog 235 (.agg (List.toArray [.int .u64 0, .int .u64 0, .int .u32 0, .int .u8 0, .int .u8 0, .int .u8 0, .int .u8 0, .nilFunc, .pointer none, .int .i32 0, .int .i32 0])) := ⟨by kernel_rfl⟩
instance : TFldV Tryz.prog 235 0 0 := ⟨by kernel_rfl⟩
instance : TFldV Tryz.prog 235 1 1 := ⟨by kernel_rfl⟩
instance : TFldV Tryz.prog 235 2 2 := ⟨by kernel_rfl⟩
instance : TFldV Tryz.prog 235 3 3 := ⟨by kernel_rfl⟩
instance : TFldV Tryz.prog 235 4 4 := ⟨by kernel_rfl⟩
instance : TFldV Tryz.prog 235 5 5 := ⟨by kernel_rfl⟩
instance : TFldV Tryz.prog 235 6 6 := ⟨by kernel_rfl⟩
instance : TFldV Tryz.prog 235 7 7 := ⟨by kernel_rfl⟩
instance : TFldV Tryz.prog 235 8 8 := ⟨by kernel_rfl⟩
instance : TFldV Tryz.prog 235 9 9 := ⟨by kernel_rfl⟩
instance : TFldV Tryz.prog 235 10 10 := ⟨by kernel_rfl⟩
end Go.Proofs.YtealabaiamaojaaGreatDoor
namespace Go.Proofs.YtealabaiamaojaaGreatDoor
open Go.JW Go.RowKit
instance : TCon Tryz.prog 74 := ⟨⟨_, Tryz.underlying74, trivial⟩⟩
instance : TCon Tryz.prog 92 := ⟨⟨_, Tryz.underlying92, trivial⟩⟩
instance : TCon Tryz.prog 90 := ⟨⟨_, Tryz.underlying90, trivial⟩⟩
instance : TCon Tryz.prog 100 := ⟨⟨_, Tryz.underlying100, trivial⟩⟩
instance : TCon Tryz.prog 33 := ⟨⟨_, Tryz.underlying33, trivial⟩⟩
abbrev tpB (b : Nat) (v : Value) (m n : Nat) : HP := blk b (.cells (List.toArray [v, .int .i64 m, .int .i64 n]) 67 (0, 0))
def tapeL (rs : List RecD) : List Ru := rus (tapeR (linesP rs))
abbrev tpK (b : Nat) (v : Value) (rs : List RecD) (m n : Nat) : List HP := [rowD 0 21 v (tapeL rs), tpB b v m n]
def tapHP (b : Nat) (rs : List RecD) (n : Nat) : HP := ⟨fun g F => ∃ v, SepIn g (tpK b v rs rs.length n) F, fun ⟨v, h⟩ hg hi => ⟨v, h.loc hg hi⟩⟩
theorem tapeL_app (a b : List RecD) : tapeL (a ++ b) = tapeL a ++ tapeL b := by unfold tapeL linesP; rw [List.map_append, tapeR_app, rus_app]
theorem tapeL_one (r : RecD) : tapeL [r] = rus (Rn (textP r)) ++ rus [10] := by unfold tapeL linesP; rw [List.map_singleton, tapeR_one, lineR, rus_app]
theorem tapeL_len {rs : List RecD} (h : Oks rs) : (tapeL rs).length ≤ 5001 * rs.length := by
  unfold tapeL
  rw [rus_len]
  have := tape_len (L := linesP rs) (fun l hl => by obtain ⟨r, hr, rfl⟩ := List.mem_map.1 hl; exact textP_size (h r hr))
  simpa [linesP] using this
def idxI (l : List Int) : Int := if (10 : Int) ∈ l then l.idxOf 10 else -1
theorem index32_c (l : List Int) (v : Value) (w : World) (h : RepL (hp w) v (rus l)) : Calls Tryz.prog 40 #[v, .int .i32 10] w fun e w' => e = .returned (.int .i64 (idxI l)) ∧ Below w.heap.size w w' := by
  have hl : l.length ≤ 140737488355328 := by have := h.1; rwa [rus_len] at this
  have hrl : (rus l).length = l.length := rus_len l
  obtain ⟨a, cap, rfl⟩ := h.form
  refine RS.enter Tryz.func40 Tryz.ntmps40 rfl rfl ?_
  refine zN ?_; refine asI ?_; refine LS.done ?_
  refine zN ?_; refine mvL ?_; refine lenL ?_; refine mvI ?_; refine LS.done ?_
  refine zN ?_
  refine RS.loopF (X := Nat) 5 19 (fun x => x ≤ l.length ∧ (10 : Int) ∉ l.take x) (fun x => [(7, .int .i64 (rus l).length), (8, .int .i64 x)]) (fun _ => hp w) (fun _ => []) (fun x => l.length - x) 0 ⟨Nat.zero_le _, by simp⟩ ⟨rfl, rfl, trivial⟩ rfl ⟨fun h => h⟩ ?_
  rintro x g ⟨hx, hno⟩ ih
  refine zN ?_; refine ltI ?_; refine LS.done ?_
  refine zN ?_
  refine RS.cond (fun c => ?_) (fun c => ?_)
  · have c := of_decide_eq_true c
    have hxl : x < l.length := by omega
    obtain ⟨bb, o, rfl, hrow⟩ := h.addr (fun e => by have h0 := congrArg List.length e; rw [rus_len, List.length_nil] at h0; omega)
    have hcell := hrow.ru x hxl
    rw [show o + x = o + x * 1 by omega] at hcell
    refine zN ?_; refine mvI ?_; refine asI ?_; refine LS.done ?_
    refine zN ?_; refine mvI ?_; refine mvL ?_; refine mvI ?_; refine idx (i := x) ?_; refine ldS hcell ?_; refine eqI ?_; refine LS.done ?_
    refine zN ?_
    have hsplit : l.take (x + 1) = l.take x ++ [l.getD x 0] := by rw [List.take_succ_eq_append_getElem hxl]; simp [List.getD, hxl]
    refine RS.cond (fun c2 => ?_) (fun c2 => ?_)
    · have c2 := of_decide_eq_true c2
      refine zN ?_; refine mvI ?_; refine asI ?_; refine LS.done ?_
      refine zN ?_; refine RS.ret1 (v := .int _ _) Tryz.func40 fun w hw => ?_
      have hm : (10 : Int) ∈ l := List.mem_of_mem_take (i := x + 1) (by rw [hsplit, ← c2]; simp)
      have hi : l.idxOf 10 = x := by
        have e : l = l.take x ++ ((10 : Int) :: l.drop (x + 1)) := by
          conv => lhs; rw [← List.take_append_drop (x + 1) l, hsplit, ← c2]
          simp
        rw [e, List.idxOf_append, if_neg hno]
        simp
        omega
      exact ⟨by unfold idxI; rw [if_pos hm, hi], hw.below⟩
    · have c2 := of_decide_eq_false c2
      refine RS.skip ?_
      refine zN ?_; (first | refine addN ?_ | refine addI ?_); refine mvI ?_; refine LS.done ?_
      refine zN ?_
      exact ih (x + 1) ⟨hxl, by rw [hsplit]; simp only [List.mem_append, List.mem_singleton]; exact fun h => h.elim hno c2⟩ (by omega) ⟨rfl, rfl, trivial⟩ (by repeat (first | with_reducible exact Out.refl _ _ _ | exact Out.hv | refine Out.upd ?_ | refine Out.hvIn ?_)) ⟨fun h => h⟩ rfl
  · have c := of_decide_eq_false c
    obtain rfl : x = l.length := by omega
    rw [List.take_length] at hno
    refine RS.exit ?_
    refine zN ?_; refine asI ?_; refine LS.done ?_
    refine zN ?_; refine RS.ret1 (v := .int _ _) Tryz.func40 fun w hw => ?_
    exact ⟨by unfold idxI; rw [if_neg hno], hw.below⟩
theorem cell_of {σ : PH} {b T j : Nat} {cs : List Value} {v : Value} (h : σ b = some (.cells cs.toArray T (0, 0))) (hv : cs[j]? = some v) : σ.cell b j = some v := by
  unfold PH.cell; rw [h]; simpa using hv
theorem end_c (L : List Bs) (hu : Unis L) (v : Value) (cs : List Value) (b k : Nat) (hk : k ≤ L.length) (hL : L.length ≤ 1000000) (w : World) (hb : hp w b = some (.cells (v :: cs).toArray 67 (0, 0))) (hv : RepL (hp w) v (rus (tapeR L))) :
    Calls Tryz.prog 56 #[.pointer (some ⟨b, 0, none⟩), .int .i64 k] w fun e w' => e = .returned (.int .i64 (endR_ L k)) ∧ Below w.heap.size w w' := by
  have hl : (tapeR L).length ≤ 140737488355328 := by have := hv.1; rwa [rus_len] at this
  have hrl : (rus (tapeR L)).length = (tapeR L).length := rus_len _
  obtain ⟨a, cap, rfl⟩ := hv.form
  have hcap := hv.cap
  have hc0 := cell_of (j := 0) hb rfl
  refine RS.enter Tryz.func56 Tryz.ntmps56 rfl rfl ?_
  refine zN ?_; refine asI ?_; refine LS.done ?_
  refine zN ?_; refine asI ?_; refine LS.done ?_
  refine zN ?_
  refine RS.loopF (X := Nat) 1 20 (fun x => x ≤ k) (fun x => [(1, .int .i64 ((k - x : Nat) : Int)), (5, .int .i64 (endR_ L x))]) (fun _ => hp w) (fun _ => []) (fun x => k - x) 0 (Nat.zero_le _) ⟨rfl, rfl, trivial⟩ rfl ⟨fun h => h⟩ ?_
  rintro x g hx ih
  refine zN ?_; refine mvI ?_; refine gtI ?_; refine LS.done ?_
  refine zN ?_
  refine RS.cond (fun c => ?_) (fun c => ?_)
  · have c := of_decide_eq_true c
    have hxl : x < L.length := by omega
    have hle := tape_end_le L x
    have hle2 := tape_end_le L (x + 1)
    have hnx := tape_next hxl
    obtain ⟨v16, h16⟩ : ∃ v16 : Value, .slice (if cap = endR_ L x then a else a.map (·.add (endR_ L x * 1))) ((rus (tapeR L)).length - endR_ L x) (cap - endR_ L x) = v16 := ⟨_, rfl⟩
    have hr16 : RepL (hp w) v16 (rus (tapeR (L.drop x))) := by
      have := hv.drop (endR_ L x) (by omega)
      rw [show (rus (tapeR L)).drop (endR_ L x) = rus (tapeR (L.drop x)) by unfold rus; rw [← List.map_drop, tape_drop]] at this
      rw [← h16]; exact this
    have hi : idxI (tapeR (L.drop x)) = (Rn L[x]).length := by unfold idxI; rw [if_pos (tape_mem hxl), tape_idx hu hxl]
    refine zN ?_
    refine zN ?_; refine mvI ?_; refine mvP ?_; refine nilck ?_; refine fld ?_; refine ldS hc0 ?_; refine mvI ?_; refine slcLo (endR_ L x) v16 ?_ (hv := h16)
    refine callP ?_ (hc := fun w' hw => index32_c (tapeR (L.drop x)) v16 w' (hr16.mono hw.imm))
    rw [hi]
    (first | refine addN ?_ | refine addI ?_); (first | refine addN ?_ | refine addI ?_); refine asI ?_; refine LS.done ?_
    refine zN ?_
    refine mvI ?_; (first | refine subN ?_ | refine subI ?_); refine asI ?_; refine LS.done ?_
    refine zN ?_
    refine ih (x + 1) (by omega) (by omega) ⟨?_, ?_, trivial⟩ (by repeat (first | with_reducible exact Out.refl _ _ _ | exact Out.hv | refine Out.upd ?_ | refine Out.hvIn ?_)) ⟨fun h => h⟩ rfl
    · show Value.int .i64 _ = _
      congr 1; omega
    · show Value.int .i64 _ = _
      congr 1; omega
  · have c := of_decide_eq_false c
    obtain rfl : x = k := by omega
    refine RS.exit ?_
    refine zN ?_; refine mvI ?_; refine asI ?_; refine LS.done ?_
    refine zN ?_; refine RS.ret1 (v := .int _ _) Tryz.func56 fun w hw => ?_
    exact ⟨rfl, hw.below⟩
section
variable {w0 w : World} {M : Nat → Prop} {σ : PH} {K : List HP} {b n : Nat} {rs : List RecD}
theorem openTp (hw : Sat w0 M σ (tapHP b rs n :: K) w) : ∃ v, Sat w0 M σ (rowD 0 21 v (tapeL rs) :: tpB b v rs.length n :: K) w := by
  obtain ⟨F1, ⟨v, h3⟩, h4, h5⟩ := hw.sep
  exact ⟨v, hw.os, hw.tape, hw.output, hw.size, hw.keep, hw.imm, SepIn.append (A := tpK b v rs rs.length n) ⟨F1, h3, h4, h5⟩⟩
theorem closeTp {v : Value} (hw : Sat w0 M σ (rowD 0 21 v (tapeL rs) :: tpB b v rs.length n :: K) w) : Sat w0 M σ (tapHP b rs n :: K) w := by
  obtain ⟨F1, h3, h4, h5⟩ := SepIn.group (A := tpK b v rs rs.length n) hw.sep
  exact ⟨hw.os, hw.tape, hw.output, hw.size, hw.keep, hw.imm, F1, ⟨v, h3⟩, h4, h5⟩
theorem readTp (ho : Oks rs) (hl : rs.length ≤ 1000000) (hw : Sat w0 M σ (tapHP b rs n :: K) w) : ∃ v, hp w b = some (.cells (List.toArray [v, .int .i64 rs.length, .int .i64 n]) 67 (0, 0)) ∧ RepL (hp w) v (tapeL rs) := by
  obtain ⟨v, h⟩ := openTp hw
  have hlen := tapeL_len ho
  exact ⟨v, h.get (b := b) (i := by infer_instance), h.rowRepD (by omega)⟩
theorem dow_s (r : RecD) (hok : checkP r = 0) (ho : Oks rs) (hl : rs.length ≤ 1000000) (w : World) (hw : Sat w0 M σ (tapHP b rs n :: K) w) :
    Calls Tryz.prog 33 #[.pointer (some ⟨b, 0, none⟩), .iface 74 (.agg (List.toArray [.string (B (textP r))]))] w fun e w' => ∃ v σ', PH.le σ σ' ∧ v = .tuple #[] ∧ e = .returned v ∧ Sat w0 M σ' (tapHP b (rs ++ [r]) n :: K) w' := by
  obtain ⟨vt, hw⟩ := openTp hw
  have hlen := tapeL_len ho
  have hsz := textP_size hok
  have hrl := Rn_le (textP r)
  have hr1 : (rus (Rn (textP r))).length = (Rn (textP r)).length := rus_len _
  have hr2 : (rus [10]).length = 1 := rfl
  have hA : (tapeL rs ++ rus (Rn (textP r))).length ≤ 5001000000 + 5000 := by rw [List.length_append]; omega
  refine RS.enterK Tryz.func33 Tryz.ntmps33 rfl rfl hw ?_
  refine zN ?_; refine mv ?_; refine LS.done ?_
  refine zN ?_; refine asY (.agg (List.toArray [.string (B (textP r))])) ?_; refine extr (v := .bool _) ?_; refine extr (v := _) ?_; refine LS.done ?_
  refine zN ?_
  refine RS.condT ?_
  refine zN ?_; refine alloc_ (fun b4 => ?_); refine st (.agg _) _ ?_; refine LS.done ?_
  refine RS.to (K' := rowD 0 21 vt (tapeL rs) :: blk b4 (.cells (List.toArray [.string (B (textP r))]) 74 (0, 0)) :: tpB b vt rs.length n :: K) ?_ ⟨fun h => SepIn.swap h⟩
  refine zD ?_; refine RS.draw [.free, .free, .free, .free, .ex, .free, .ex, .ex, .eff, .ex, .eff, .free, .free, .st] [blk b4 (.cells (List.toArray [.string (B (textP r))]) 74 (0, 0)), tpB b vt rs.length n] ?_ (by kernel_rfl) (by kernel_rfl) (by infer_instance); refine D.mvP ?_; refine D.mvP ?_; refine D.nilck ?_; refine D.fld ?_; refine D.ld1 (v := vt) ?_; refine D.fld ?_; refine D.ld1 (v := .string _) ?_; refine D.s2r (textP r) ?_; refine D.appD vt (rus (Rn (textP r))) (vy := fun us => us 18) ?_ (fun us σ' hle hf => ⟨_, hf.1, by rw [fromN_zero]; exact PH.le_refl _⟩); refine D.litT 0 (rus [10]) (vs := fun us => [.int .i32 10]) ?_ (fun us σ' _ _ => ⟨rfl, trivial⟩); refine D.appU 19 (rus [10]) (vy := fun us => us 20) ?_ (fun us σ' hle hf => ⟨_, hf.1, PH.le_refl _⟩); refine D.nilck ?_; refine D.fld ?_
  refine D.stU 21 (fun us => [us 21, .int .i64 rs.length, .int .i64 n]) ?_
  refine D.done (fun us σ3 hle3 hfs => ?_)
  refine RS.ow ?_
  refine zN ?_; refine mvP ?_; refine nilck ?_; refine fld ?_; refine ld1 (v := .int _ _) ?_; (first | refine addN ?_ | refine addI ?_); refine nilck ?_; refine fld ?_; refine st (.int _ _) _ ?_; refine LS.done ?_
  refine zN ?_
  refine RS.fin0 Tryz.func33 (fun w hw => ?_)
  have e1 : tapeL (rs ++ [r]) = tapeL rs ++ rus (Rn (textP r)) ++ rus [10] := by rw [tapeL_app, tapeL_one, List.append_assoc]
  have e2 : ((rs ++ [r]).length : Int) = (rs.length : Int) + 1 := by simp
  have h2 : Sat w0 M σ3 (rowD 0 21 (us 21) (tapeL (rs ++ [r])) :: blk b (.cells (List.toArray [us 21, .int .i64 ((rs ++ [r]).length : Int), .int .i64 n]) 67 (0, 0)) :: K) w := by
    rw [e1, e2]
    exact hw.weak fun F h => SepIn.cons_sub (fun _ => SepIn.tail) h
  exact ⟨_, σ3, hle3, rfl, rfl, closeTp h2⟩
theorem dos_s (w : World) (hw : Sat w0 M σ (tapHP b rs n :: K) w) :
    Calls Tryz.prog 33 #[.pointer (some ⟨b, 0, none⟩), .iface 92 (.agg #[])] w fun e w' => e = .returned (.tuple #[]) ∧ Sat w0 M σ (tapHP b rs rs.length :: K) w' := by
  obtain ⟨vt, hw⟩ := openTp hw
  refine RS.enterK Tryz.func33 Tryz.ntmps33 rfl rfl hw ?_
  refine zN ?_; refine mv ?_; refine LS.done ?_
  refine zN ?_; refine asN (.agg #[]) _ ?_; refine extr (v := .bool _) ?_; refine extr (v := _) ?_; refine LS.done ?_
  refine zN ?_
  refine RS.condF ?_
  refine zN ?_; refine asY (.agg #[]) ?_; refine extr (v := .bool _) ?_; refine extr (v := _) ?_; refine LS.done ?_
  refine zN ?_
  refine RS.condT ?_
  refine zN ?_; refine alloc_ (fun b5 => ?_); refine st (.agg _) _ ?_; refine LS.done ?_
  refine zN ?_; refine mvP ?_; refine mvP ?_; refine nilck ?_; refine fld ?_; refine ld1 (v := .int _ _) ?_; refine nilck ?_; refine fld ?_; refine st (.int _ _) _ ?_; refine LS.done ?_
  refine zN ?_
  refine RS.fin0 Tryz.func33 (fun w hw => ?_)
  exact ⟨rfl, closeTp (v := vt) (hw.weak fun F h => SepIn.tail h)⟩
theorem doc_s (kp : Int) (hkp : I64 kp) (ho : Oks rs) (hl : rs.length ≤ 1000000) (hn : n ≤ rs.length) (w : World) (hw : Sat w0 M σ (tapHP b rs n :: K) w) :
    Calls Tryz.prog 33 #[.pointer (some ⟨b, 0, none⟩), .iface 90 (.agg (List.toArray [.int .i64 kp]))] w fun e w' => ∃ v σ', PH.le σ σ' ∧ v = .tuple #[] ∧ e = .returned v ∧ Sat w0 M σ' (tapHP b (rs.take (keepN rs.length n kp)) (keepN rs.length n kp) :: K) w' := by
  obtain ⟨vt, hw⟩ := openTp hw
  have hlen := tapeL_len ho
  obtain ⟨at_, ct, rfl, hcap, hcap2⟩ := hw.formD (v := vt) (l := tapeL rs)
  have hkn := keepN_le kp hn
  have hk0 : (keepN rs.length n kp : Int) = n + (min (max kp 0) ((rs.length : Int) - n)) := by unfold keepN; omega
  obtain ⟨kn, hkk⟩ : ∃ kn, kn = keepN rs.length n kp := ⟨_, rfl⟩
  rw [← hkk] at hkn hk0 ⊢
  refine RS.enterK Tryz.func33 Tryz.ntmps33 rfl rfl hw ?_
  refine zN ?_; refine mv ?_; refine LS.done ?_
  refine zN ?_; refine asN (.agg (List.toArray [.int .i64 kp])) _ ?_; refine extr (v := .bool _) ?_; refine extr (v := _) ?_; refine LS.done ?_
  refine zN ?_
  refine RS.condF ?_
  refine zN ?_; refine asN (.agg (List.toArray [.int .i64 kp])) _ ?_; refine extr (v := .bool _) ?_; refine extr (v := _) ?_; refine LS.done ?_
  refine zN ?_
  refine RS.condF ?_
  refine zN ?_; refine asY (.agg (List.toArray [.int .i64 kp])) ?_; refine extr (v := .bool _) ?_; refine extr (v := _) ?_; refine LS.done ?_
  refine zN ?_
  refine RS.condT ?_
  refine zN ?_; refine alloc_ (fun b6 => ?_); refine st (.agg _) _ ?_; refine LS.done ?_
  refine RS.to (K' := blk b6 (.cells (List.toArray [.int .i64 kp]) 90 (0, 0)) :: rowD 0 21 (.slice at_ (tapeL rs).length ct) (tapeL rs) :: tpB b (.slice at_ (tapeL rs).length ct) rs.length n :: K) ?_ ⟨fun h => h⟩
  refine zD ?_; refine RS.drawK [.free, .free, .free, .free, .ex, .free, .ex, .ex, .free, .free, .free, .ex, .free, .free, .free, .ex, .free, .ex, .free, .free, .free, .st] ?_ (by kernel_rfl) (by kernel_rfl); refine D.mvP ?_; refine D.mvP ?_; refine D.nilck ?_; refine D.fld ?_; refine D.ld1 (v := .int _ _) ?_; refine D.fld ?_; refine D.ld1 (v := .int _ _) ?_; refine D.maxI ?_; refine D.mvP ?_; refine D.nilck ?_; refine D.fld ?_; refine D.ld1 (v := .int _ _) ?_; refine D.mvP ?_; refine D.nilck ?_; refine D.fld ?_; refine D.ld1 (v := .int _ _) ?_; (first | refine D.subN ?_ | refine D.subI ?_); refine D.minI ?_; (first | refine D.addN ?_ | refine D.addI ?_); refine D.nilck ?_; refine D.fld ?_
  have hval : (n : Int) + (if (rs.length : Int) - n < (if 0 > kp then 0 else kp) then (rs.length : Int) - n else if 0 > kp then 0 else kp) = kn := by
    rw [hk0]
    split <;> split at * <;> omega
  rw [hval]
  refine D.stB (.int .i64 kn) (List.toArray [.slice at_ (tapeL rs).length ct, .int .i64 kn, .int .i64 n]).toList ?_ (hr := Nat.le_of_ble_eq_true rfl)
  refine D.done (fun us σ3 hle3 hfs => ?_)
  refine RS.ow ?_
  refine zN ?_; refine mvP ?_; refine mvP ?_; refine nilck ?_; refine fld ?_; refine ld1 (v := .int _ _) ?_; refine nilck ?_; refine fld ?_; refine st (.int _ _) _ ?_; refine LS.done ?_
  have hu := lines_uni ho
  have hel := tape_end_le (linesP rs) kn
  have hll : (linesP rs).length = rs.length := by simp [linesP]
  have htl : (tapeL rs).length = (tapeR (linesP rs)).length := rus_len _
  refine zD ?_; refine RS.drawK [.free, .free, .free, .free, .ex, .free, .free, .free, .free, .ex, .ex, .free, .free, .free, .st] ?_ (by kernel_rfl) (by kernel_rfl); refine D.mvP ?_; refine D.mvP ?_; refine D.nilck ?_; refine D.fld ?_; refine D.ld1 (v := .slice _ _ _) ?_; refine D.mvP ?_; refine D.mvP ?_; refine D.nilck ?_; refine D.fld ?_; refine D.ld1 (v := .int _ _) ?_
  refine D.callP ?_ (hc := fun us σ' w hle hfs hw => end_c (linesP rs) hu (.slice at_ (tapeL rs).length ct) [.int .i64 kn, .int .i64 kn] b kn (by omega) (by omega) w (hw.get (b := b) (i := by infer_instance)) (hw.rowRepD (l := tapeL rs) (by omega)))
  refine D.slcHi (endR_ (linesP rs) kn) ?_; refine D.nilck ?_; refine D.fld ?_
  refine D.stB (.slice at_ (endR_ (linesP rs) kn) ct) (List.toArray [.slice at_ (endR_ (linesP rs) kn) ct, .int .i64 kn, .int .i64 kn]).toList ?_ (hr := Nat.le_of_ble_eq_true rfl)
  refine D.done (fun us σ4 hle4 hfs4 => ?_)
  refine RS.ow ?_
  refine RS.cutD (a := at_) (m := (tapeL rs).length) (cap := ct) (l := tapeL rs) (endR_ (linesP rs) kn) (by omega) (by infer_instance) ?_
  refine zN ?_
  refine RS.fin0 Tryz.func33 (fun w hw => ?_)
  have e1 : (tapeL rs).take (endR_ (linesP rs) kn) = tapeL (rs.take kn) := by
    unfold tapeL rus; rw [← List.map_take, tape_take]; unfold linesP; rw [List.map_take]
  have e2 : (rs.take kn).length = kn := by rw [List.length_take]; omega
  rw [e1] at hw
  refine ⟨_, σ4, PH.le_trans hle3 hle4, rfl, rfl, closeTp (v := .slice at_ (endR_ (linesP rs) kn) ct) ?_⟩
  unfold tpB
  rw [e2]
  exact hw.weak fun F h => SepIn.cons_sub (fun _ => SepIn.tail) h
end
end Go.Proofs.YtealabaiamaojaaGreatDoor
namespace Go.Proofs.YtealabaiamaojaaGreatDoor
open Go.JW Go.RowKit
theorem lines_c (L : List Bs) (hu : Unis L) (hL : L.length ≤ 1000000) (h5 : ∀ l ∈ L, l.length ≤ 5000) (v : Value) (cs : List Value) (b : Nat) (w : World) (hb : hp w b = some (.cells (v :: .int .i64 L.length :: cs).toArray 67 (0, 0))) (hv : RepL (hp w) v (rus (tapeR L))) :
    Calls Tryz.prog 17 #[.pointer (some ⟨b, 0, none⟩)] w fun e w' => ∃ v', e = .returned v' ∧ Below w.heap.size w w' ∧ RepL (since w w') v' (L.map B) := by
  have hc0 := cell_of (j := 0) hb rfl
  have hc1 := cell_of (j := 1) hb rfl
  refine RS.enter Tryz.func17 Tryz.ntmps17 rfl rfl ?_
  refine zN ?_; refine asL ?_; refine LS.done ?_
  refine zN ?_; refine mvP ?_; refine nilck ?_; refine fld ?_; refine ldS hc1 ?_; refine mkD0 (α := ByteArray) w.heap.size (fun v3 => ?_); refine as_ (v := v3) ?_; refine LS.done ?_
  refine zN ?_; refine mvP ?_; refine nilck ?_; refine fld ?_; refine ldS hc0 ?_; refine as_ (v := v) ?_; refine LS.done ?_
  refine zN ?_
  refine RS.loopF (X := Nat × Value × Value) 3 31 (fun x => x.1 ≤ L.length ∧ RepL (hp w) x.2.2 (rus (tapeR (L.drop x.1)))) (fun x => [(3, x.2.1), (4, x.2.2)]) (fun _ => hp w) (fun x => [rowD w.heap.size 9 x.2.1 ((L.take x.1).map B)]) (fun x => L.length - x.1) (0, v3, v) ⟨Nat.zero_le _, hv⟩ ⟨rfl, rfl, trivial⟩ rfl ⟨fun h => h⟩ ?_
  rintro ⟨x, v3, v4⟩ g ⟨hx, hr4⟩ ih
  dsimp only at hx hr4
  have hlt : (L.take x).length = x := by rw [List.length_take]; omega
  have hlen4 := hr4.1
  have hl4 : (rus (tapeR (L.drop x))).length = (tapeR (L.drop x)).length := rus_len _
  obtain ⟨a4, c4, rfl⟩ := hr4.form
  have hcap4 := hr4.cap
  refine zN ?_; refine mvL ?_; refine lenL ?_; refine gtI ?_; refine LS.done ?_
  refine zN ?_
  by_cases hxl : x < L.length
  · have hcons := tape_cons hxl
    have hll : (tapeR (L.drop x)).length = (Rn L[x]).length + 1 + (tapeR (L.drop (x + 1))).length := by rw [hcons, List.length_append]; simp [lineR]
    refine RS.condT ?_ (h := by simp; omega)
    have hi : idxI (tapeR (L.drop x)) = (Rn L[x]).length := by unfold idxI; rw [if_pos (tape_mem hxl), tape_idx hu hxl]
    have hux := hu _ (List.getElem_mem hxl)
    have hsz := h5 _ (List.getElem_mem hxl)
    refine zN ?_
    refine zN ?_; refine mvL ?_
    refine callP ?_ (hc := fun w' hw => index32_c (tapeR (L.drop x)) _ w' (hr4.mono hw.imm))
    rw [hi]
    refine asI ?_; refine LS.done ?_
    have hr23 : RepL (hp w) (.slice a4 (Rn L[x]).length c4) (rus (Rn L[x])) := by
      have := hr4.take (Rn L[x]).length (by omega)
      rw [show (rus (tapeR (L.drop x))).take (Rn L[x]).length = rus (Rn L[x]) by unfold rus; rw [← List.map_take, hcons]; unfold lineR; rw [List.append_assoc, List.take_left]] at this
      exact this
    have hcell := strCells (x := B L[x]) (by rw [B_size]; omega)
    refine zN ?_; refine mv (v := v3) ?_; refine mvL ?_; refine mvI ?_; refine slcHi (Rn L[x]).length (.slice a4 (Rn L[x]).length c4) ?_ (hv := by rw [ite_self]); refine r2s (Rn L[x]) hr23 ?_; rw [runes_back hux]; refine bldS [.string (B L[x])] [.string (B L[x])] (fun b25 => ?_); refine appD (v := v3) (l' := [B L[x]]) (vy := .slice (some ⟨b25, 0, none⟩) 1 1) (fun w' hw => ⟨_, srcB hw TSlice.eq, hcell _⟩) (fun v26 => ?_) (hb := by simp; omega) (hm := by simp; omega); refine as_ (v := v26) ?_; refine LS.done ?_
    obtain ⟨v30, h30⟩ : ∃ v30 : Value, .slice (if c4 = (Rn L[x]).length + 1 then a4 else a4.map (·.add (((Rn L[x]).length + 1) * 1))) ((rus (tapeR (L.drop x))).length - ((Rn L[x]).length + 1)) (c4 - ((Rn L[x]).length + 1)) = v30 := ⟨_, rfl⟩
    have hr30 : RepL (hp w) v30 (rus (tapeR (L.drop (x + 1)))) := by
      have := hr4.drop ((Rn L[x]).length + 1) (by omega)
      rw [show (rus (tapeR (L.drop x))).drop ((Rn L[x]).length + 1) = rus (tapeR (L.drop (x + 1))) by unfold rus; rw [← List.map_drop, hcons, show (Rn L[x]).length + 1 = (lineR L[x]).length by simp [lineR], List.drop_left]] at this
      rw [← h30]; exact this
    refine zN ?_; refine mvL ?_; refine mvI ?_; (first | refine addN ?_ | refine addI ?_); refine slcLo ((Rn L[x]).length + 1) v30 ?_ (hv := h30); refine as_ (v := v30) ?_; refine LS.done ?_
    refine zN ?_
    have hsu : (L.take x).map B ++ [B L[x]] = (L.take (x + 1)).map B := by rw [List.take_succ_eq_append_getElem hxl, List.map_append]; rfl
    exact ih (x + 1, v26, v30) ⟨by (try dsimp only); omega, hr30⟩ (by (try dsimp only); omega) ⟨rfl, rfl, trivial⟩ (by repeat (first | with_reducible exact Out.refl _ _ _ | exact Out.hv | refine Out.upd ?_ | refine Out.hvIn ?_)) ⟨fun h => by simp only [← hsu]; exact h.tail⟩ rfl
  · obtain rfl : x = L.length := by omega
    have h0 : (tapeR (L.drop L.length)).length = 0 := by rw [List.drop_length]; rfl
    refine RS.condF ?_ (h := decide_eq_false (by omega))
    refine RS.exit ?_
    have ht : (L.take L.length).map B = L.map B := by rw [List.take_length]
    refine RS.to (K' := [rowD w.heap.size 9 v3 (L.map B)]) ?_ ⟨fun h => by rw [← ht]; exact h⟩
    refine RS.formD (l := L.map B) v3 (fun a7 c7 e7 _ => ?_); subst e7
    refine zN ?_; refine mvL ?_; refine asL ?_; refine LS.done ?_
    refine zN ?_; refine RS.ret1 (v := .slice _ _ _) Tryz.func17 fun w hw => ?_
    exact ⟨_, rfl, hw.below, hw.rowNewD (l := L.map B) (Nat.le_refl _) (by simp; omega)⟩
section
variable {w0 : World} {M : Nat → Prop} {σ : PH} {K : List HP} {b n : Nat} {rs : List RecD}
theorem write_s (r : RecD) (cs : List Value) (hok : checkP r = 0) (ho : Oks rs) (hl : rs.length ≤ 1000000) (hL : LibAt σ) (hr : ∀ w, Sat w0 M σ (tapHP b rs n :: K) w → Rep.rep (hp w) cs r) (w : World) (hw : Sat w0 M σ (tapHP b rs n :: K) w) :
    Calls Tryz.prog 14 #[.pointer (some ⟨b, 0, none⟩), .agg (List.toArray cs)] w fun e w' => ∃ v σ', PH.le σ σ' ∧ v = .tuple #[] ∧ e = .returned v ∧ Sat w0 M σ' (tapHP b (rs ++ [r]) n :: K) w' := by
  obtain ⟨vp, vq, vm, vt, rfl, h1, h2, hp_, hq, h3, h4, h5, hm, ht⟩ := hr w hw
  obtain ⟨ap, cp, rfl⟩ := hp_.form
  obtain ⟨aq, cq, rfl⟩ := hq.form
  obtain ⟨am, cm, rfl⟩ := hm.form
  obtain ⟨at_, ct, rfl⟩ := ht.form
  clear hp_ hq hm ht
  refine RS.enterK Tryz.func14 Tryz.ntmps14 rfl rfl hw ?_
  refine zN ?_; refine box_ (v := .agg _) (cs := [_, _, _, _, _, _, _, _, _, _]) (fun b3 => ?_); refine LS.done ?_
  refine zN ?_; refine mvP ?_; refine ldA (vs := recC r (.slice ap r.peers.length cp) (.slice aq r.places.length cq) (.slice am r.node.marks.length cm) (.slice at_ r.node.taints.length ct)) ?_
  refine callP ?_ (hc := fun w' hw => text_w _ r w' (hr w' (hw.weak fun F h => SepIn.tail h)) hok (hL.mono hw.imm))
  refine bld (vals := [(0, .string _)]) [_] ?_; refine mkC (.agg (List.toArray [.string (B (textP r))])) ?_
  refine callQ (fun v _ => v = .tuple #[]) (_ :: tapHP b (rs ++ [r]) n :: K) (fun v σ1 hle1 hq1 => ?_) (hc := fun w' hw => (dow_s (K := _ :: K) r hok ho hl w' (hw.front [_] [tapHP b rs n])).mono fun _ _ ⟨v, σ', h1, h2, h3, h4⟩ => ⟨v, σ', h1, h2, h3, h4.front [_] [_]⟩)
  subst hq1
  refine LS.done ?_
  refine zN ?_
  refine RS.fin0 Tryz.func14 (fun w hw => ?_)
  exact ⟨_, σ1, hle1, rfl, rfl, hw.weak fun F h => SepIn.tail h⟩
theorem sync_s (w : World) (hw : Sat w0 M σ (tapHP b rs n :: K) w) :
    Calls Tryz.prog 24 #[.pointer (some ⟨b, 0, none⟩)] w fun e w' => e = .returned (.tuple #[]) ∧ Sat w0 M σ (tapHP b rs rs.length :: K) w' := by
  refine RS.enterK Tryz.func24 Tryz.ntmps24 rfl rfl hw ?_
  refine zN ?_; refine mvP ?_; refine bld (vals := []) [] ?_; refine mkC (.agg #[]) ?_
  refine callS _ (tapHP b rs rs.length :: K) ?_ (hc := fun w' hw => dos_s w' hw)
  refine LS.done ?_
  refine zN ?_
  refine RS.fin0 Tryz.func24 (fun w hw => ?_)
  exact ⟨rfl, hw⟩
theorem crash_s (kp : Int) (hkp : I64 kp) (ho : Oks rs) (hl : rs.length ≤ 1000000) (hn : n ≤ rs.length) (w : World) (hw : Sat w0 M σ (tapHP b rs n :: K) w) :
    Calls Tryz.prog 21 #[.pointer (some ⟨b, 0, none⟩), .int .i64 kp] w fun e w' => ∃ v σ', PH.le σ σ' ∧ v = .tuple #[] ∧ e = .returned v ∧ Sat w0 M σ' (tapHP b (rs.take (keepN rs.length n kp)) (keepN rs.length n kp) :: K) w' := by
  refine RS.enterK Tryz.func21 Tryz.ntmps21 rfl rfl hw ?_
  refine zN ?_; refine mvP ?_; refine mvI ?_; refine bld (vals := [(0, .int _ _)]) [_] ?_; refine mkC (.agg (List.toArray [.int .i64 kp])) ?_
  refine callQ (fun v _ => v = .tuple #[]) (tapHP b (rs.take (keepN rs.length n kp)) (keepN rs.length n kp) :: K) (fun v σ1 hle1 hq1 => ?_) (hc := fun w' hw => doc_s kp hkp ho hl hn w' hw)
  subst hq1
  refine LS.done ?_
  refine zN ?_
  refine RS.fin0 Tryz.func21 (fun w hw => ?_)
  exact ⟨_, σ1, hle1, rfl, rfl, hw⟩
theorem lasting_s (w : World) (hw : Sat w0 M σ (tapHP b rs n :: K) w) :
    Calls Tryz.prog 22 #[.pointer (some ⟨b, 0, none⟩)] w fun e w' => e = .returned (.int .i64 n) ∧ Sat w0 M σ (tapHP b rs n :: K) w' := by
  obtain ⟨v, hw⟩ := openTp hw
  refine RS.enterK Tryz.func22 Tryz.ntmps22 rfl rfl hw ?_
  refine zN ?_; refine asI ?_; refine LS.done ?_
  refine zN ?_; refine mvP ?_; refine nilck ?_; refine fld ?_; refine ld1 (v := .int _ _) ?_; refine asI ?_; refine LS.done ?_
  refine zN ?_; refine RS.ret1 (v := .int _ _) Tryz.func22 fun w hw => ?_
  exact ⟨rfl, closeTp hw⟩
theorem tnew_s (w : World) (hw : Sat w0 M σ K w) :
    Calls Tryz.prog 12 #[] w fun e w' => ∃ b : Nat, e = .returned (.pointer (some ⟨b, 0, none⟩)) ∧ Sat w0 M σ (tapHP b [] 0 :: K) w' := by
  refine RS.enterK Tryz.func12 Tryz.ntmps12 rfl rfl hw ?_
  refine zN ?_; refine asP ?_; refine LS.done ?_
  refine zN ?_; refine bld (vals := []) [_, _, _] ?_; refine box_ (v := .agg _) (cs := [_, _, _]) (fun b2 => ?_); refine asP ?_; refine LS.done ?_
  refine zN ?_; refine RS.ret1 (v := .pointer _) Tryz.func12 fun w hw => ?_
  exact ⟨_, rfl, closeTp (v := .slice none 0 0) (rs := []) (hw.weak fun F h => insNil h)⟩
end
end Go.Proofs.YtealabaiamaojaaGreatDoor
namespace Go.Proofs.YtealabaiamaojaaGreatDoor
open Go.JW Go.RowKit
theorem clip_c (a : Option Addr) (m c : Nat) (hm : m ≤ c) (w : World) : Calls Tryz.prog 36 #[.slice a m c] w fun e w' => e = .returned (.slice a m m) ∧ Below w.heap.size w w' := by
  refine RS.enter Tryz.func36 Tryz.ntmps36 rfl rfl ?_
  refine zN ?_; refine asL ?_; refine LS.done ?_
  refine zN ?_; refine mvL ?_; refine mvL ?_; refine lenL ?_; refine mvL ?_; refine lenL ?_; refine slcCut m ?_; refine asL ?_; refine LS.done ?_
  refine zN ?_; refine RS.ret1 (v := .slice _ _ _) Tryz.func36 fun w hw => ?_
  exact ⟨rfl, hw.below⟩
section
variable {w0 : World} {M : Nat → Prop} {σ : PH} {K : List HP} {b n : Nat} {rs : List RecD}
theorem record_s (r : RecD) (hok : checkP r = 0) (hL : LibAt σ) (w : World) (hw : Sat w0 M σ K w) :
    Calls Tryz.prog 35 #[.string (B (textP r))] w fun e w' => ∃ v σ', PH.le σ σ' ∧ (∃ cs, v = .iface 33 (.agg (List.toArray cs)) ∧ Rep.rep σ' cs r) ∧ e = .returned v ∧ Sat w0 M σ' K w' := by
  refine RS.enterK Tryz.func35 Tryz.ntmps35 rfl rfl hw ?_
  refine zN ?_; refine asE0 ?_; refine LS.done ?_
  refine zN ?_; refine mvS ?_
  refine callQ (ParseA (textP r)) K (fun v σ1 k1 hq => ?_) (hc := fun w' hw => parse_s (textP r) (text_small hok) hL w' hw)
  obtain ⟨cs, rfl, hrep⟩ := hq
  rw [parse_text hok] at hrep ⊢
  obtain ⟨f, rfl⟩ := rep_form hrep
  refine mvT ?_; refine extr (v := _) ?_; refine extr (v := .int _ _) ?_; refine alloc_ (fun b3 => ?_); refine st (.agg _) _ ?_; refine asI ?_; refine LS.done ?_
  refine RS.to (K' := rcW b3 r f :: K) ?_ ⟨fun h => h⟩
  refine zN ?_; refine mvI ?_; refine neI ?_; refine LS.done ?_
  refine zN ?_
  refine RS.condF ?_
  refine RS.skip ?_
  refine zN ?_; refine ldA (rcV r f) ?_; refine mkC (.agg (List.toArray (rcV r f))) ?_; refine as_ ?_; refine LS.done ?_
  refine zN ?_; refine RS.ret1 (v := .iface _ _) Tryz.func35 fun w hw => ?_
  exact ⟨_, σ1, k1, ⟨_, rfl, hrep⟩, rfl, hw.weak fun F h => h.tail⟩
theorem all_s (ho : Oks rs) (hl : rs.length ≤ 1000000) (hL : LibAt σ) (w : World) (hw : Sat w0 M σ (tapHP b rs n :: K) w) :
    Calls Tryz.prog 15 #[.pointer (some ⟨b, 0, none⟩)] w fun e w' => ∃ v σ', PH.le σ σ' ∧ RepL σ' v rs ∧ e = .returned v ∧ Sat w0 M σ' (tapHP b rs n :: K) w' := by
  obtain ⟨vt, hw⟩ := openTp hw
  have hlen := tapeL_len ho
  have hll : (linesP rs).length = rs.length := by simp [linesP]
  refine RS.enterK Tryz.func15 Tryz.ntmps15 rfl rfl hw ?_
  refine zN ?_; refine asL ?_; refine LS.done ?_
  refine zN ?_; refine mvP ?_; refine nilck ?_; refine fld ?_; refine ld1 (v := .int _ _) ?_; refine mkD0 (α := RecD) 0 (fun v3 => ?_); refine as_ (v := v3) ?_; refine LS.done ?_
  refine zN ?_; refine mvP ?_
  refine callT (fun v τ => RepL τ v ((linesP rs).map B)) (fun v14 τ1 σ1 hq hN hle hτ => ?_) (fun w' hw => lines_c (linesP rs) (lines_uni ho) (by omega) (fun l hl => by obtain ⟨r, hr, rfl⟩ := List.mem_map.1 hl; exact textP_size (ho r hr)) vt [.int .i64 n] b w' (by rw [hll]; exact hw.get (b := b) (i := by infer_instance)) (hw.rowRepD (l := tapeL rs) (by omega)))
  have hq := hq.mono hτ
  obtain ⟨a14, c14, rfl⟩ := hq.form
  have hml : ((linesP rs).map B).length = rs.length := by simp [linesP]
  refine lenL ?_; refine mvI ?_; refine LS.done ?_
  refine zN ?_
  refine RS.loopF (X := Nat × Value × PH) 3 32 (fun x => x.1 ≤ rs.length ∧ PH.le σ1 x.2.2) (fun x => [(3, x.2.1), (14, .slice a14 ((linesP rs).map B).length c14), (15, .int .i64 ((linesP rs).map B).length), (16, .int .i64 x.1)]) (fun x => x.2.2) (fun x => rowD 0 33 x.2.1 (rs.take x.1) :: rowD 0 21 vt (tapeL rs) :: tpB b vt rs.length n :: K) (fun x => rs.length - x.1) (0, v3, σ1) ⟨Nat.zero_le _, PH.le_refl _⟩ ⟨rfl, rfl, rfl, rfl, trivial⟩ rfl ⟨fun h => h⟩ ?_
  rintro ⟨x, v3, σ2⟩ g ⟨hx, hle2⟩ ih
  dsimp only at hx hle2
  refine zN ?_; refine ltI ?_; refine LS.done ?_
  refine zN ?_
  refine RS.cond (fun c => ?_) (fun c => ?_)
  · have c := of_decide_eq_true c
    have hxl : x < rs.length := by omega
    obtain ⟨r, hrx⟩ : ∃ r, rs[x] = r := ⟨_, rfl⟩
    have hok : checkP r = 0 := by rw [← hrx]; exact ho _ (List.getElem_mem hxl)
    obtain ⟨b14, o14, rfl, hrow⟩ := hq.addr (fun e => by have h0 := congrArg List.length e; rw [hml, List.length_nil] at h0; omega)
    obtain ⟨hcell, _⟩ := (hrow.mono hle2).str x (by omega)
    have e0 : ((linesP rs).map B)[x]'(by omega) = B (textP r) := by simp [linesP, hrx]
    rw [e0] at hcell
    refine zN ?_
    refine zN ?_; refine idx (i := x) ?_; refine ldS hcell ?_; refine asS ?_; refine LS.done ?_
    refine zN ?_; refine mvS ?_
    refine callQ (fun v σ' => ∃ cs, v = .iface 33 (.agg (List.toArray cs)) ∧ Rep.rep σ' cs r) (rowD 0 33 v3 (rs.take x) :: rowD 0 21 vt (tapeL rs) :: tpB b vt rs.length n :: K) (fun v σ3 k3 hq3 => ?_) (hc := fun w' hw => record_s r hok (hL.mono (PH.le_trans hle hle2)) w' hw)
    obtain ⟨cs, rfl, hrep⟩ := hq3
    obtain ⟨f, rfl⟩ := rep_form hrep
    refine asY (.agg (List.toArray (rcV r f))) ?_; refine mvT ?_; refine extr (v := _) ?_; refine extr (v := .bool _) ?_; refine alloc_ (fun b6 => ?_); refine st (.agg _) _ ?_; refine asB ?_; refine LS.done ?_
    refine RS.to (K' := rcW b6 r f :: rowD 0 33 v3 (rs.take x) :: rowD 0 21 vt (tapeL rs) :: tpB b vt rs.length n :: K) ?_ ⟨fun h => h⟩
    refine zN ?_; refine mvB ?_; refine LS.done ?_
    refine zN ?_
    refine RS.condT ?_
    have hlt : (rs.take x).length = x := by rw [List.length_take]; omega
    refine zN ?_; refine mv (v := v3) ?_; refine ldA (rcV r f) ?_; refine bldS [.agg (List.toArray (rcV r f))] (rcV r f) (fun b29 => ?_); refine appD (v := v3) (l' := [r]) (vy := .slice (some ⟨b29, 0, none⟩) 1 1) (fun w' hw => ⟨_, srcB hw TSlice.eq, CellsL.one_ (by rw [fromN_zero]; exact hrep)⟩) (fun v30 => ?_) (hb := by simp; omega) (hm := by simp; omega); refine as_ (v := v30) ?_; refine LS.done ?_
    refine zN ?_; (first | refine addN ?_ | refine addI ?_); refine mvI ?_; refine LS.done ?_
    refine zN ?_
    have hsu : rs.take x ++ [r] = rs.take (x + 1) := by rw [List.take_succ_eq_append_getElem hxl, hrx]
    exact ih (x + 1, v30, σ3) ⟨by (try dsimp only); omega, PH.le_trans hle2 k3⟩ (by (try dsimp only); omega) ⟨rfl, rfl, rfl, rfl, trivial⟩ (by repeat (first | with_reducible exact Out.refl _ _ _ | exact Out.hv | refine Out.upd ?_ | refine Out.hvIn ?_)) ⟨fun h => by simp only [← hsu]; exact h.tail.tail⟩ rfl
  · have c := of_decide_eq_false c
    obtain rfl : x = rs.length := by omega
    refine RS.exit ?_
    refine RS.to (K' := rowD 0 33 v3 rs :: rowD 0 21 vt (tapeL rs) :: tpB b vt rs.length n :: K) ?_ ⟨fun h => by rw [List.take_length] at h; exact h⟩
    refine RS.formD (l := rs) v3 (fun a7 c7 e7 hc7 => ?_); subst e7
    refine RS.freeze0 (l := rs) (.slice a7 rs.length c7) (fun σ3 k3 hr7 => ?_)
    refine zN ?_; refine mvL ?_
    refine callP ?_ (hc := fun w' hw => clip_c a7 rs.length c7 hr7.cap w')
    refine asL ?_; refine LS.done ?_
    refine zN ?_; refine RS.ret1 (v := .slice _ _ _) Tryz.func15 fun w hw => ?_
    exact ⟨_, σ3, PH.le_trans hle (PH.le_trans hle2 k3), hr7.recap (Nat.le_refl _), rfl, closeTp hw⟩
end
end Go.Proofs.YtealabaiamaojaaGreatDoor
namespace Go.JW
section
variable {w0 w : World} {M : Nat → Prop} {σ : PH} {K K' : List HP} {α : Type} {ri : Rep α} {N e : Nat} {l : List α} {put : HP → List HP}
theorem Sat.rowCell {b m cap : Nat} (hw : Sat w0 M σ K w) (hf : FindD (.slice (some ⟨b, 0, none⟩) m cap) K α ri N e l put K') (i : Nat) {x : α} (hi : l[i]? = some x) :
    ∃ c, Rep.rep (fromN N σ) c x ∧ c.length = Rep.sz α ∧ ∀ j, j < Rep.sz α → w.cell? ⟨b, i * Rep.sz α + j, none⟩ = c[j]? := by
  obtain ⟨hil, hx⟩ := List.getElem?_eq_some_iff.1 hi
  subst hx
  obtain ⟨F1, ⟨cs, hc, h1, h1c, a, cap', e1, h2, h3, h4⟩, h5, h6⟩ := hf.get hw.sep
  rcases h4 with ⟨h8, _⟩ | ⟨b', c0, e2, g1, g2, g3, g4⟩
  · omega
  · injection e1 with e3 _ _
    rw [e2] at e3
    injection e3 with e3
    injection e3 with e3 _ _
    subst e3
    obtain ⟨c, k1, k2⟩ := hc.at_ i hil
    refine ⟨c, k1, Rep.len k1, fun j hj => ?_⟩
    have g2 : w.heap[b]? = some (.cells c0.toArray e (0, 0)) := g2
    rw [cell_blk g2, ← k2 j hj, ← g4, List.getElem?_take, if_pos]
    have : (i + 1) * Rep.sz α ≤ l.length * Rep.sz α := Nat.mul_le_mul_right _ hil
    rw [Nat.succ_mul] at this; omega
end
section
variable {P : Program} {q : Bool} {ops : Array Oper} {f : FuncId} {R : Ending → World → Prop} {k : List Item} {n : Nat} {fr : Nat → Value} {w0 : World} {M : Nat → Prop} {σ : PH} {K K' : List HP}
variable {rest : List Oper} {d : Nat} {ty : TypeId} {pos : String} {aft : Array Edge} {x y z : Operand} {t t' : TypeId}
variable {α : Type} {ri : Rep α} {N e : Nat} {l : List α} {put : HP → List HP}
theorem RS.addrD (v : Value) (h : ∀ b cap, v = .slice (some ⟨b, 0, none⟩) l.length cap → RS P f R k n fr w0 M σ K) (hf : FindD v K α ri N e l put K' := by infer_instance) (hn : 0 < l.length := by omega) : RS P f R k n fr w0 M σ K :=
  ⟨fun w hw => by
    obtain ⟨F1, ⟨cs, hc, h1, h1c, a, cap, e1, h2, h3, h4⟩, h5, h6⟩ := hf.get hw.sep
    rcases h4 with ⟨h8, _⟩ | ⟨b, c0, rfl, g1, g2, g3, g4⟩
    · omega
    · exact (h b cap e1).out w hw⟩
theorem ldD (v : Value) (i j : Nat) {b m cap off : Nat} {u : Value} {xx : α} [ht : TOne P t] (hi : l[i]? = some xx) (hu : ∀ σ c, Rep.rep σ c xx → nth c j = some u) (h : LS P q ops f R k rest n (upd fr d u) w0 M σ K)
    (hx : ev n fr x = .pointer (some ⟨b, off, none⟩) := by rfl) (ho : off = i * Rep.sz α + j := by first | rfl | exact Nat.zero_add _ | exact congrArg (fun q => q + _) (Nat.zero_add _)) (hv : v = .slice (some ⟨b, 0, none⟩) m cap := by rfl) (hf : FindD v K α ri N e l put K' := by infer_instance) (hj : j < Rep.sz α := by decide) :
    LS P q ops f R k (⟨some d, .load t x, ty, pos, aft, none⟩ :: rest) n fr w0 M σ K :=
  LS.val rfl rfl (fun w hw => by
    subst hv
    obtain ⟨c, h1, _, h2⟩ := hw.rowCell hf i hi
    have h3 := hu _ c h1
    rw [nth_eq] at h3
    have := run_loadVar1 (P := P) (w := w) (b := b) ht.agg off (by subst ho; exact (h2 j hj).trans h3)
    simp [execOp, hx, Instr.loadAt, Instr.sureAddr, this]) h
variable {H : HS} {O : List (Nat × Obj)} {Kf : Us → List HP} {Kb : List HP} {E : List Nat} {tags : List Tag}
theorem D.ldD (v : Value) (i j : Nat) {b m cap off : Nat} {u : Value} {xx : α} [ht : TOne P t] (hi : l[i]? = some xx) (hu : ∀ σ c, Rep.rep σ c xx → nth c j = some u) (h : LD P f R k n w0 M σ Kb rest tags ⟨upd fr d u, H, O, Kf, E, false⟩)
    (hx : ∀ us, ev n (fill fr H us) x = .pointer (some ⟨b, off, none⟩) := by intro _; rfl) (ho : off = i * Rep.sz α + j := by first | rfl | exact Nat.zero_add _ | exact congrArg (fun q => q + _) (Nat.zero_add _)) (hv : v = .slice (some ⟨b, 0, none⟩) m cap := by rfl) (hf : FindD v Kb α ri N e l put K' := by infer_instance) (hj : j < Rep.sz α := by decide) :
    LD P f R k n w0 M σ Kb (⟨some d, .load t x, ty, pos, aft, none⟩ :: rest) (.ex :: tags) ⟨fr, H, O, Kf, E, false⟩ :=
  D.ex h fun us σ' w hle _ hw => by
    subst hv
    obtain ⟨c, h1, _, h2⟩ := hw.rowCell hf i hi
    have h3 := hu _ c h1
    rw [nth_eq] at h3
    have := run_loadVar1 (P := P) (w := w) (b := b) ht.agg off (by subst ho; exact (h2 j hj).trans h3)
    simp [execOp, hx us, Instr.loadAt, Instr.sureAddr, this]
end
end Go.JW
namespace Go.Proofs.YtealabaiamaojaaGreatDoor
open Go.JW Go.RowKit
abbrev rfB (b : Nat) (v : Value) (n : Nat) : HP := blk b (.cells (List.toArray [v, .int .i64 n]) 58 (0, 0))
theorem strAt (x : ByteArray) : ∀ (σ : PH) (c : List Value), Rep.rep σ c x → nth c 0 = some (.string x) := fun _ c hc => by
  have h : c = [.string x] ∧ x.size ≤ 140737488355328 := hc
  rw [h.1]; rfl
def refL (rs : List RecD) : List ByteArray := (linesP rs).map B
def refHP (b : Nat) (rs : List RecD) (n : Nat) : HP := ⟨fun g F => ∃ v, SepIn g [rowD 0 9 v (refL rs), rfB b v n] F, fun ⟨v, h⟩ hg hi => ⟨v, h.loc hg hi⟩⟩
theorem refL_app (a b : List RecD) : refL (a ++ b) = refL a ++ refL b := by unfold refL linesP; rw [List.map_append, List.map_append]
theorem refL_len (rs : List RecD) : (refL rs).length = rs.length := by simp [refL, linesP]
theorem refL_take (rs : List RecD) (k : Nat) : refL (rs.take k) = (refL rs).take k := by simp [refL, linesP]
section
variable {w0 w : World} {M : Nat → Prop} {σ : PH} {K : List HP} {b n : Nat} {rs : List RecD}
theorem openRf (hw : Sat w0 M σ (refHP b rs n :: K) w) : ∃ v, Sat w0 M σ (rowD 0 9 v (refL rs) :: rfB b v n :: K) w := by
  obtain ⟨F1, ⟨v, h3⟩, h4, h5⟩ := hw.sep
  exact ⟨v, hw.os, hw.tape, hw.output, hw.size, hw.keep, hw.imm, SepIn.append (A := [rowD 0 9 v (refL rs), rfB b v n]) ⟨F1, h3, h4, h5⟩⟩
theorem closeRf {v : Value} (hw : Sat w0 M σ (rowD 0 9 v (refL rs) :: rfB b v n :: K) w) : Sat w0 M σ (refHP b rs n :: K) w := by
  obtain ⟨F1, h3, h4, h5⟩ := SepIn.group (A := [rowD 0 9 v (refL rs), rfB b v n]) hw.sep
  exact ⟨hw.os, hw.tape, hw.output, hw.size, hw.keep, hw.imm, F1, ⟨v, h3⟩, h4, h5⟩
theorem write_x (r : RecD) (cs : List Value) (hok : checkP r = 0) (hl : rs.length ≤ 1000000) (hr : Rep.rep σ cs r) (w : World) (hw : Sat w0 M σ (refHP b rs n :: K) w) :
    Calls Tryz.prog 27 #[.pointer (some ⟨b, 0, none⟩), .agg (List.toArray cs)] w fun e w' => ∃ v σ', PH.le σ σ' ∧ v = .tuple #[] ∧ e = .returned v ∧ Sat w0 M σ' (refHP b (rs ++ [r]) n :: K) w' := by
  obtain ⟨f, rfl⟩ := rep_form hr
  obtain ⟨vt, hw⟩ := openRf hw
  have hlen := refL_len rs
  have hsz := textP_size hok
  refine RS.enterK Tryz.func27 Tryz.ntmps27 rfl rfl hw ?_
  refine zN ?_; refine box_ (v := .agg _) (cs := [_, _, _, _, _, _, _, _, _, _]) (fun b3 => ?_); refine LS.done ?_
  refine RS.to (K' := rowD 0 9 vt (refL rs) :: rcW b3 r f :: rfB b vt n :: K) ?_ ⟨fun h => SepIn.swap h⟩
  have hcell := strCells (x := B (textP r)) (by rw [B_size]; omega)
  refine zD ?_; refine RS.draw [.free, .free, .free, .free, .ex, .ex, .ex, .ex, .eff, .free, .free, .st] [rcW b3 r f, rfB b vt n] ?_ (by kernel_rfl) (by kernel_rfl) (by infer_instance); refine D.mvP ?_; refine D.mvP ?_; refine D.nilck ?_; refine D.fld ?_; refine D.ld1 (v := vt) ?_; refine D.ldA (rcV r f) ?_
  refine D.callP ?_ (hc := fun _ σ' w hle _ hw => textD_x _ r w (Rep.mono hr (PH.le_trans hle hw.imm)) hok)
  refine D.litT (α := ByteArray) 0 [B (textP r)] (vs := fun us => [.string (B (textP r))]) ?_ (fun us σ' _ _ => ⟨⟨rfl, by rw [B_size]; omega⟩, trivial⟩); refine D.appD vt [B (textP r)] (vy := fun us => us 11) ?_ (fun us σ' hle hf => ⟨_, hf.1, PH.le_refl _⟩) (hb := by simp; omega) (hm := by simp; omega); refine D.nilck ?_; refine D.fld ?_
  refine D.stU 12 (fun us => [us 12, .int .i64 n]) ?_
  refine D.done (fun us σ3 hle3 hfs => ?_)
  refine RS.ow ?_
  refine zN ?_
  refine RS.fin0 Tryz.func27 (fun w hw => ?_)
  have e1 : refL (rs ++ [r]) = refL rs ++ [B (textP r)] := by rw [refL_app]; rfl
  refine ⟨_, σ3, hle3, rfl, rfl, closeRf (v := us 12) ?_⟩
  rw [e1]
  exact hw.weak fun F h => SepIn.cons_sub (fun _ => SepIn.tail) h
theorem sync_x (w : World) (hw : Sat w0 M σ (refHP b rs n :: K) w) :
    Calls Tryz.prog 25 #[.pointer (some ⟨b, 0, none⟩)] w fun e w' => e = .returned (.tuple #[]) ∧ Sat w0 M σ (refHP b rs rs.length :: K) w' := by
  obtain ⟨vt, hw⟩ := openRf hw
  obtain ⟨at_, ct, rfl, hcap, hcap2⟩ := hw.formD (v := vt) (l := refL rs)
  have hlen := refL_len rs
  refine RS.enterK Tryz.func25 Tryz.ntmps25 rfl rfl hw ?_
  refine zN ?_; refine mvP ?_; refine mvP ?_; refine nilck ?_; refine fld ?_; refine ld1 (v := .slice _ _ _) ?_; refine lenL ?_; refine nilck ?_; refine fld ?_; refine st (.int _ _) _ ?_; refine LS.done ?_
  refine zN ?_
  refine RS.fin0 Tryz.func25 (fun w hw => ?_)
  refine ⟨rfl, closeRf (v := .slice at_ (refL rs).length ct) ?_⟩
  rw [← hlen]
  exact hw
theorem lasting_x (w : World) (hw : Sat w0 M σ (refHP b rs n :: K) w) :
    Calls Tryz.prog 49 #[.pointer (some ⟨b, 0, none⟩)] w fun e w' => e = .returned (.int .i64 n) ∧ Sat w0 M σ (refHP b rs n :: K) w' := by
  obtain ⟨v, hw⟩ := openRf hw
  refine RS.enterK Tryz.func49 Tryz.ntmps49 rfl rfl hw ?_
  refine zN ?_; refine asI ?_; refine LS.done ?_
  refine zN ?_; refine mvP ?_; refine nilck ?_; refine fld ?_; refine ld1 (v := .int _ _) ?_; refine asI ?_; refine LS.done ?_
  refine zN ?_; refine RS.ret1 (v := .int _ _) Tryz.func49 fun w hw => ?_
  exact ⟨rfl, closeRf hw⟩
theorem crash_x (kp : Int) (hkp : I64 kp) (hl : rs.length ≤ 1000000) (hn : n ≤ rs.length) (w : World) (hw : Sat w0 M σ (refHP b rs n :: K) w) :
    Calls Tryz.prog 26 #[.pointer (some ⟨b, 0, none⟩), .int .i64 kp] w fun e w' => ∃ v σ', PH.le σ σ' ∧ v = .tuple #[] ∧ e = .returned v ∧ Sat w0 M σ' (refHP b (rs.take (keepN rs.length n kp)) (keepN rs.length n kp) :: K) w' := by
  obtain ⟨vt, hw⟩ := openRf hw
  obtain ⟨at_, ct, rfl, hcap, hcap2⟩ := hw.formD (v := vt) (l := refL rs)
  have hlen := refL_len rs
  have hkn := keepN_le kp hn
  have hk0 : (keepN rs.length n kp : Int) = n + (min (max kp 0) ((rs.length : Int) - n)) := by unfold keepN; omega
  obtain ⟨kn, hkk⟩ : ∃ kn, kn = keepN rs.length n kp := ⟨_, rfl⟩
  rw [← hkk] at hkn hk0 ⊢
  refine RS.enterK Tryz.func26 Tryz.ntmps26 rfl rfl hw ?_
  refine zD ?_; refine RS.drawK [.free, .free, .free, .free, .ex, .free, .free, .free, .free, .ex, .free, .ex, .ex, .free] ?_ (by kernel_rfl) (by kernel_rfl); refine D.mvI ?_; refine D.mvP ?_; refine D.nilck ?_; refine D.fld ?_; refine D.ld1 (v := .slice _ _ _) ?_; refine D.lenL ?_; refine D.mvP ?_; refine D.nilck ?_; refine D.fld ?_; refine D.ld1 (v := .int _ _) ?_; (first | refine D.subN ?_ | refine D.subI ?_); refine D.minI ?_; refine D.maxI ?_; refine D.asI ?_; refine D.done (fun us σ1 hle1 hfs => ?_)
  have hval : (if (if ((refL rs).length : Int) - n < kp then ((refL rs).length : Int) - n else kp) > 0 then (if ((refL rs).length : Int) - n < kp then ((refL rs).length : Int) - n else kp) else 0) = (kn : Int) - n := by
    rw [hk0, hlen]
    split <;> split at * <;> omega
  rw [hval]
  refine RS.ow ?_
  refine zD ?_; refine RS.drawK [.free, .free, .free, .free, .ex, .free, .free, .free, .ex, .free, .free, .free, .free, .free, .st] ?_ (by kernel_rfl) (by kernel_rfl); refine D.mvP ?_; refine D.mvP ?_; refine D.nilck ?_; refine D.fld ?_; refine D.ld1 (v := .slice _ _ _) ?_; refine D.mvP ?_; refine D.nilck ?_; refine D.fld ?_; refine D.ld1 (v := .int _ _) ?_; refine D.mvI ?_; (first | refine D.addN ?_ | refine D.addI ?_); refine D.slcHi kn ?_; refine D.nilck ?_; refine D.fld ?_
  refine D.stB (.slice at_ kn ct) (List.toArray [.slice at_ kn ct, .int .i64 n]).toList ?_ (hr := Nat.le_of_ble_eq_true rfl)
  refine D.done (fun us σ4 hle4 hfs4 => ?_)
  refine RS.ow ?_
  refine RS.cutD (a := at_) (m := (refL rs).length) (cap := ct) (l := refL rs) kn (by omega) (by infer_instance) ?_
  refine zN ?_; refine mvP ?_; refine mvP ?_; refine nilck ?_; refine fld ?_; refine ld1 (v := .slice _ _ _) ?_; refine lenL ?_; refine nilck ?_; refine fld ?_; refine st (.int _ _) _ ?_; refine LS.done ?_
  refine zN ?_
  refine RS.fin0 Tryz.func26 (fun w hw => ?_)
  rw [← refL_take] at hw
  exact ⟨_, σ4, PH.le_trans hle1 hle4, rfl, rfl, closeRf (v := .slice at_ kn ct) hw⟩
end
theorem lines_x (l : List ByteArray) (v : Value) (cs : List Value) (b : Nat) (w : World) (hl : l.length ≤ 1000000) (hb : hp w b = some (.cells (v :: cs).toArray 58 (0, 0))) (hv : RepL (hp w) v l) :
    Calls Tryz.prog 50 #[.pointer (some ⟨b, 0, none⟩)] w fun e w' => ∃ v', e = .returned v' ∧ Below w.heap.size w w' ∧ RepL (since w w') v' l := by
  have hc0 := cell_of (j := 0) hb rfl
  obtain ⟨a, cap, rfl⟩ := hv.form
  refine RS.enter Tryz.func50 Tryz.ntmps50 rfl rfl ?_
  refine zN ?_; refine asL ?_; refine LS.done ?_
  refine zN ?_; refine bldS [] [] (fun b3 => ?_); refine mvP ?_; refine nilck ?_; refine fld ?_; refine ldS hc0 ?_
  refine LS.to (K' := rowD w.heap.size 9 (.slice (some ⟨b3, 0, none⟩) 0 0) ([] : List ByteArray) :: []) ?_ ⟨fun h => insNil h.tail⟩
  refine appD (.slice (some ⟨b3, 0, none⟩) 0 0) l (vy := .slice a l.length cap) (fun w' hw => ?_) (fun v8 => ?_) (hb := by simp; omega) (hm := by simp; omega)
  · obtain ⟨news, g1, g2⟩ := srcD (t' := 29) hw (TSlice.eq (P := Tryz.prog)) hv (PH.le_refl _)
    exact ⟨news, g1, g2.str⟩
  refine as_ (v := v8) ?_; refine LS.done ?_
  refine RS.formD (l := [] ++ l) v8 (fun a7 c7 e7 _ => ?_); subst e7
  refine zN ?_; refine RS.ret1 (v := .slice _ _ _) Tryz.func50 fun w hw => ?_
  exact ⟨_, rfl, hw.below, hw.rowNewD (l := [] ++ l) (Nat.le_refl _) (by simp; omega)⟩
section
variable {w0 w : World} {M : Nat → Prop} {σ : PH} {K : List HP} {b n : Nat} {rs : List RecD}
theorem all_x (ho : Oks rs) (hl : rs.length ≤ 1000000) (w : World) (hw : Sat w0 M σ (refHP b rs n :: K) w) :
    Calls Tryz.prog 52 #[.pointer (some ⟨b, 0, none⟩)] w fun e w' => ∃ v σ', PH.le σ σ' ∧ RepL σ' v rs ∧ e = .returned v ∧ Sat w0 M σ' (refHP b rs n :: K) w' := by
  obtain ⟨vt, hw⟩ := openRf hw
  have hlen := refL_len rs
  refine RS.enterK Tryz.func52 Tryz.ntmps52 rfl rfl hw ?_
  refine RS.formD (l := refL rs) vt (fun at_ ct et _ => ?_); subst et
  refine zN ?_; refine asL ?_; refine LS.done ?_
  refine zN ?_; refine asL ?_; refine LS.done ?_
  refine zN ?_; refine asI ?_; refine LS.done ?_
  refine zN ?_
  refine RS.nilD 0 RecD 33 ?_
  refine RS.loopF (X := Nat × Value × PH) 3 31 (fun x => x.1 ≤ rs.length ∧ PH.le σ x.2.2) (fun x => [(3, x.2.1), (4, .int .i64 x.1)]) (fun x => x.2.2) (fun x => rowD 0 33 x.2.1 (rs.take x.1) :: rowD 0 9 (.slice at_ (refL rs).length ct) (refL rs) :: rfB b (.slice at_ (refL rs).length ct) n :: K) (fun x => rs.length - x.1) (0, .slice none 0 0, σ) ⟨Nat.zero_le _, PH.le_refl _⟩ ⟨rfl, rfl, trivial⟩ rfl ⟨fun h => h⟩ ?_
  rintro ⟨x, v3, σ2⟩ g ⟨hx, hle2⟩ ih
  dsimp only at hx hle2
  refine zN ?_; refine mvI ?_; refine mvP ?_; refine nilck ?_; refine fld ?_; refine ld1 (v := .slice _ _ _) ?_; refine lenL ?_; refine ltI ?_; refine LS.done ?_
  refine zN ?_
  refine RS.cond (fun c => ?_) (fun c => ?_)
  · have c := of_decide_eq_true c
    have hxl : x < rs.length := by omega
    obtain ⟨r, hrx⟩ : ∃ r, rs[x] = r := ⟨_, rfl⟩
    have hok : checkP r = 0 := by rw [← hrx]; exact ho _ (List.getElem_mem hxl)
    have e0 : (refL rs)[x]'(by omega) = B (textP r) := by simp [refL, linesP, hrx]
    refine RS.addrD (l := refL rs) (.slice at_ (refL rs).length ct) (fun b1 cap1 e1 => ?_) 
    injection e1 with e1 _ _; subst e1
    refine zN ?_; refine mvP ?_; refine nilck ?_; refine fld ?_; refine ld1 (v := .slice _ _ _) ?_; refine mvI ?_; refine idx (i := x) ?_; refine ldD (l := refL rs) (.slice (some ⟨b1, 0, none⟩) (refL rs).length ct) x 0 (u := .string (B (textP r))) (xx := B (textP r)) (by rw [List.getElem?_eq_getElem (by omega), e0]) (strAt _) ?_
    refine callQ (ParseA (textP r)) (rowD 0 33 v3 (rs.take x) :: rowD 0 9 (.slice (some ⟨b1, 0, none⟩) (refL rs).length ct) (refL rs) :: rfB b (.slice (some ⟨b1, 0, none⟩) (refL rs).length ct) n :: K) (fun v σ3 k3 hq => ?_) (hc := fun w' hw => parseD_x (textP r) (text_small hok) w' hw)
    obtain ⟨cs, rfl, hrep⟩ := hq
    rw [parse_text hok] at hrep ⊢
    obtain ⟨f, rfl⟩ := rep_form hrep
    refine mvT ?_; refine extr (v := _) ?_; refine extr (v := .int _ _) ?_; refine alloc_ (fun b5 => ?_); refine st (.agg _) _ ?_; refine asI ?_; refine LS.done ?_
    refine RS.to (K' := rcW b5 r f :: rowD 0 33 v3 (rs.take x) :: rowD 0 9 (.slice (some ⟨b1, 0, none⟩) (refL rs).length ct) (refL rs) :: rfB b (.slice (some ⟨b1, 0, none⟩) (refL rs).length ct) n :: K) ?_ ⟨fun h => h⟩
    have hlt : (rs.take x).length = x := by rw [List.length_take]; omega
    refine zN ?_; refine mv (v := v3) ?_; refine ldA (rcV r f) ?_; refine bldS [.agg (List.toArray (rcV r f))] (rcV r f) (fun b29 => ?_); refine appD (v := v3) (l' := [r]) (vy := .slice (some ⟨b29, 0, none⟩) 1 1) (fun w' hw => ⟨_, srcB hw TSlice.eq, CellsL.one_ (by rw [fromN_zero]; exact hrep)⟩) (fun v30 => ?_) (hb := by simp; omega) (hm := by simp; omega); refine as_ (v := v30) ?_; refine LS.done ?_
    refine zN ?_; refine mvI ?_; (first | refine addN ?_ | refine addI ?_); refine asI ?_; refine LS.done ?_
    refine zN ?_
    have hsu : rs.take x ++ [r] = rs.take (x + 1) := by rw [List.take_succ_eq_append_getElem hxl, hrx]
    exact ih (x + 1, v30, σ3) ⟨by (try dsimp only); omega, PH.le_trans hle2 k3⟩ (by (try dsimp only); omega) ⟨rfl, rfl, trivial⟩ (by repeat (first | with_reducible exact Out.refl _ _ _ | exact Out.hv | refine Out.upd ?_ | refine Out.hvIn ?_)) ⟨fun h => by simp only [← hsu]; exact h.tail.tail⟩ rfl
  · have c := of_decide_eq_false c
    obtain rfl : x = rs.length := by omega
    refine RS.exit ?_
    refine RS.to (K' := rowD 0 33 v3 rs :: rowD 0 9 (.slice at_ (refL rs).length ct) (refL rs) :: rfB b (.slice at_ (refL rs).length ct) n :: K) ?_ ⟨fun h => by rw [List.take_length] at h; exact h⟩
    refine RS.formD (l := rs) v3 (fun a7 c7 e7 hc7 => ?_); subst e7
    refine RS.freeze0 (l := rs) (.slice a7 rs.length c7) (fun σ3 k3 hr7 => ?_)
    refine zN ?_; refine mvL ?_; refine asL ?_; refine LS.done ?_
    refine zN ?_; refine RS.ret1 (v := .slice _ _ _) Tryz.func52 fun w hw => ?_
    exact ⟨_, σ3, PH.le_trans hle2 k3, hr7, rfl, closeRf hw⟩
end
end Go.Proofs.YtealabaiamaojaaGreatDoor
namespace Go.Proofs.YtealabaiamaojaaGreatDoor
open Go.JW Go.RowKit
theorem rsame_c (va vb : Value) (l : List ByteArray) (w : World) (ha : RepL (hp w) va l) (hb : RepL (hp w) vb l) : Calls Tryz.prog 23 #[va, vb] w fun e w' => e = .returned (.bool true) ∧ Below w.heap.size w w' := by
  obtain ⟨aa, ca, rfl⟩ := ha.form
  obtain ⟨ab, cb, rfl⟩ := hb.form
  have hlen : l.length ≤ 140737488355328 := ha.1
  refine RS.enter Tryz.func23 Tryz.ntmps23 rfl rfl ?_
  refine zN ?_; refine asB ?_; refine LS.done ?_
  refine zN ?_; refine mvL ?_; refine lenL ?_; refine mvL ?_; refine lenL ?_; refine neI ?_; refine LS.done ?_
  refine zN ?_; refine RS.condF ?_ (h := by simp)
  refine zN ?_; refine asI ?_; refine LS.done ?_
  refine zN ?_
  refine RS.loopF (X := Nat) 5 26 (fun k => k ≤ l.length) (fun k => [(5, .int .i64 k)]) (fun _ => hp w) (fun _ => []) (fun k => l.length - k) 0 (by omega) ⟨rfl, trivial⟩ rfl inferInstance ?_
  rintro k g hk ih
  refine zN ?_; refine mvI ?_; refine mvL ?_; refine lenL ?_; refine ltI ?_; refine LS.done ?_
  refine zN ?_
  by_cases hlt : k < l.length
  · refine RS.condT ?_ (h := by simp; omega)
    obtain ⟨b1, o1, rfl, r1⟩ := ha.addr (fun h => by simp [h] at hlt)
    obtain ⟨b2, o2, rfl, r2⟩ := hb.addr (fun h => by simp [h] at hlt)
    obtain ⟨h1, _⟩ := r1.str k hlt
    obtain ⟨h2, _⟩ := r2.str k hlt
    refine zN ?_; refine mvL ?_; refine mvI ?_; refine idx (i := k) ?_; refine ldS h1 ?_; refine mvL ?_; refine mvI ?_; refine idx (i := k) ?_; refine ldS h2 ?_; refine neS ?_; refine LS.done ?_
    refine zN ?_; refine RS.condF ?_ (h := by simp)
    refine zN ?_; refine mvI ?_; (first | refine addN ?_ | refine addI ?_); refine asI ?_; refine LS.done ?_; refine zN ?_
    exact ih (k + 1) hlt (by omega) ⟨rfl, trivial⟩ (by repeat (first | with_reducible exact Out.refl _ _ _ | exact Out.hv | refine Out.upd ?_ | refine Out.hvIn ?_)) ⟨fun h => h⟩ rfl
  · refine RS.condF ?_ (h := by simp; omega)
    refine zN ?_; refine asB ?_; refine LS.done ?_; refine zN ?_; refine RS.ret1 (v := .bool _) Tryz.func23 fun w hw => ?_
    exact ⟨rfl, hw.below⟩
theorem recs_c (va vb : Value) (l : List RecD) (w : World) (ha : RepL (hp w) va l) (hb : RepL (hp w) vb l) : Calls Tryz.prog 51 #[va, vb] w fun e w' => e = .returned (.bool true) ∧ Below w.heap.size w w' := by
  obtain ⟨aa, ca, rfl⟩ := ha.form
  obtain ⟨ab, cb, rfl⟩ := hb.form
  have hlen : l.length ≤ 140737488355328 := ha.1
  refine RS.enter Tryz.func51 Tryz.ntmps51 rfl rfl ?_
  refine zN ?_; refine asB ?_; refine LS.done ?_
  refine zN ?_; refine mvL ?_; refine lenL ?_; refine mvL ?_; refine lenL ?_; refine neI ?_; refine LS.done ?_
  refine zN ?_; refine RS.condF ?_ (h := by simp)
  refine zN ?_; refine asI ?_; refine LS.done ?_
  refine zN ?_
  refine RS.loopF (X := Nat × PH) 5 27 (fun k => k.1 ≤ l.length ∧ PH.le (hp w) k.2) (fun k => [(5, .int .i64 k.1)]) (fun k => k.2) (fun _ => []) (fun k => l.length - k.1) (0, hp w) ⟨by (try dsimp only); omega, PH.le_refl _⟩ ⟨rfl, trivial⟩ rfl inferInstance ?_
  rintro ⟨k, σ1⟩ g ⟨hk, hle⟩ ih
  dsimp only at hk hle
  refine zN ?_; refine mvI ?_; refine mvL ?_; refine lenL ?_; refine ltI ?_; refine LS.done ?_
  refine zN ?_
  by_cases hlt : k < l.length
  · refine RS.condT ?_ (h := by simp; omega)
    obtain ⟨b1, o1, rfl, r1⟩ := ha.addr (fun h => by simp [h] at hlt)
    obtain ⟨b2, o2, rfl, r2⟩ := hb.addr (fun h => by simp [h] at hlt)
    obtain ⟨c1, h1, g1⟩ := (r1.mono hle) k hlt
    obtain ⟨c2, h2, g2⟩ := (r2.mono hle) k hlt
    obtain ⟨f1, rfl⟩ := rep_form g1
    obtain ⟨f2, rfl⟩ := rep_form g2
    obtain ⟨r, hr⟩ : ∃ r, l[k] = r := ⟨_, rfl⟩
    rw [hr] at h1 h2 g1 g2
    refine zD ?_; refine RS.drawK [.free, .free, .free, .free, .free, .free, .free, .free, .ex, .free] ?_ (by kernel_rfl) (by kernel_rfl); refine D.mvL ?_; refine D.mvI ?_; refine D.idx (i := k) ?_; refine D.ldSAf (vs := rcV r f1) rfl h1 ?_; refine D.mvL ?_; refine D.mvI ?_; refine D.idx (i := k) ?_; refine D.ldSAf (vs := rcV r f2) rfl h2 ?_
    refine D.callP ?_ (hc := fun _ σ' w hle _ hw => same_x _ _ r r w (Rep.mono g1 (PH.le_trans hle hw.imm)) (Rep.mono g2 (PH.le_trans hle hw.imm)))
    rw [decide_eq_true (show r = r from rfl)]
    refine D.not_ ?_; refine D.done (fun us σ1 hle1 hfs => ?_)
    refine RS.ow ?_
    refine zN ?_; refine RS.condF ?_ (h := by simp)
    refine zN ?_; refine mvI ?_; (first | refine addN ?_ | refine addI ?_); refine asI ?_; refine LS.done ?_; refine zN ?_
    exact ih (k + 1, σ1) ⟨hlt, PH.le_trans hle hle1⟩ (by (try dsimp only); omega) ⟨rfl, trivial⟩ (by repeat (first | with_reducible exact Out.refl _ _ _ | exact Out.hv | refine Out.upd ?_ | refine Out.hvIn ?_)) ⟨fun h => h⟩ rfl
  · refine RS.condF ?_ (h := by simp; omega)
    refine zN ?_; refine asB ?_; refine LS.done ?_; refine zN ?_; refine RS.ret1 (v := .bool _) Tryz.func51 fun w hw => ?_
    exact ⟨rfl, hw.below⟩
section
variable {w0 : World} {M : Nat → Prop} {σ : PH} {K : List HP} {b bx n : Nat} {rs : List RecD}
theorem lines_s (ho : Oks rs) (hl : rs.length ≤ 1000000) (w : World) (hw : Sat w0 M σ (tapHP b rs n :: K) w) :
    Calls Tryz.prog 17 #[.pointer (some ⟨b, 0, none⟩)] w fun e w' => ∃ v σ', PH.le σ σ' ∧ RepL σ' v (refL rs) ∧ e = .returned v ∧ Sat w0 M σ' (tapHP b rs n :: K) w' := by
  obtain ⟨v, h1, h2⟩ := readTp ho hl hw
  have hll : (linesP rs).length = rs.length := by simp [linesP]
  refine (lines_c (linesP rs) (lines_uni ho) (by omega) (fun l hl => by obtain ⟨r, hr, rfl⟩ := List.mem_map.1 hl; exact textP_size (ho r hr)) v [.int .i64 n] b w (by rw [hll]; exact h1) h2).mono fun e w' ⟨v', g1, g2, g3⟩ => ?_
  exact ⟨v', grow σ w w', grow_le hw, g3.mono (since_le _ _ _), g1, hw.grow g2⟩
theorem linesx_s (hl : rs.length ≤ 1000000) (w : World) (hw : Sat w0 M σ (refHP b rs n :: K) w) :
    Calls Tryz.prog 50 #[.pointer (some ⟨b, 0, none⟩)] w fun e w' => ∃ v σ', PH.le σ σ' ∧ RepL σ' v (refL rs) ∧ e = .returned v ∧ Sat w0 M σ' (refHP b rs n :: K) w' := by
  obtain ⟨v, h⟩ := openRf hw
  have hlen := refL_len rs
  refine (lines_x (refL rs) v [.int .i64 n] b w (by omega) (h.get (b := b) (i := by infer_instance)) (h.rowRepD (by omega))).mono fun e w' ⟨v', g1, g2, g3⟩ => ?_
  exact ⟨v', grow σ w w', grow_le hw, g3.mono (since_le _ _ _), g1, hw.grow g2⟩
theorem same9_s (ho : Oks rs) (hl : rs.length ≤ 1000000) (hL : LibAt σ) (w : World) (hw : Sat w0 M σ (tapHP b rs n :: refHP bx rs n :: K) w) :
    Calls Tryz.prog 28 #[.pointer (some ⟨b, 0, none⟩), .pointer (some ⟨bx, 0, none⟩)] w fun e w' => ∃ v σ', PH.le σ σ' ∧ v = .bool true ∧ e = .returned v ∧ Sat w0 M σ' (tapHP b rs n :: refHP bx rs n :: K) w' := by
  refine RS.enterK Tryz.func28 Tryz.ntmps28 rfl rfl hw ?_
  refine zN ?_; refine asB ?_; refine LS.done ?_
  refine zN ?_; refine mvP ?_
  refine callS _ (tapHP b rs n :: refHP bx rs n :: K) ?_ (hc := fun w' hw => lasting_s w' hw)
  refine mvP ?_
  refine callS _ (tapHP b rs n :: refHP bx rs n :: K) ?_ (hc := fun w' hw => (lasting_x (K := _ :: K) w' (hw.front [_] [refHP bx rs n])).mono fun _ _ h => ⟨h.1, h.2.front [_] [_]⟩)
  refine eqI ?_; rw [decide_eq_true (show (n : Int) = (n : Int) from rfl)]; refine mvB ?_; refine LS.on ?_; refine mvP ?_; refine LS.on ?_
  refine callQ (fun v σ' => RepL σ' v (refL rs)) (tapHP b rs n :: refHP bx rs n :: K) (fun v12 σ1 k1 hr1 => ?_) (hc := fun w' hw => lines_s ho hl w' hw)
  obtain ⟨a12, c12, rfl⟩ := hr1.form
  refine LS.on ?_; refine mvP ?_; refine LS.on ?_
  refine callQ (fun v σ' => RepL σ' v (refL rs)) (tapHP b rs n :: refHP bx rs n :: K) (fun v14 σ2 k2 hr2 => ?_) (hc := fun w' hw => (linesx_s (K := _ :: K) hl w' (hw.front [_] [refHP bx rs n])).mono fun _ _ ⟨v, σ', h1, h2, h3, h4⟩ => ⟨v, σ', h1, h2, h3, h4.front [_] [_]⟩)
  obtain ⟨a14, c14, rfl⟩ := hr2.form
  refine LS.on ?_
  refine callP ?_ (hc := fun w' hw => rsame_c _ _ (refL rs) w' (hr1.mono (PH.le_trans k2 hw.imm)) (hr2.mono hw.imm))
  refine pk (v := .bool _) ?_; refine mvB ?_; refine LS.on ?_; refine mvP ?_; refine LS.on ?_
  refine callQ (fun v σ' => RepL σ' v rs) (tapHP b rs n :: refHP bx rs n :: K) (fun v19 σ3 k3 hr3 => ?_) (hc := fun w' hw => all_s ho hl (hL.mono (PH.le_trans k1 k2)) w' hw)
  obtain ⟨a19, c19, rfl⟩ := hr3.form
  refine LS.on ?_; refine mvP ?_; refine LS.on ?_
  refine callQ (fun v σ' => RepL σ' v rs) (tapHP b rs n :: refHP bx rs n :: K) (fun v21 σ4 k4 hr4 => ?_) (hc := fun w' hw => (all_x (K := _ :: K) ho hl w' (hw.front [_] [refHP bx rs n])).mono fun _ _ ⟨v, σ', h1, h2, h3, h4⟩ => ⟨v, σ', h1, h2, h3, h4.front [_] [_]⟩)
  obtain ⟨a21, c21, rfl⟩ := hr4.form
  refine LS.on ?_
  refine callP ?_ (hc := fun w' hw => recs_c _ _ rs w' (hr3.mono (PH.le_trans k4 hw.imm)) (hr4.mono hw.imm))
  refine pk (v := .bool _) ?_; refine asB ?_; refine LS.done ?_
  refine zN ?_; refine RS.ret1 (v := .bool _) Tryz.func28 fun w hw => ?_
  exact ⟨_, σ4, PH.le_trans k1 (PH.le_trans k2 (PH.le_trans k3 k4)), rfl, rfl, hw⟩
end
def recA : RecD := { rec0 with kind := 5, gang := 2 }
theorem recA_ok : checkP recA = 0 := by decide
theorem recA_text : textP recA = [97, 98, 111, 114, 116, 32, 50] := by decide +kernel
theorem recA_rep (σ : PH) : Rep.rep σ (recC recA nilV nilV nilV nilV) recA := ⟨_, _, _, _, rfl, ⟨by decide, by decide⟩, ⟨by decide, by decide⟩, RepL.nil _ _ _, RepL.nil _ _ _, Nat.zero_le _, ⟨by decide, by decide⟩, ⟨by decide, by decide⟩, RepL.nil _ _ _, RepL.nil _ _ _⟩
theorem oks_nil : Oks [] := fun _ h => absurd h (List.not_mem_nil)
theorem oks_app {a : List RecD} {r : RecD} (h : Oks a) (hr : checkP r = 0) : Oks (a ++ [r]) := fun x hx => (List.mem_append.1 hx).elim (h x) fun e => by rw [List.mem_singleton.1 e]; exact hr
theorem oks_take {a : List RecD} (h : Oks a) (k : Nat) : Oks (a.take k) := fun x hx => h x (List.mem_of_mem_take hx)
theorem known9_s {w0 : World} {M : Nat → Prop} {σ : PH} {K : List HP} (hL : LibAt σ) (w : World) (hw : Sat w0 M σ K w) :
    Calls Tryz.prog 11 #[] w fun e w' => ∃ v σ', PH.le σ σ' ∧ v = .bool true ∧ e = .returned v ∧ Sat w0 M σ' K w' := by
  refine RS.enterK Tryz.func11 Tryz.ntmps11 rfl rfl hw ?_
  refine zN ?_; refine asB ?_; refine LS.done ?_
  refine zN ?_; skip
  refine callX (fun b : Nat => .pointer (some ⟨b, 0, none⟩)) (fun _ => σ) (fun b => tapHP b [] 0 :: K) (fun _ => True) (fun bt _ => ?_) (fun w' hw => (tnew_s w' hw).mono fun _ _ ⟨b, h1, h2⟩ => ⟨b, h1, h2, trivial⟩)
  refine asP ?_; refine LS.done ?_
  refine zN ?_; refine mvP ?_; refine bin_eql_P ?_; refine mvB ?_; refine LS.on ?_; refine mvP ?_; refine LS.on ?_
  refine callQ (fun v σ' => RepL σ' v ([] : List RecD)) (tapHP bt [] 0 :: K) (fun v8 σ1 k1 hr1 => ?_) (hc := fun w' hw => all_s oks_nil (by simp) hL w' hw)
  obtain ⟨a8, c8, rfl⟩ := hr1.form
  refine LS.on ?_; refine lenL ?_; refine LS.on ?_; refine neI ?_; refine pk (v := .bool _) ?_; refine LS.done ?_
  refine zN ?_
  refine RS.condF ?_
  refine zN ?_; refine mvP ?_; refine bld (vals := [(0, .int _ _), (1, .int _ _)]) [_, _, _, _, _, _, _, _, _, _] ?_
  refine callQ (fun v _ => v = .tuple #[]) (tapHP bt [recA] 0 :: K) (fun v14 σ2 k2 hq2 => ?_) (hc := fun w' hw => write_s recA (recC recA nilV nilV nilV nilV) recA_ok oks_nil (by simp) (hL.mono k1) (fun w _ => recA_rep _) w' hw)
  subst hq2
  refine LS.done ?_
  have hoA : Oks [recA] := oks_app oks_nil recA_ok
  refine zN ?_; refine mvP ?_
  refine callQ (fun v σ' => RepL σ' v (refL [recA])) (tapHP bt [recA] 0 :: K) (fun v16 σ3 k3 hr3 => ?_) (hc := fun w' hw => lines_s hoA (by simp) w' hw)
  obtain ⟨a16, c16, rfl⟩ := hr3.form
  obtain ⟨b16, o16, rfl, hrow⟩ := hr3.addr (by simp [refL, linesP])
  obtain ⟨hcell, _⟩ := hrow.str 0 (by decide)
  rw [show (refL [recA])[0]'(by decide) = B [97, 98, 111, 114, 116, 32, 50] by simp [refL, linesP, recA_text]] at hcell
  refine asL ?_; refine LS.done ?_
  refine zN ?_; refine mvL ?_; refine lenL ?_; refine eqI ?_; refine mvB ?_; refine LS.on ?_; refine mvL ?_; refine LS.on ?_; refine idx (i := 0) ?_ (hi := by simp [refL, linesP]); refine LS.on ?_; refine ldS hcell ?_; refine LS.on ?_; refine eqS ?_; rw [decide_eq_true (show B [97, 98, 111, 114, 116, 32, 50] = ⟨#[97, 98, 111, 114, 116, 32, 50]⟩ from rfl)]; refine pk (v := .bool _) ?_; refine mvB ?_; refine LS.on ?_; refine mvP ?_; refine LS.on ?_
  refine callS _ (tapHP bt [recA] 0 :: K) ?_ (hc := fun w' hw => lasting_s w' hw)
  refine LS.on ?_; refine eqI ?_; refine pk (v := .bool _) ?_; refine asB ?_; refine LS.done ?_
  refine zN ?_; refine RS.ret1 (v := .bool _) Tryz.func11 fun w hw => ?_
  exact ⟨_, σ3, PH.le_trans k1 (PH.le_trans k2 k3), rfl, rfl, hw.weak fun F h => h.tail⟩
end Go.Proofs.YtealabaiamaojaaGreatDoor
namespace Go.JW

abbrev Sized (l : List Nat) : Prop := ∀ n ∈ l, n ≤ 140737488351232
class OpenT (P : Program) (t : TypeId) (α : Type) [Rep α] : Prop where
  open_ : ∀ {H : Type} {enc : TypeId × Value → H} {w : World} {base : Nat} {sp : Nat → Bool} {held : Bool} {fuel : Nat} {cs : List Value} {x : DataW H × List MemPlace},
    DataW.trod enc P w base sp held fuel t cs = some x → Sized (x.1.weights P t) → ∃ a : α, Rep.rep (hp w) cs a
section
variable {P : Program} {t e : TypeId}
theorem wfI64 {n : Int} (h : (Lit.int .i64 n).wf = true) : I64 n := by
  simp only [Lit.wf, Bool.and_eq_true, decide_eq_true_eq] at h
  exact h
instance OpenT.int [ht : TInt P t .i64] : OpenT P t Int where
  open_ h _ := by
    obtain ⟨n, rfl, _, hw⟩ := DataW.trod_int ht.eq h
    exact ⟨n, rfl, wfI64 hw⟩
instance OpenT.bool [ht : TBool P t] : OpenT P t Bool where
  open_ h _ := by
    obtain ⟨n, rfl, _⟩ := DataW.trod_bool ht.eq h
    exact ⟨n, rfl⟩
instance OpenT.str [ht : TStr P t] : OpenT P t ByteArray where
  open_ h hs := by
    obtain ⟨s, rfl, rfl, hw⟩ := DataW.trod_string ht.eq h
    refine ⟨s, rfl, ?_⟩
    have h1 : s.data.toList.length ≤ 140737488351232 := hs _ (by rw [DataW.weights]; exact List.mem_singleton.2 rfl)
    have e : s.data.toList.length = s.size := Array.length_toList
    omega
theorem mem_weightsAll {H : Type} {d : DataW H} : ∀ {ds : List (DataW H)}, d ∈ ds → ∀ n ∈ d.weights P e, n ∈ DataW.weightsAll P e ds := by
  intro ds
  induction ds with
  | nil => intro h; cases h
  | cons x ds ih =>
    intro h n hn
    rw [DataW.weightsAll, List.mem_append]
    rcases List.mem_cons.1 h with h | h
    · subst h; exact .inl hn
    · exact .inr (ih h n hn)
theorem cellsOf_sz {s : Nat} (h : szOf P t = some s) : P.cellsOf t = s := by unfold szOf at h; unfold Program.cellsOf; rw [h]; rfl
theorem OpenT.slice {α : Type} [Rep α] {s by_ : Nat} [ht : TSlice P t e] [it : OpenT P e α] [hs0 : TSz P e s] [hb0 : TBytes P e by_] (hz0 : Nat.beq s (Rep.sz α) = true := by rfl) (hpos : 0 < Rep.sz α := by decide) (hby : 0 < by_ := by decide) : OpenT P t (List α) where
  open_ := by
    have hz : P.cellsOf e = Rep.sz α := (cellsOf_sz hs0.eq).trans (Nat.eq_of_beq_eq_true hz0)
    have hb : 0 < P.bytesOf e := by unfold Program.bytesOf; rw [hb0.eq]; exact hby
    intro H enc w base sp held fuel cs x h hs
    rcases DataW.trod_slice ht.eq h with ⟨rfl, _⟩ | ⟨a, len, cap, elems, rest, n, _, rfl, hx, hbase, hl, hm, hlen, hel, _⟩
    · exact ⟨[], _, rfl, RepL.nil _ _ _⟩
    · subst hx
      rw [DataW.weights, ht.eq] at hs
      simp only [List.length_map] at hs
      have hw0 : (elems.length + rest.length) * P.bytesOf e ≤ 140737488351232 := hs _ (by simp)
      have hlen47 : len ≤ 140737488355328 := by
        have : len * 1 ≤ (elems.length + rest.length) * P.bytesOf e := Nat.mul_le_mul (by omega) hb
        omega
      have each : ∀ i, i < len → ∃ (vs : List Value) (d : α), (∀ j, j < Rep.sz α → w.cell? ((a.add (i * Rep.sz α)).add j) = vs[j]?) ∧ vs.length = Rep.sz α ∧ Rep.rep (hp w) vs d := by
        intro i hi
        have h1 := hel i hi
        rw [hz] at h1
        have hi' : i < elems.length := by omega
        rw [List.getElem?_eq_getElem hi', Option.bind_eq_some_iff] at h1
        obtain ⟨vs, h2, h3⟩ := h1
        obtain ⟨_, h4, h5⟩ := World.cells?_some h2
        obtain ⟨d, hd⟩ := it.open_ h3 (fun m hm => hs m (by
          simp only [List.mem_cons, List.mem_append]
          right; left
          exact mem_weightsAll (List.mem_map.2 ⟨elems[i], List.getElem_mem _, rfl⟩) m hm))
        exact ⟨vs, d, h5, h4, hd⟩
      have key : ∀ m, m ≤ len → ∃ l : List α, l.length = m ∧ ∀ i (h : i < l.length), ∃ vs : List Value, (∀ j, j < Rep.sz α → w.cell? ((a.add (i * Rep.sz α)).add j) = vs[j]?) ∧ vs.length = Rep.sz α ∧ Rep.rep (hp w) vs l[i] := by
        intro m
        induction m with
        | zero => intro _; exact ⟨[], rfl, fun i h => by simp at h⟩
        | succ m ih =>
          intro hm'
          obtain ⟨l, h1, h2⟩ := ih (by omega)
          obtain ⟨vs, d, g1, g2, g3⟩ := each m (by omega)
          refine ⟨l ++ [d], by simp [h1], fun i hi => ?_⟩
          by_cases e : i < l.length
          · obtain ⟨vs', k1, k2, k3⟩ := h2 i e
            exact ⟨vs', k1, k2, by rw [List.getElem_append_left e]; exact k3⟩
          · have : i = m := by simp at hi; omega
            subst this
            refine ⟨vs, g1, g2, ?_⟩
            have e2 : (l ++ [d])[i]'hi = d := by rw [List.getElem_append_right (by omega)]; simp
            rw [e2]; exact g3
      obtain ⟨l, h1, h2⟩ := key len (Nat.le_refl _)
      refine ⟨l, _, rfl, by omega, some a, cap, by rw [h1], by omega, fun hn => ?_⟩
      have h0 : 0 < l.length := List.length_pos_iff.2 hn
      have hspot : a.spot = none := by
        obtain ⟨vs, k1, k2, _⟩ := h2 0 h0
        have := k1 0 hpos
        rw [Nat.zero_mul] at this
        simp only [Addr.add, if_true] at this
        unfold World.cell? at this
        rw [List.getElem?_eq_getElem (by omega)] at this
        cases hsp : a.spot with
        | none => rfl
        | some s => rw [hsp] at this; cases hb : w.heap[a.block]? with
          | none => rw [hb] at this; simp at this
          | some o => rw [hb] at this; cases o <;> simp at this
      obtain ⟨b, o, spot⟩ := a
      simp only at hspot
      subst hspot
      refine ⟨b, o, rfl, fun i hi => ?_⟩
      obtain ⟨vs, k1, k2, k3⟩ := h2 i hi
      refine ⟨vs, fun j hj => ?_, k3⟩
      rw [PH.cell_world, ← k1 j hj, add_off, add_off]
theorem OpenT.fields {H : Type} {enc : TypeId × Value → H} {w : World} {base : Nat} {sp : Nat → Bool} {held : Bool} {fuel : Nat} {cs : List Value} {x : DataW H × List MemPlace} {fs : Array Field} (ht : P.underlying t = some (.struct fs))
    (h : DataW.trod enc P w base sp held fuel t cs = some x) (hs : Sized (x.1.weights P t)) :
    cs.length = P.cellsOf t ∧ ∀ (i τ off s : Nat) (α : Type) [Rep α] [OpenT P τ α] [TSz P τ s], (fs[i]?).map (fun f => (f.type, f.offset)) = some (τ, off) → ∃ a : α, Rep.rep (hp w) ((cs.drop off).take s) a := by
  obtain ⟨xs, n, _, rfl, hl, hxs, hf⟩ := DataW.trod_struct ht h
  refine ⟨hl, fun i τ off s α _ ho hsz hfi0 => ?_⟩
  rw [Option.map_eq_some_iff] at hfi0
  obtain ⟨f, hfi, e⟩ := hfi0
  injection e with e1 e2
  subst e1; subst e2
  have h1 := hf i f hfi
  rw [cellsOf_sz hsz.eq] at h1
  have hi : i < xs.length := by rw [hxs]; exact (Array.getElem?_eq_some_iff.1 hfi).1
  rw [List.getElem?_eq_getElem hi] at h1
  refine ho.open_ h1 fun m hm => hs m ?_
  rw [DataW.weights, ht]
  exact DataW.weights_mem_each (j := i) (t := f.type) (d := xs[i].1) (by rw [List.getElem?_map]; simp [hfi]) (by rw [List.getElem?_map, List.getElem?_eq_getElem hi]; rfl) m hm
theorem OpenT.arg {α : Type} [Rep α] {H : Type} {enc : TypeId × Value → H} {w : World} {base : Nat} {sp : Nat → Bool} {held : Bool} {v : Value} {d : DataW H} {ps : List MemPlace} {ts : List TypeId} {ds : List (DataW H)} {j : Nat} (o : OpenT P t α)
    (h : DataW.Trod enc P w base sp held t v d ps) (hs : (DataW.weightsEach P ts ds).all (· ≤ reachBytes) = true) (ht : ts[j]? = some t) (hd : ds[j]? = some d) : ∃ a : α, Rep.rep (hp w) v.cells.toList a := by
  obtain ⟨fuel, hf⟩ := h
  refine o.open_ hf fun n hn => ?_
  have := List.all_eq_true.1 hs n (DataW.weights_mem_each ht hd n hn)
  exact of_decide_eq_true this
end
end Go.JW
namespace Go.Proofs.YtealabaiamaojaaGreatDoor
open Go.JW Go.RowKit

instance : OpenT Tryz.prog 29 (List ByteArray) := OpenT.slice
instance : OpenT Tryz.prog 22 (List Int) := OpenT.slice
structure VecD where
  cpu : Int
  mem : Int
instance : Rep VecD where
  sz := 2
  rep _ cs p := cs = [.int .i64 p.cpu, .int .i64 p.mem] ∧ I64 p.cpu ∧ I64 p.mem
  len h := by obtain ⟨rfl, _⟩ := h; rfl
  one h := by obtain ⟨rfl, _⟩ := h; rfl
  mono h _ := h
theorem len2 {l : List Value} (h : l.length = 2) : ∃ a b, l = [a, b] := by
  match l, h with
  | [a, b], _ => exact ⟨a, b, rfl⟩
instance : OpenT Tryz.prog 28 VecD where
  open_ h hs := by
    obtain ⟨hl, hf⟩ := OpenT.fields Tryz.underlying28 h hs
    rw [show Tryz.prog.cellsOf 28 = 2 by kernel_rfl] at hl
    obtain ⟨c0, c1, rfl⟩ := len2 hl
    obtain ⟨a0, h0, i0⟩ := hf 0 3 0 _ Int rfl
    obtain ⟨a1, h1, i1⟩ := hf 1 3 1 _ Int rfl
    simp at h0 h1
    subst h0; subst h1
    exact ⟨⟨a0, a1⟩, rfl, i0, i1⟩
theorem len6 {l : List Value} (h : l.length = 6) : ∃ a b c d e f, l = [a, b, c, d, e, f] := by
  match l, h with
  | [a, b, c, d, e, f], _ => exact ⟨a, b, c, d, e, f, rfl⟩
instance : OpenT Tryz.prog 31 NodeD where
  open_ h hs := by
    obtain ⟨hl, hf⟩ := OpenT.fields Tryz.underlying31 h hs
    rw [show Tryz.prog.cellsOf 31 = 6 by kernel_rfl] at hl
    obtain ⟨c0, c2, c3, c4, c5, c6, rfl⟩ := len6 hl
    obtain ⟨a0, h0, i0⟩ := hf 0 9 0 _ ByteArray rfl
    obtain ⟨a2, h2, i2⟩ := hf 1 28 1 _ VecD rfl
    obtain ⟨a3, v3, h3, i3⟩ := hf 2 29 3 _ (List ByteArray) rfl
    obtain ⟨a4, v4, h4, i4⟩ := hf 3 29 4 _ (List ByteArray) rfl
    obtain ⟨a5, h5⟩ := hf 4 4 5 _ Bool rfl
    have h5' : _ = _ := h5
    simp at h0 h2 h3 h4 h5'
    obtain ⟨h2, h2'⟩ := h2
    subst h0; subst h2; subst h2'; subst h3; subst h4; subst h5'
    exact ⟨⟨a0, a2.cpu, a2.mem, a3, a4, a5⟩, _, _, rfl, i0, i2.1, i2.2, i3, i4⟩
end Go.Proofs.YtealabaiamaojaaGreatDoor
namespace Go.Proofs.YtealabaiamaojaaGreatDoor
open Go.JW Go.RowKit
theorem len5 {l : List Value} (h : l.length = 5) : ∃ a b c d e, l = [a, b, c, d, e] := by
  match l, h with
  | [a, b, c, d, e], _ => exact ⟨a, b, c, d, e, rfl⟩
theorem len10 {l : List Value} (h : l.length = 10) : ∃ a b c d e f g i j k, l = [a, b, c, d, e, f, g, i, j, k] := by
  match l, h with
  | [a, b, c, d, e, f, g, i, j, k], _ => exact ⟨a, b, c, d, e, f, g, i, j, k, rfl⟩
instance : OpenT Tryz.prog 37 PlaceD where
  open_ h hs := by
    obtain ⟨hl, hf⟩ := OpenT.fields Tryz.underlying37 h hs
    rw [show Tryz.prog.cellsOf 37 = 5 by kernel_rfl] at hl
    obtain ⟨c0, c1, c2, c3, c4, rfl⟩ := len5 hl
    obtain ⟨a0, h0, i0⟩ := hf 0 9 0 _ ByteArray rfl
    obtain ⟨a1, h1, i1⟩ := hf 1 9 1 _ ByteArray rfl
    obtain ⟨a2, h2, i2⟩ := hf 2 28 2 _ VecD rfl
    obtain ⟨a5, h5⟩ := hf 3 4 4 _ Bool rfl
    have h5' : _ = _ := h5
    simp at h0 h1 h2 h5'
    obtain ⟨h2, h2'⟩ := h2
    subst h0; subst h1; subst h2; subst h2'; subst h5'
    exact ⟨⟨a0, a1, a2.cpu, a2.mem, a5⟩, rfl, i0, i1, i2.1, i2.2⟩
instance : OpenT Tryz.prog 26 (List PlaceD) := OpenT.slice
instance : OpenT Tryz.prog 33 RecD where
  open_ h hs := by
    obtain ⟨hl, hf⟩ := OpenT.fields Tryz.underlying33 h hs
    rw [show Tryz.prog.cellsOf 33 = 10 by kernel_rfl] at hl
    obtain ⟨c0, c1, c2, c3, c4, c5, c6, c7, c8, c9, rfl⟩ := len10 hl
    obtain ⟨a0, h0, i0⟩ := hf 0 3 0 _ Int rfl
    obtain ⟨a1, h1, i1⟩ := hf 1 3 1 _ Int rfl
    obtain ⟨a2, v2, h2, i2⟩ := hf 2 22 2 _ (List Int) rfl
    obtain ⟨a3, v3, h3, i3⟩ := hf 3 26 3 _ (List PlaceD) rfl
    obtain ⟨a4, vm, vt, h4, n1, n2, n3, n4, n5⟩ := hf 4 31 4 _ NodeD rfl
    simp [nodeC] at h0 h1 h2 h3 h4
    obtain ⟨k4, k5, k6, k7, k8, k9⟩ := h4
    subst h0 h1 h2 h3 k4 k5 k6 k7 k8 k9
    exact ⟨⟨a0, a1, a2, a3, a4⟩, _, _, _, _, rfl, i0, i1, i2, i3, n1, n2, n3, n4, n5⟩
end Go.Proofs.YtealabaiamaojaaGreatDoor
namespace Go.Proofs.YtealabaiamaojaaGreatDoor
open Go.JW Go.RowKit
structure CallD where
  kind : Int
  n : Int
  ns : List Int
instance : Rep CallD where
  sz := 3
  rep σ cs c := ∃ v, cs = [.int .i64 c.kind, .int .i64 c.n, v] ∧ I64 c.kind ∧ I64 c.n ∧ RepL σ v c.ns
  len h := by obtain ⟨_, rfl, _⟩ := h; rfl
  one h := by obtain ⟨_, rfl, _, _, h1⟩ := h; obtain ⟨_, _, rfl⟩ := h1.form; rfl
  mono h hs := let ⟨v, e, h1, h2, h3⟩ := h; ⟨v, e, h1, h2, h3.mono hs⟩
theorem len3 {l : List Value} (h : l.length = 3) : ∃ a b c, l = [a, b, c] := by
  match l, h with
  | [a, b, c], _ => exact ⟨a, b, c, rfl⟩
instance : OpenT Tryz.prog 46 CallD where
  open_ h hs := by
    obtain ⟨hl, hf⟩ := OpenT.fields Tryz.underlying46 h hs
    rw [show Tryz.prog.cellsOf 46 = 3 by kernel_rfl] at hl
    obtain ⟨c0, c1, c2, rfl⟩ := len3 hl
    obtain ⟨a0, h0, i0⟩ := hf 0 3 0 _ Int rfl
    obtain ⟨a1, h1, i1⟩ := hf 1 3 1 _ Int rfl
    obtain ⟨a2, v2, h2, i2⟩ := hf 2 22 2 _ (List Int) rfl
    simp at h0 h1 h2
    subst h0 h1 h2
    exact ⟨⟨a0, a1, a2⟩, _, rfl, i0, i1, i2⟩
instance : OpenT Tryz.prog 63 (List Bool) := OpenT.slice
instance : OpenT Tryz.prog 44 (List CallD) := OpenT.slice
end Go.Proofs.YtealabaiamaojaaGreatDoor
namespace Go.JW
def TAtP (e : TypeId) (off : Nat) (cs : List Value) : Value → PH → Prop := fun v σ => ∃ b, v = .pointer (some ⟨b, off, none⟩) ∧ σ b = some (.cells cs.toArray e (0, 0))
theorem TAtP.mono (e : TypeId) (off : Nat) (cs : List Value) : MonoT (TAtP e off cs) := fun _ _ _ ⟨b, h1, h2⟩ hs => ⟨b, h1, hs _ _ h2⟩
section
variable {P : Program} {f : FuncId} {R : Ending → World → Prop} {k : List Item} {n : Nat} {fr : Nat → Value} {w0 : World} {M : Nat → Prop} {σ : PH} {Kf : Us → List HP}
variable {H : HS} {O : List (Nat × Obj)} {Kb : List HP} {E : List Nat} {tags : List Tag} {rest : List Oper} {d : Nat} {ty : TypeId} {pos : String} {aft : Array Edge} {x y z : Operand} {t t' : TypeId}
end
end Go.JW
namespace Go.JW
section
variable {P : Program} {q : Bool} {ops : Array Oper} {f : FuncId} {R : Ending → World → Prop} {k : List Item} {n : Nat} {fr : Nat → Value} {w0 : World} {M : Nat → Prop} {σ : PH} {K : List HP}
variable {rest : List Oper} {d : Nat} {ty : TypeId} {pos : String} {aft : Array Edge} {x y : Operand} {t t' : TypeId}
theorem minJ {a b : Int} (h : LS P q ops f R k rest n (upd fr d (.int .i64 (if b < a then b else a))) w0 M σ K) (hx : ev n fr x = .int .i64 a := by rfl) (hy : ev n fr y = .int .i64 b := by rfl) :
    LS P q ops f R k (⟨some d, .call ⟨.builtin .min, #[x, y], #[t, t']⟩, ty, pos, aft, none⟩ :: rest) n fr w0 M σ K :=
  LS.val rfl rfl (fun w _ => by
    have := run_min_int2 (P := P) w #[t, t'] ty .i64 .i64 a b
    simp [execOp, resolve, invoke, builtin, hx, hy, this]) h
end
section
variable {P : Program} {f : FuncId} {R : Ending → World → Prop} {k : List Item} {n : Nat} {fr : Nat → Value} {w0 : World} {M : Nat → Prop} {σ : PH} {Kb : List HP}
variable {H : HS} {O : List (Nat × Obj)} {E : List Nat} {tags : List Tag} {rest : List Oper} {d : Nat} {ty : TypeId} {pos : String} {aft : Array Edge}
theorem D.callWU {g : FuncId} {xs : Array Operand} {ts : Array TypeId} {K0 : List HP} (args : Us → List Value) (Q : Value → PH → Prop) (hQ : MonoT Q) (K1 : List HP) [i : Fun P g]
    (h : LD P f R k n w0 M σ Kb rest tags ⟨fr, (d, Q) :: H, O, fun _ => K1, d :: ((Stg.mk fr H O (fun _ => K0) E false).seen ⟨some d, .call ⟨.value (.func g), xs, ts⟩, ty, pos, aft, none⟩ ++ E), false⟩)
    (hc : ∀ us σ' w X, PH.le σ σ' → Facts H (readsTmp ⟨some d, .call ⟨.value (.func g), xs, ts⟩, ty, pos, aft, none⟩) us σ' → Sat w0 M σ' (X :: K0) w → Calls P g (args us).toArray w fun e w' => ∃ v σ'', PH.le σ' σ'' ∧ Q v σ'' ∧ e = .returned v ∧ Sat w0 M σ'' (X :: K1) w')
    (hx : ∀ us, xs.toList.map (ev n (fill fr H us)) = args us := by intro _; rfl) (hL : Less K1 Kb := by infer_instance) :
    LD P f R k n w0 M σ Kb (⟨some d, .call ⟨.value (.func g), xs, ts⟩, ty, pos, aft, none⟩ :: rest) (.eff :: tags) ⟨fr, H, O, fun _ => K0, E, false⟩ := by
  refine D.eff Q (fun _ => K1) _ hQ (fun _ => hL) h fun us σ' w X hle hfs hw => ?_
  exact .inr ⟨_, _, exec_call i.eq (hx us) w, (hc us σ' w X hle hfs hw).mono fun _ _ ⟨v, σ'', h1, h2, h3, h4⟩ => ⟨_, h3, σ'', h1, h4, h2⟩⟩
end
end Go.JW
namespace Go.Proofs.YtealabaiamaojaaGreatDoor
open Go.JW Go.RowKit
def recK (k g : Int) : RecD := { rec0 with kind := k, gang := g }
theorem recK_ok {k g : Int} (hk : k = 4 ∨ k = 5 ∨ k = 6) (hg : 1 ≤ g ∧ g ≤ 999999) : checkP (recK k g) = 0 := by
  have e : ¬ (g < 1 ∨ 999999 < g) := by omega
  simp only [not_or] at e
  rcases hk with rfl | rfl | rfl <;> simp [checkP, recK, rec0, moreP, gangsP, peeredP, bareP, node0, e.1, e.2] <;> rfl
theorem recK_rep {k g : Int} (hk : I64 k) (hg : I64 g) (σ : PH) : Rep.rep σ (recC (recK k g) nilV nilV nilV nilV) (recK k g) :=
  have z : I64 0 := ⟨by decide, by decide⟩
  ⟨_, _, _, _, rfl, hk, hg, RepL.nil _ _ _, RepL.nil _ _ _, Nat.zero_le _, z, z, RepL.nil _ _ _, RepL.nil _ _ _⟩
theorem refNew {b : Nat} {g : VH} {K : List HP} {F : Nat → Prop} (h : SepIn g (rfB b (.slice none 0 0) 0 :: K) F) : SepIn g (refHP b [] 0 :: K) F := by
  obtain ⟨F1, h3, h4, h5⟩ := SepIn.group (A := [rowD 0 9 (.slice none 0 0) (refL []), rfB b (.slice none 0 0) 0]) (insNil h)
  exact ⟨F1, ⟨_, h3⟩, h4, h5⟩
end Go.Proofs.YtealabaiamaojaaGreatDoor
namespace Go.Proofs.YtealabaiamaojaaGreatDoor
open Go.JW Go.RowKit
noncomputable def laid7 : List (String × DataW Unit) := Rows.tapePlaysRow.laid
theorem tabAt_of {W : World} {g : Nat} {name : String} {k : IntKind} {zs : List Int} (h : Lib.TabIs Tryz.prog W name k zs) (hg : Tryz.prog.globalNamed name = some g) : TabAt (hp W) g (zs.map fun z => Value.int k z).toArray := by
  unfold Lib.TabIs World.var? at h
  rw [hg, Option.bind_some] at h
  split at h
  · rename_i cs T r hb
    injection h with h
    subst h
    exact ⟨T, r, hb⟩
  · cases h
theorem gSpc : Tryz.prog.globalNamed "strings.asciiSpace" = some 0 := by kernel_rfl
theorem gPow : Tryz.prog.globalNamed "internal/strconv.uint64pow10" = some 2 := by kernel_rfl
theorem tSpc : (Tryz.prog.globals[0]?).map (·.type) = some 118 := by kernel_rfl
theorem tPow : (Tryz.prog.globals[2]?).map (·.type) = some 190 := by kernel_rfl
theorem cSpc : Tryz.prog.cellsOf 118 = 256 := by kernel_rfl
theorem cPow : Tryz.prog.cellsOf 190 = 20 := by kernel_rfl
theorem cU8 : Tryz.prog.cellsOf 5 = 1 := by kernel_rfl
theorem cU64 : Tryz.prog.cellsOf 171 = 1 := by kernel_rfl
theorem all_plain : laid7.filter (fun x => x.2.handleName?.isNone) = laid7 := by kernel_rfl
theorem plain7 {W : World} (h : laidMetH Tryz.prog laid7 W) : laidMet Tryz.prog laid7 W := by
  have h1 := (laidMetH_iff.1 h).1
  rwa [all_plain] at h1
theorem only_pow : laid7.filter (fun x => x.1 == "internal/strconv.uint64pow10") = [("internal/strconv.uint64pow10", Lib.tabData .u64 Lib.pow10Tab)] := by kernel_rfl
theorem only_spc : laid7.filter (fun x => x.1 == "strings.asciiSpace") = [("strings.asciiSpace", Lib.tabData .u8 Lib.asciiSpaceTab)] := by kernel_rfl
theorem lib_of {W : World} (h : laidMetH Tryz.prog laid7 W) (hs : W.ShapedOpen Tryz.prog) : LibAt (hp W) := by
  have h := plain7 h
  have h1 := h.filter fun x => x.1 == "internal/strconv.uint64pow10"
  have h2 := h.filter fun x => x.1 == "strings.asciiSpace"
  rw [only_pow] at h1
  rw [only_spc] at h2
  obtain ⟨m, hm⟩ := cell_of_shapedOpen_int (P := Tryz.prog) (g := 3) (k := .i64) hs (of_decide_eq_true (by kernel_rfl)) (t := 3) (zero := #[.int .i64 0]) (by kernel_rfl) rfl (by kernel_rfl) (by kernel_rfl) TInt.eq
  exact ⟨tabAt_of (Lib.tabIs_of_head (rest := []) gSpc tSpc Tryz.underlying118 Tryz.underlying5 cU8 cSpc h2) gSpc,
    tabAt_of (Lib.tabIs_of_head (rest := []) gPow tPow Tryz.underlying190 Tryz.underlying171 cU64 cPow h1) gPow, m, PH.cell_world.trans hm⟩
theorem laid_met7 (os : Os) (args : Array Value) : laidMet Tryz.prog laid7 ((World.laidAll Tryz.prog os laid7).forCall (fun _ _ => 0) ⟨#[], args, []⟩).memory := laidMet_laidAll args (by kernel_rfl) (by kernel_rfl)
theorem shaped7 (os : Os) (args : Array Value) : ((World.laidAll Tryz.prog os laid7).forCall (fun _ _ => 0) ⟨#[], args, []⟩).Shaped Tryz.prog := World.shaped_of_ZipB (by kernel_rfl) (by kernel_rfl)
theorem witness7 {H : Type} {enc : TypeId × Value → H} {f : FuncId} {fn : Func} {s : OpenSpec} {conds : List PathCond} {apart : Bool} (os : Os) (args : Array Value)
    (hok : Input.okWideB Tryz.prog ((World.laidAll Tryz.prog os laid7).forCall (fun _ _ => 0) ⟨#[], args, []⟩) f ⟨#[], args, []⟩ = true)
    (hrow : s.preRow enc Tryz.prog fn conds apart laid7 ((World.laidAll Tryz.prog os laid7).forCall (fun _ _ => 0) ⟨#[], args, []⟩).memory args) :
    ∃ (w : World) (tape : Tape) (i : Input), w.os = os ∧ (w.forCall tape i).Shaped Tryz.prog ∧ i.vars = [] ∧ Input.okWide Tryz.prog (w.forCall tape i) .any w.heap.size f i ∧
      s.preRow enc Tryz.prog fn conds apart laid7 (w.forCall tape i).memory i.args ∧ ({} : Assume).holds Tryz.prog (lone (Frame.enter Tryz.prog f i.args .normal) [] (w.forCall tape i)) :=
  ⟨World.laidAll Tryz.prog os laid7, fun _ _ => 0, ⟨#[], args, []⟩, World.laidAll_os _ _ _, shaped7 os args, (Input.okWide_of_okWideB (base := 0) hok).1, (Input.okWide_of_okWideB hok).2, hrow, by
    simp only [Assume.holds]
    exact ⟨by simp, by simp, fun _ => Modest.zero, by simp, by simp⟩⟩
end Go.Proofs.YtealabaiamaojaaGreatDoor
