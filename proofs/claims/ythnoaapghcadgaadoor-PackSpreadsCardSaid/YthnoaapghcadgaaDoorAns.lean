/- State contracts: what a call answers, with what more is not written behind it; and what follows of them for calls whose order is drawn. -/
import Derived.Test.YthnoaapghcadgaaDoorMap
import Derived.Laws.MakeOwn
namespace Go.JW
/-- A call's answer: by Q, of the heap that is not written any more; what is told by K stands. -/
def Ans (w0 : World) (M : Nat → Prop) (σ : PH) (K : List HP) (Q : Value → PH → Prop) : Ending → World → Prop := fun e w' => ∃ v σ', PH.le σ σ' ∧ Q v σ' ∧ e = .returned v ∧ Sat w0 M σ' K w'
theorem Sat.front {w0 w : World} {M : Nat → Prop} {σ : PH} (Ls T : List HP) {K : List HP} (h : Sat w0 M σ (Ls ++ (T ++ K)) w) : Sat w0 M σ (T ++ (Ls ++ K)) w := h.perm (List.perm_append_comm_assoc _ _ _)
section
variable {P : Program} {q : Bool} {ops : Array Oper} {f : FuncId} {R : Ending → World → Prop} {k : List Item} {n : Nat} {fr : Nat → Value} {w0 : World} {M : Nat → Prop} {σ : PH} {K K' : List HP}
variable {rest : List Oper} {d : Nat} {ty : TypeId} {pos : String} {aft : Array Edge}
theorem callA {g : FuncId} {xs : Array Operand} {ts : Array TypeId} {args : List Value} (Q : Value → PH → Prop) [i : Fun P g]
    (h : ∀ v σ', PH.le σ σ' → Q v σ' → LS P false ops f R k rest n (upd fr d v) w0 M σ' K)
    (hc : ∀ w, Sat w0 M σ K w → Calls P g args.toArray w (Ans w0 M σ K Q)) (hx : xs.toList.map (ev n fr) = args := by rfl) :
    LS P false ops f R k (⟨some d, .call ⟨.value (.func g), xs, ts⟩, ty, pos, aft, none⟩ :: rest) n fr w0 M σ K :=
  LS.enterW rfl rfl (fun w _ => exec_call i.eq hx w) fun w hw => (hc w hw).mono fun _ _ ⟨v, σ', h1, h2, h3, h4⟩ => ⟨v, σ', K, h3, h4, h v σ' h1 h2⟩
/-- A row is not written any more. -/
theorem Sat.freeze0 {α : Type} {ri : Rep α} {N e : Nat} {l : List α} {put : HP → List HP} {v : Value} {w : World} (hw : Sat w0 M σ K w) (hl : l.length ≤ 140737488355328) (hf : FindD v K α ri N e l put K') : ∃ σ', PH.le σ σ' ∧ RepL σ' v l ∧ Sat w0 M σ' K' w := by
  obtain ⟨cs, hc, hw'⟩ := hw.openD hf
  obtain ⟨a, cap, σ', rfl, h2, h3, h4, h5, h6, h7⟩ := hw'.freezeRow (hf := FindR.head)
  refine ⟨σ', h3, ⟨hl, a, cap, rfl, h2, fun hn => ?_⟩, h4⟩
  rcases h7 with ⟨h8, _⟩ | ⟨b, rfl, g1, _, g2, g3⟩
  · exact absurd (List.eq_nil_of_length_eq_zero h8) hn
  · refine ⟨b, 0, rfl, (hc.mono (PH.le_trans (fromN_le N σ) h3)).rowAt fun j hj => ?_⟩
    rw [hc.len] at hj
    rw [Nat.zero_add, ← g3 j hj]
theorem RS.freeze0 {α : Type} {ri : Rep α} {N e : Nat} {l : List α} {put : HP → List HP} (v : Value) (h : ∀ σ', PH.le σ σ' → RepL σ' v l → RS P f R k n fr w0 M σ' K') (hl : l.length ≤ 140737488355328 := by omega) (hf : FindD v K α ri N e l put K' := by infer_instance) :
    RS P f R k n fr w0 M σ K :=
  ⟨fun w hw => by obtain ⟨σ', h1, h2, h3⟩ := hw.freeze0 hl hf; exact (h σ' h1 h2).out w h3⟩
theorem LS.freeze0 {α : Type} {ri : Rep α} {N e : Nat} {l : List α} {put : HP → List HP} {ll : List Oper} (v : Value) (h : ∀ σ', PH.le σ σ' → RepL σ' v l → LS P false ops f R k ll n fr w0 M σ' K') (hl : l.length ≤ 140737488355328 := by omega) (hf : FindD v K α ri N e l put K' := by infer_instance) :
    LS P false ops f R k ll n fr w0 M σ K :=
  ⟨fun w hw => by obtain ⟨σ', h1, h2, h3⟩ := hw.freeze0 hl hf; exact (h σ' h1 h2).out w h3⟩
theorem RS.ow {us : Us} (h : RS P f R k n fr w0 M σ K) : RS P f R k n fr w0 M σ (ownsL [] us ++ K) := h
/-! ### parts of structs that lie in no cell -/
def fldV (P : Program) (t : TypeId) (i : Nat) : Option (Nat × Option Nat) :=
  match P.underlying t with
  | some (.struct fs) => (fs[i]?).bind fun f => match aggOf P f.type with | some false => some (f.offset, none) | some true => (szOf P f.type).map fun s => (f.offset, some s) | none => none
  | _ => none
class TFldV (P : Program) (t : TypeId) (i : Nat) (o : outParam Nat) : Prop where eq : fldV P t i = some (o, none)
class TFldA (P : Program) (t : TypeId) (i : Nat) (o s : outParam Nat) : Prop where eq : fldV P t i = some (o, some s)
variable {t : TypeId} {x : Operand} {i o : Nat} {cs : List Value}
theorem run_fieldV (w : World) {v : Value} (hf : fldV P t i = some (o, none)) (hv : nth cs o = some v) : (Instr.field t (.agg cs.toArray) i).run P w = .ok v w := by
  unfold fldV at hf
  cases hu : P.underlying t with
  | none => simp [hu] at hf
  | some dd =>
    cases dd <;> simp only [hu] at hf <;> try (exact absurd hf (by simp))
    rename_i fs
    obtain ⟨fd, hi, hf⟩ := Option.bind_eq_some_iff.1 hf
    cases ha : aggOf P fd.type with
    | none => rw [ha] at hf; cases hf
    | some b =>
      cases b with
      | true => rw [ha] at hf; simp at hf
      | false =>
        rw [ha] at hf
        simp only [Option.some.injEq, Prod.mk.injEq] at hf
        obtain ⟨rfl, _⟩ := hf
        rw [nth_eq] at hv
        simp only [Instr.field, Sem.run_bind, run_underlying hu, Result.andThen_ok, hi, asAgg, part, run_agg w ha, Sem.run_pure]
        simp [hv]
theorem run_fieldA (w : World) {s : Nat} {vs : List Value} (hf : fldV P t i = some (o, some s)) (hv : takeAt cs o s = some vs) : (Instr.field t (.agg cs.toArray) i).run P w = .ok (.agg vs.toArray) w := by
  unfold fldV at hf
  cases hu : P.underlying t with
  | none => simp [hu] at hf
  | some dd =>
    cases dd <;> simp only [hu] at hf <;> try (exact absurd hf (by simp))
    rename_i fs
    obtain ⟨fd, hi, hf⟩ := Option.bind_eq_some_iff.1 hf
    cases ha : aggOf P fd.type with
    | none => rw [ha] at hf; cases hf
    | some b =>
      cases b with
      | false => rw [ha] at hf; simp at hf
      | true =>
        rw [ha] at hf
        simp only [Option.map_eq_some_iff, Prod.mk.injEq, Option.some.injEq] at hf
        obtain ⟨s', hs, rfl, rfl⟩ := hf
        obtain ⟨h1, h2⟩ := takeAt_spec _ _ _ _ hv
        simp only [Instr.field, Sem.run_bind, run_underlying hu, Result.andThen_ok, hi, asAgg, part, run_agg w ha, Sem.run_pure, run_sz w hs, if_true]
        congr 2
        apply Array.ext_getElem?
        intro j
        have hle : fd.offset + s' ≤ cs.length ∨ s' = 0 := by
          by_cases h0 : s' = 0
          · exact .inr h0
          · have := h2 (s' - 1) (by omega)
            rw [List.getElem?_eq_getElem (by omega : s' - 1 < vs.length)] at this
            obtain ⟨h3, _⟩ := List.getElem?_eq_some_iff.1 this
            left; omega
        by_cases hj : j < s'
        · rw [Array.getElem?_extract_of_lt (by simp; omega)]
          have h3 := h2 j hj
          rw [List.getElem?_eq_getElem (by omega)] at h3
          simpa using h3
        · rw [Array.getElem?_eq_none (by simp; omega), Array.getElem?_eq_none (by simp; omega)]
theorem fieldV {v : Value} [hf : TFldV P t i o] (h : LS P q ops f R k rest n (upd fr d v) w0 M σ K) (hx : ev n fr x = .agg (List.toArray cs) := by rfl) (hv : nth cs o = some v := by rfl) :
    LS P q ops f R k (⟨some d, .field t x i, ty, pos, aft, none⟩ :: rest) n fr w0 M σ K :=
  LS.val rfl rfl (fun w _ => by simp only [execOp, hx, Sem.run_bind, run_fieldV w hf.eq hv, Result.andThen_ok, Sem.run_pure]) h
theorem fieldA {s : Nat} (vs : List Value) [hf : TFldA P t i o s] (h : LS P q ops f R k rest n (upd fr d (.agg (List.toArray vs))) w0 M σ K) (hx : ev n fr x = .agg (List.toArray cs) := by rfl) (hv : takeAt cs o s = some vs := by rfl) :
    LS P q ops f R k (⟨some d, .field t x i, ty, pos, aft, none⟩ :: rest) n fr w0 M σ K :=
  LS.val rfl rfl (fun w _ => by simp only [execOp, hx, Sem.run_bind, run_fieldA w hf.eq hv, Result.andThen_ok, Sem.run_pure]) h
variable {H : HS} {O : List (Nat × Obj)} {Kf : Us → List HP} {Kb : List HP} {E : List Nat} {sg : Bool} {tags : List Tag}
theorem D.fieldV {v : Value} [hf : TFldV P t i o] (h : LD P f R k n w0 M σ Kb rest tags ⟨upd fr d v, H, O, Kf, E, sg⟩) (hx : ∀ us, ev n (fill fr H us) x = .agg (List.toArray cs) := by intro _; rfl) (hv : nth cs o = some v := by rfl) :
    LD P f R k n w0 M σ Kb (⟨some d, .field t x i, ty, pos, aft, none⟩ :: rest) (.free :: tags) ⟨fr, H, O, Kf, E, sg⟩ :=
  D.free h fun us w => by simp only [execOp, hx us, Sem.run_bind, run_fieldV w hf.eq hv, Result.andThen_ok, Sem.run_pure]
theorem D.fieldA {s : Nat} (vs : List Value) [hf : TFldA P t i o s] (h : LD P f R k n w0 M σ Kb rest tags ⟨upd fr d (.agg (List.toArray vs)), H, O, Kf, E, sg⟩) (hx : ∀ us, ev n (fill fr H us) x = .agg (List.toArray cs) := by intro _; rfl) (hv : takeAt cs o s = some vs := by rfl) :
    LD P f R k n w0 M σ Kb (⟨some d, .field t x i, ty, pos, aft, none⟩ :: rest) (.free :: tags) ⟨fr, H, O, Kf, E, sg⟩ :=
  D.free h fun us w => by simp only [execOp, hx us, Sem.run_bind, run_fieldA w hf.eq hv, Result.andThen_ok, Sem.run_pure]
/-- 'make' of a slice of things of one cell, all noughts. -/
theorem made_one (z : Value) (m : Nat) : madeCells #[z] (m * 1) = (List.replicate m z).toArray := by
  apply Array.ext
  · simp [madeCells]
  · intro i h1 h2
    simp [madeCells, Nat.mod_one]
theorem mkSl {e by_ m : Nat} {z : Value} {y : Operand} [ht : TSlice P t e] [hs : TSz P e 1] [hby : TBytes P e by_] [hz : TZero P e [z]]
    (h : ∀ b, LS P false ops f R k rest n (upd fr d (.slice (some ⟨b, 0, none⟩) m m)) w0 M σ (blk b (.cells (List.replicate m z).toArray e (0, 0)) :: K)) (hx : ev n fr x = .int .i64 (m : Int) := by rfl) (hy : ev n fr y = .int .i64 (m : Int) := by rfl)
    (hb : by_ * m ≤ 281474976710656 := by omega) (hm : m ≤ 9223372036854775807 := by omega) :
    LS P false ops f R k (⟨some d, .makeSlice t x y, ty, pos, aft, none⟩ :: rest) n fr w0 M σ K :=
  LS.valW rfl rfl fun w hw => by
    have hbe := hby.eq
    have hse := hs.eq
    have hze := hz.eq
    unfold zeroOf at hze
    unfold szOf at hse
    cases hi : P.info? e with
    | none => simp [hi] at hse
    | some i =>
      cases hzz : i.zero with
      | none => simp [hi, hzz] at hze
      | some z' =>
        simp [hi] at hse hbe
        simp [hi, hzz] at hze
        have hbm : (i.bytes : Int) * (m : Int) ≤ 281474976710656 := by
          have : ((i.bytes * m : Nat) : Int) ≤ 281474976710656 := by rw [hbe]; omega
          rwa [Int.natCast_mul] at this
        have := run_make (P := P) w t e i z' ht.eq hi hzz .i64 .i64 m m (by omega) (by omega) hbm (by omega)
        have e1 : z'.cells = #[z] := by rw [← Array.toArray_toList (xs := z'.cells), hze]
        simp only [Int.toNat_natCast, e1, hse, made_one] at this
        exact ⟨_, _, σ, _, by simp only [execOp, hx, hy]; simp [this], hw.alloc _, h _⟩
theorem D.bin_neq_B {a b : Bool} {x y : Operand} {t' : TypeId} [ht : TBool P t] (h : LD P f R k n w0 M σ Kb rest tags ⟨upd fr d (.bool (!(a == b))), H, O, Kf, E, sg⟩) (hx : ∀ us, ev n (fill fr H us) x = .bool a := by intro _; rfl) (hy : ∀ us, ev n (fill fr H us) y = .bool b := by intro _; rfl) :
    LD P f R k n w0 M σ Kb (⟨some d, .binOp .neq t x y t', ty, pos, aft, none⟩ :: rest) (.free :: tags) ⟨fr, H, O, Kf, E, sg⟩ :=
  D.free h fun us w => by
    have e : (Op.equal t (.bool a) (.bool b)).run P w = .ok (a == b) w := run_equalIn_bool' w 9999 t a b ht.eq
    simp only [execOp, hx us, hy us, eqGuard, Sem.run_bind]
    simp [binOp, e]
theorem D.bin_eql_B {a b : Bool} {x y : Operand} {t' : TypeId} [ht : TBool P t] (h : LD P f R k n w0 M σ Kb rest tags ⟨upd fr d (.bool (a == b)), H, O, Kf, E, sg⟩) (hx : ∀ us, ev n (fill fr H us) x = .bool a := by intro _; rfl) (hy : ∀ us, ev n (fill fr H us) y = .bool b := by intro _; rfl) :
    LD P f R k n w0 M σ Kb (⟨some d, .binOp .eql t x y t', ty, pos, aft, none⟩ :: rest) (.free :: tags) ⟨fr, H, O, Kf, E, sg⟩ :=
  D.free h fun us w => by
    have e : (Op.equal t (.bool a) (.bool b)).run P w = .ok (a == b) w := run_equalIn_bool' w 9999 t a b ht.eq
    simp only [execOp, hx us, hy us, eqGuard, Sem.run_bind]
    simp [binOp, e]
/-- Numbers compared, of which something is told by what the region has made. -/
theorem D.eqX {kk : IntKind} {a b : Int} {x y : Operand} (h : LD P f R k n w0 M σ Kb rest tags ⟨upd fr d (.bool (decide (a = b))), H, O, Kf, E, false⟩)
    (hx : ∀ us σ', Facts H (readsTmp ⟨some d, .binOp .eql t x y t, ty, pos, aft, none⟩) us σ' → ev n (fill fr H us) x = .int kk a) (hy : ∀ us σ', Facts H (readsTmp ⟨some d, .binOp .eql t x y t, ty, pos, aft, none⟩) us σ' → ev n (fill fr H us) y = .int kk b) :
    LD P f R k n w0 M σ Kb (⟨some d, .binOp .eql t x y t, ty, pos, aft, none⟩ :: rest) (.ex :: tags) ⟨fr, H, O, Kf, E, false⟩ :=
  D.ex h fun us σ' w _ hf _ => exec_bin (hx us σ' hf) (hy us σ' hf) (by simp [binOp, Op.intCmp]; rfl)
end
/-! ### blocks set apart -/

def minusB (σ : PH) (Bs : List (Nat × Obj)) : PH := fun b => bif (Bs.map (·.1)).elem b then none else σ b
abbrev blks (Bs : List (Nat × Obj)) : List HP := Bs.map fun p => blk p.1 p.2
theorem minusB_le (σ : PH) (Bs : List (Nat × Obj)) : PH.le (minusB σ Bs) σ := fun b o h => by
  unfold minusB at h
  cases e : (Bs.map (·.1)).elem b with
  | true => rw [e] at h; cases h
  | false => rw [e] at h; exact h
theorem SepIn.blks_nodup {g : VH} : ∀ {Bs : List (Nat × Obj)} {K : List HP} {F : Nat → Prop}, SepIn g (blks Bs ++ K) F → (∀ p ∈ Bs, F p.1 ∧ g.cur p.1 = some p.2) ∧ (Bs.map (·.1)).Nodup := by
  intro Bs
  induction Bs with
  | nil => intro K F _; simp
  | cons p Bs ih =>
    rintro K F ⟨F1, ⟨h1, h2⟩, h3, h4⟩
    obtain ⟨i1, i2⟩ := ih (K := K) h4
    refine ⟨fun q hq => ?_, ?_⟩
    · rcases List.mem_cons.1 hq with rfl | hq
      · exact ⟨h3 _ h1, h2⟩
      · exact ⟨(i1 q hq).1.1, (i1 q hq).2⟩
    · rw [List.map_cons, List.nodup_cons]
      refine ⟨fun hm => ?_, i2⟩
      obtain ⟨q, hq, e⟩ := List.mem_map.1 hm
      exact (i1 q hq).1.2 (e ▸ h1)
theorem SepIn.of_blks {g : VH} : ∀ {Bs : List (Nat × Obj)} {F : Nat → Prop}, (∀ p ∈ Bs, F p.1 ∧ g.cur p.1 = some p.2) → (Bs.map (·.1)).Nodup → SepIn g (blks Bs) F := by
  intro Bs
  induction Bs with
  | nil => intros; trivial
  | cons p Bs ih =>
    intro F h hn
    rw [List.map_cons, List.nodup_cons] at hn
    refine ⟨fun b => b = p.1, ⟨rfl, (h p (by simp)).2⟩, fun b hb => by rw [hb]; exact (h p (by simp)).1, ih (fun q hq => ⟨⟨(h q (by simp [hq])).1, fun e => hn.1 (e ▸ List.mem_map_of_mem hq)⟩, (h q (by simp [hq])).2⟩) hn.2⟩
theorem Sat.carve {w0 w : World} {M : Nat → Prop} {σ : PH} {K : List HP} {Bs : List (Nat × Obj)} (hw : Sat w0 M σ (blks Bs ++ K) w) :
    Sat w (fun b => b ∈ Bs.map (·.1)) (minusB (hp w) Bs) (blks Bs) w ∧ PH.le σ (minusB (hp w) Bs) := by
  obtain ⟨h1, h2⟩ := SepIn.blks_nodup hw.sep
  have hin : ∀ b, (Bs.map (·.1)).elem b = true ↔ b ∈ Bs.map (·.1) := fun b => by rw [List.elem_eq_mem, decide_eq_true_eq]
  refine ⟨⟨rfl, rfl, rfl, Nat.le_refl _, fun b hb hM => ?_, minusB_le _ _, SepIn.of_blks (fun p hp' => ⟨⟨(h1 p hp').1.1, ?_⟩, (h1 p hp').2⟩) h2⟩, fun b o hb => ?_⟩
  · have : (Bs.map (·.1)).elem b = false := Bool.eq_false_iff.2 fun h => hM ((hin b).1 h)
    simp only [minusB, this, cond_false]; rfl
  · have : (Bs.map (·.1)).elem p.1 = true := (hin _).2 (List.mem_map_of_mem hp')
    simp only [minusB, this, cond_true]
  · have : (Bs.map (·.1)).elem b = false := Bool.eq_false_iff.2 fun h => by
      obtain ⟨p, hp', e⟩ := List.mem_map.1 ((hin b).1 h)
      have := (h1 p hp').1.2
      rw [e, hb] at this; cases this
    simp only [minusB, this, cond_false]; exact hw.imm b o hb
theorem Sat.belowB {w w' : World} {σ : PH} {K : List HP} {Bs : List (Nat × Obj)} (h0 : ∀ p ∈ Bs, w.heap[p.1]? = some p.2) (hw : Sat w (fun b => b ∈ Bs.map (·.1)) σ (blks Bs ++ K) w') : RowKit.Below w.heap.size w w' :=
  ⟨hw.os, hw.tape, hw.output, hw.size, fun k hk => by
    obtain ⟨h1, _⟩ := SepIn.blks_nodup hw.sep
    by_cases hm : k ∈ Bs.map (·.1)
    · obtain ⟨p, hp', rfl⟩ := List.mem_map.1 hm
      rw [h0 p hp']; exact (h1 p hp').2
    · have e := hw.keep k hk hm
      have hs : w.heap[k]? = some w.heap[k] := Array.getElem?_eq_getElem hk
      rw [hs]
      exact hw.imm k _ (e.trans hs)⟩
/-- A state contract over blocks that it leaves as they are, as one that leaves all that was there as it was. -/
theorem Calls.ofState {P : Program} {g : FuncId} {args : Array Value} {w0 w : World} {M : Nat → Prop} {σ : PH} {K K' : List HP} {v : Value} (Bs : List (Nat × Obj)) (hw : Sat w0 M σ K w) (hk : ∀ F, SepIn ⟨σ, hp w⟩ K F → SepIn ⟨σ, hp w⟩ (blks Bs ++ K') F)
    (h : ∀ M' σ', PH.le σ σ' → Sat w M' σ' (blks Bs) w → Calls P g args w fun e w' => e = .returned v ∧ ∃ σ'', Sat w M' σ'' (blks Bs) w') : Calls P g args w fun e w' => e = .returned v ∧ RowKit.Below w.heap.size w w' := by
  have hw' := hw.weak hk
  obtain ⟨h1, h2⟩ := hw'.carve
  refine (h _ _ h2 h1).mono ?_
  rintro e w' ⟨he, σ'', hs⟩
  refine ⟨he, Sat.belowB (K := []) (fun p hp' => ((SepIn.blks_nodup hw'.sep).1 p hp').2) (by rw [List.append_nil]; exact hs)⟩
theorem SepIn.blks_tail {g : VH} {A : HP} : ∀ {Bs : List (Nat × Obj)} {F : Nat → Prop}, (∀ p ∈ Bs, F p.1 ∧ g.cur p.1 = some p.2) → (Bs.map (·.1)).Nodup → A.h g (fun b => F b ∧ b ∉ Bs.map (·.1)) → SepIn g (blks Bs ++ [A]) F := by
  intro Bs
  induction Bs with
  | nil => intro F _ _ hA; exact ⟨_, hA, fun b h => h.1, trivial⟩
  | cons p Bs ih =>
    intro F h hn hA
    rw [List.map_cons, List.nodup_cons] at hn
    refine ⟨fun b => b = p.1, ⟨rfl, (h p (by simp)).2⟩, fun b hb => by rw [hb]; exact (h p (by simp)).1, ih (fun q hq => ⟨⟨(h q (by simp [hq])).1, fun e => hn.1 (e ▸ List.mem_map_of_mem hq)⟩, (h q (by simp [hq])).2⟩) hn.2 ?_⟩
    have e : (fun b => (F b ∧ ¬ b = p.1) ∧ b ∉ Bs.map (·.1)) = fun b => F b ∧ b ∉ (p :: Bs).map (·.1) := by
      funext b
      simp only [List.map_cons, List.mem_cons, not_or, and_assoc]
    rw [e]; exact hA
theorem SepIn.last {g : VH} {A : HP} : ∀ {L : List HP} {F : Nat → Prop}, SepIn g (L ++ [A]) F → ∃ F1, A.h g F1 ∧ ∀ b, F1 b → F b := by
  intro L
  induction L with
  | nil => rintro F ⟨F1, h1, h2, _⟩; exact ⟨F1, h1, h2⟩
  | cons B L ih =>
    rintro F ⟨F1, _, _, h3⟩
    obtain ⟨F2, h4, h5⟩ := ih h3
    exact ⟨F2, h4, fun b hb => (h5 b hb).1⟩
/-- All that is neither in σ nor among Bs, as it was in w. -/
def restHP (w : World) (σ : PH) (Bs : List (Nat × Obj)) : HP :=
  ⟨fun g F => ∀ b : Nat, b < w.heap.size → σ b = none → b ∉ Bs.map (fun p : Nat × Obj => p.1) → F b ∧ g.cur b = w.heap[b]?, fun {g g' F} h hg _ b h1 h2 h3 => ⟨(h b h1 h2 h3).1, by rw [hg b (h b h1 h2 h3).1]; exact (h b h1 h2 h3).2⟩⟩
/-- A state contract, told of any frame, as one that leaves all that was there as it was. -/
theorem Calls.ofAns {P : Program} {g : FuncId} {args : Array Value} {w0 w : World} {M : Nat → Prop} {σ : PH} {K K1 : List HP} {Q : Value → PH → Prop} (hQ : MonoT Q) (Bs : List (Nat × Obj)) (hw : Sat w0 M σ K w) (hk : ∀ F, SepIn ⟨σ, hp w⟩ K F → SepIn ⟨σ, hp w⟩ (blks Bs ++ K1) F)
    (hc : ∀ w0' M' K', Sat w0' M' σ (blks Bs ++ K') w → Calls P g args w (Ans w0' M' σ (blks Bs ++ K') Q)) : Calls P g args w fun e w' => ∃ v, e = .returned v ∧ RowKit.Below w.heap.size w w' ∧ Q v (grow σ w w') := by
  obtain ⟨h1, h2⟩ := SepIn.blks_nodup (hw.weak hk).sep
  have hs : Sat w (fun b => σ b = none) σ (blks Bs ++ [restHP w σ Bs]) w :=
    ⟨rfl, rfl, rfl, Nat.le_refl _, fun b hb hM => by
      cases e : σ b with
      | none => exact absurd e hM
      | some o => exact (hw.imm b o e).symm, hw.imm, SepIn.blks_tail (fun p hp' => ⟨(h1 p hp').1, (h1 p hp').2⟩) h2 fun b hb hn hB => ⟨⟨⟨hb, hn⟩, hB⟩, rfl⟩⟩
  refine (hc _ _ _ hs).mono ?_
  rintro e w' ⟨v, σ', hle, hq, he, hs'⟩
  obtain ⟨h3, _⟩ := SepIn.blks_nodup hs'.sep
  obtain ⟨F2, hr, hF2⟩ := hs'.sep.last
  have hr : ∀ b, b < w.heap.size → σ b = none → b ∉ Bs.map (·.1) → F2 b ∧ hp w' b = w.heap[b]? := hr
  refine ⟨v, he, ⟨hs'.os, hs'.tape, hs'.output, hs'.size, fun k hk' => ?_⟩, hQ _ _ _ hq fun b o hb => ?_⟩
  · cases e : σ k with
    | some o =>
      have := hw.imm k o e
      exact (hs'.imm k o (hle k o e)).trans this.symm
    | none =>
      by_cases hm : k ∈ Bs.map (·.1)
      · obtain ⟨p, hp', rfl⟩ := List.mem_map.1 hm
        exact (h3 p hp').2.trans (h1 p hp').2.symm
      · exact (hr k hk' e hm).2
  · by_cases hb' : w.heap.size ≤ b
    · simp only [grow]; rw [if_pos hb']; exact hs'.imm b o hb
    · simp only [grow]; rw [if_neg hb']
      cases e : σ b with
      | some o' => rw [hle b o' e] at hb; exact hb
      | none =>
        exfalso
        by_cases hm : b ∈ Bs.map (·.1)
        · obtain ⟨p, hp', rfl⟩ := List.mem_map.1 hm
          have := (h3 p hp').1.2
          rw [this] at hb; cases hb
        · have := (hF2 b (hr b (by omega) e hm).1).2
          rw [this] at hb; cases hb
section
variable {P : Program} {f : FuncId} {R : Ending → World → Prop} {k : List Item} {n : Nat} {fr : Nat → Value} {w0 : World} {M : Nat → Prop} {σ : PH}
variable {rest : List Oper} {d : Nat} {ty : TypeId} {pos : String} {aft : Array Edge} {H : HS} {O : List (Nat × Obj)} {Kf : Us → List HP} {Kb : List HP} {E : List Nat} {tags : List Tag}
/-- A call, whenever it comes, that leaves all as it was. -/
theorem D.callG {g : FuncId} {xs : Array Operand} {ts : Array TypeId} {args : Us → List Value} (Q : Value → PH → Prop) (hQ : MonoT Q) [i : Fun P g]
    (h : LD P f R k n w0 M σ Kb rest tags ⟨fr, (d, Q) :: H, O, Kf, E, false⟩)
    (hc : ∀ us σ' w, PH.le σ σ' → Facts H (readsTmp ⟨some d, .call ⟨.value (.func g), xs, ts⟩, ty, pos, aft, none⟩) us σ' → Sat w0 M σ' Kb w → Calls P g (args us).toArray w fun e w' => ∃ v, e = .returned v ∧ RowKit.Below w.heap.size w w' ∧ Q v (grow σ' w w'))
    (hx : ∀ us, xs.toList.map (ev n (fill fr H us)) = args us := by intro _; rfl) :
    LD P f R k n w0 M σ Kb (⟨some d, .call ⟨.value (.func g), xs, ts⟩, ty, pos, aft, none⟩ :: rest) (.ex :: tags) ⟨fr, H, O, Kf, E, false⟩ :=
  D.gr Q hQ h fun us σ' w hle hf hw => .inr ⟨g, _, exec_call i.eq (hx us) w, (hc us σ' w hle hf hw).mono fun _ _ ⟨v, he, hb, hq⟩ => ⟨v, he, hb, hq⟩⟩
theorem D.eqA {b : Bool} {us1 us2 : List Value} {sg : Bool} {x y : Operand} {t t' : TypeId} (heq : ∀ w, (Op.equalIn 10000 t (.agg us1.toArray) (.agg us2.toArray)).run P w = .ok b w) (hg : P.eqGuardType P.depth t = false) (h : LD P f R k n w0 M σ Kb rest tags ⟨upd fr d (.bool b), H, O, Kf, E, sg⟩)
    (hx : ∀ us, ev n (fill fr H us) x = .agg us1.toArray := by intro _; rfl) (hy : ∀ us, ev n (fill fr H us) y = .agg us2.toArray := by intro _; rfl) : LD P f R k n w0 M σ Kb (⟨some d, .binOp .eql t x y t', ty, pos, aft, none⟩ :: rest) (.free :: tags) ⟨fr, H, O, Kf, E, sg⟩ :=
  D.free h fun us w => by
    simp only [execOp, hx us, hy us, Sem.run_bind, run_eqGuard_agg w .eql t x y _ _ hg, Result.andThen_ok, run_eql_struct, heq]
    rfl
theorem D.neqA {b : Bool} {us1 us2 : List Value} {sg : Bool} {x y : Operand} {t t' : TypeId} (heq : ∀ w, (Op.equalIn 10000 t (.agg us1.toArray) (.agg us2.toArray)).run P w = .ok b w) (hg : P.eqGuardType P.depth t = false) (h : LD P f R k n w0 M σ Kb rest tags ⟨upd fr d (.bool (!b)), H, O, Kf, E, sg⟩)
    (hx : ∀ us, ev n (fill fr H us) x = .agg us1.toArray := by intro _; rfl) (hy : ∀ us, ev n (fill fr H us) y = .agg us2.toArray := by intro _; rfl) : LD P f R k n w0 M σ Kb (⟨some d, .binOp .neq t x y t', ty, pos, aft, none⟩ :: rest) (.free :: tags) ⟨fr, H, O, Kf, E, sg⟩ :=
  D.free h fun us w => by
    simp only [execOp, hx us, hy us, Sem.run_bind, run_eqGuard_agg w .neq t x y _ _ hg, Result.andThen_ok, run_neq_struct, heq]
    rfl
end
end Go.JW
