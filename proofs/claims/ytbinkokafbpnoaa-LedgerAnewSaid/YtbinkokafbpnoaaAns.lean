/- State contracts: what a call answers, with what more is not written behind it; and what follows of them for calls whose order is drawn. -/
import Derived.Test.YtbinkokafbpnoaaMap
namespace Go.JW
/-- A call's answer: by Q, of the heap that is not written any more; what is told by K stands. -/
def Ans (w0 : World) (M : Nat → Prop) (σ : PH) (K : List HP) (Q : Value → PH → Prop) : Ending → World → Prop := fun e w' => ∃ v σ', PH.le σ σ' ∧ Q v σ' ∧ e = .returned v ∧ Sat w0 M σ' K w'
theorem Sat.front {w0 w : World} {M : Nat → Prop} {σ : PH} (Ls T : List HP) {K : List HP} (h : Sat w0 M σ (Ls ++ (T ++ K)) w) : Sat w0 M σ (T ++ (Ls ++ K)) w := h.perm (List.perm_append_comm_assoc _ _ _)
section
variable {P : Program} {q : Bool} {ops : Array Oper} {f : FuncId} {R : Ending → World → Prop} {k : List Item} {n : Nat} {fr : Nat → Value} {w0 : World} {M : Nat → Prop} {σ : PH} {K K' : List HP}
variable {rest : List Oper} {d : Nat} {ty : TypeId} {pos : String} {aft : Array Edge}
theorem callA {g : FuncId} {xs : Array Operand} {ts : Array TypeId} {args : List Value} (Q : Value → PH → Prop) [i : Fun P g]
    (h : ∀ v σ', PH.le σ σ' → Q v σ' → LS P false ops f R k rest n (upd fr d v) w0 M σ' K)
    (hc : ∀ w, Sat w0 M σ K w → Calls P g args.toArray w (Ans w0 M σ K Q)) (hx : xs.toList.map (ev n fr) = args := by rfl) :
    LS P false ops f R k (⟨some d, .call ⟨.value (.func g), xs, ts⟩, ty, pos, aft, none⟩ :: rest) n fr w0 M σ K :=
  LS.enterW rfl rfl (fun w _ => exec_call i.eq hx w) fun w hw => (hc w hw).mono fun _ _ ⟨v, σ', h1, h2, h3, h4⟩ => ⟨v, σ', K, h3, h4, h v σ' h1 h2⟩
/-- A row is not written any more. -/
theorem Sat.freeze0 {α : Type} {ri : Rep α} {N e : Nat} {l : List α} {put : HP → List HP} {v : Value} {w : World} (hw : Sat w0 M σ K w) (hl : l.length ≤ 140737488355328) (hf : FindD v K α ri N e l put K') : ∃ σ', PH.le σ σ' ∧ RepL σ' v l ∧ Sat w0 M σ' K' w := by
  obtain ⟨cs, hc, hw'⟩ := hw.openD hf
  obtain ⟨a, cap, σ', rfl, h2, h3, h4, h5, h6, h7⟩ := hw'.freezeRow (hf := FindR.head)
  refine ⟨σ', h3, ⟨hl, a, cap, rfl, h2, fun hn => ?_⟩, h4⟩
  rcases h7 with ⟨h8, _⟩ | ⟨b, rfl, g1, _, g2, g3⟩
  · exact absurd (List.eq_nil_of_length_eq_zero h8) hn
  · refine ⟨b, 0, rfl, (hc.mono (PH.le_trans (fromN_le N σ) h3)).rowAt fun j hj => ?_⟩
    rw [hc.len] at hj
    rw [Nat.zero_add, ← g3 j hj]
theorem RS.freeze0 {α : Type} {ri : Rep α} {N e : Nat} {l : List α} {put : HP → List HP} (v : Value) (h : ∀ σ', PH.le σ σ' → RepL σ' v l → RS P f R k n fr w0 M σ' K') (hl : l.length ≤ 140737488355328 := by omega) (hf : FindD v K α ri N e l put K' := by infer_instance) :
    RS P f R k n fr w0 M σ K :=
  ⟨fun w hw => by obtain ⟨σ', h1, h2, h3⟩ := hw.freeze0 hl hf; exact (h σ' h1 h2).out w h3⟩
theorem LS.freeze0 {α : Type} {ri : Rep α} {N e : Nat} {l : List α} {put : HP → List HP} {ll : List Oper} (v : Value) (h : ∀ σ', PH.le σ σ' → RepL σ' v l → LS P false ops f R k ll n fr w0 M σ' K') (hl : l.length ≤ 140737488355328 := by omega) (hf : FindD v K α ri N e l put K' := by infer_instance) :
    LS P false ops f R k ll n fr w0 M σ K :=
  ⟨fun w hw => by obtain ⟨σ', h1, h2, h3⟩ := hw.freeze0 hl hf; exact (h σ' h1 h2).out w h3⟩
theorem RS.ow {us : Us} (h : RS P f R k n fr w0 M σ K) : RS P f R k n fr w0 M σ (ownsL [] us ++ K) := h
/-! ### parts of structs that lie in no cell -/
def fldV (P : Program) (t : TypeId) (i : Nat) : Option (Nat × Option Nat) :=
  match P.underlying t with
  | some (.struct fs) => (fs[i]?).bind fun f => match aggOf P f.type with | some false => some (f.offset, none) | some true => (szOf P f.type).map fun s => (f.offset, some s) | none => none
  | _ => none
class TFldV (P : Program) (t : TypeId) (i : Nat) (o : outParam Nat) : Prop where eq : fldV P t i = some (o, none)
class TFldA (P : Program) (t : TypeId) (i : Nat) (o s : outParam Nat) : Prop where eq : fldV P t i = some (o, some s)
variable {t : TypeId} {x : Operand} {i o : Nat} {cs : List Value}
theorem run_fieldV (w : World) {v : Value} (hf : fldV P t i = some (o, none)) (hv : nth cs o = some v) : (Instr.field t (.agg cs.toArray) i).run P w = .ok v w := by
  unfold fldV at hf
  cases hu : P.underlying t with
  | none => simp [hu] at hf
  | some dd =>
    cases dd <;> simp only [hu] at hf <;> try (exact absurd hf (by simp))
    rename_i fs
    obtain ⟨fd, hi, hf⟩ := Option.bind_eq_some_iff.1 hf
    cases ha : aggOf P fd.type with
    | none => rw [ha] at hf; cases hf
    | some b =>
      cases b with
      | true => rw [ha] at hf; simp at hf
      | false =>
        rw [ha] at hf
        simp only [Option.some.injEq, Prod.mk.injEq] at hf
        obtain ⟨rfl, _⟩ := hf
        rw [nth_eq] at hv
        simp only [Instr.field, Sem.run_bind, run_underlying hu, Result.andThen_ok, hi, asAgg, part, run_agg w ha, Sem.run_pure]
        simp [hv]
theorem run_fieldA (w : World) {s : Nat} {vs : List Value} (hf : fldV P t i = some (o, some s)) (hv : takeAt cs o s = some vs) : (Instr.field t (.agg cs.toArray) i).run P w = .ok (.agg vs.toArray) w := by
  unfold fldV at hf
  cases hu : P.underlying t with
  | none => simp [hu] at hf
  | some dd =>
    cases dd <;> simp only [hu] at hf <;> try (exact absurd hf (by simp))
    rename_i fs
    obtain ⟨fd, hi, hf⟩ := Option.bind_eq_some_iff.1 hf
    cases ha : aggOf P fd.type with
    | none => rw [ha] at hf; cases hf
    | some b =>
      cases b with
      | false => rw [ha] at hf; simp at hf
      | true =>
        rw [ha] at hf
        simp only [Option.map_eq_some_iff, Prod.mk.injEq, Option.some.injEq] at hf
        obtain ⟨s', hs, rfl, rfl⟩ := hf
        obtain ⟨h1, h2⟩ := takeAt_spec _ _ _ _ hv
        simp only [Instr.field, Sem.run_bind, run_underlying hu, Result.andThen_ok, hi, asAgg, part, run_agg w ha, Sem.run_pure, run_sz w hs, if_true]
        congr 2
        apply Array.ext_getElem?
        intro j
        have hle : fd.offset + s' ≤ cs.length ∨ s' = 0 := by
          by_cases h0 : s' = 0
          · exact .inr h0
          · have := h2 (s' - 1) (by omega)
            rw [List.getElem?_eq_getElem (by omega : s' - 1 < vs.length)] at this
            obtain ⟨h3, _⟩ := List.getElem?_eq_some_iff.1 this
            left; omega
        by_cases hj : j < s'
        · rw [Array.getElem?_extract_of_lt (by simp; omega)]
          have h3 := h2 j hj
          rw [List.getElem?_eq_getElem (by omega)] at h3
          simpa using h3
        · rw [Array.getElem?_eq_none (by simp; omega), Array.getElem?_eq_none (by simp; omega)]
theorem fieldV {v : Value} [hf : TFldV P t i o] (h : LS P q ops f R k rest n (upd fr d v) w0 M σ K) (hx : ev n fr x = .agg (List.toArray cs) := by rfl) (hv : nth cs o = some v := by rfl) :
    LS P q ops f R k (⟨some d, .field t x i, ty, pos, aft, none⟩ :: rest) n fr w0 M σ K :=
  LS.val rfl rfl (fun w _ => by simp only [execOp, hx, Sem.run_bind, run_fieldV w hf.eq hv, Result.andThen_ok, Sem.run_pure]) h
theorem fieldA {s : Nat} (vs : List Value) [hf : TFldA P t i o s] (h : LS P q ops f R k rest n (upd fr d (.agg (List.toArray vs))) w0 M σ K) (hx : ev n fr x = .agg (List.toArray cs) := by rfl) (hv : takeAt cs o s = some vs := by rfl) :
    LS P q ops f R k (⟨some d, .field t x i, ty, pos, aft, none⟩ :: rest) n fr w0 M σ K :=
  LS.val rfl rfl (fun w _ => by simp only [execOp, hx, Sem.run_bind, run_fieldA w hf.eq hv, Result.andThen_ok, Sem.run_pure]) h
variable {H : HS} {O : List (Nat × Obj)} {Kf : Us → List HP} {Kb : List HP} {E : List Nat} {sg : Bool} {tags : List Tag}
theorem D.fieldV {v : Value} [hf : TFldV P t i o] (h : LD P f R k n w0 M σ Kb rest tags ⟨upd fr d v, H, O, Kf, E, sg⟩) (hx : ∀ us, ev n (fill fr H us) x = .agg (List.toArray cs) := by intro _; rfl) (hv : nth cs o = some v := by rfl) :
    LD P f R k n w0 M σ Kb (⟨some d, .field t x i, ty, pos, aft, none⟩ :: rest) (.free :: tags) ⟨fr, H, O, Kf, E, sg⟩ :=
  D.free h fun us w => by simp only [execOp, hx us, Sem.run_bind, run_fieldV w hf.eq hv, Result.andThen_ok, Sem.run_pure]
theorem D.fieldA {s : Nat} (vs : List Value) [hf : TFldA P t i o s] (h : LD P f R k n w0 M σ Kb rest tags ⟨upd fr d (.agg (List.toArray vs)), H, O, Kf, E, sg⟩) (hx : ∀ us, ev n (fill fr H us) x = .agg (List.toArray cs) := by intro _; rfl) (hv : takeAt cs o s = some vs := by rfl) :
    LD P f R k n w0 M σ Kb (⟨some d, .field t x i, ty, pos, aft, none⟩ :: rest) (.free :: tags) ⟨fr, H, O, Kf, E, sg⟩ :=
  D.free h fun us w => by simp only [execOp, hx us, Sem.run_bind, run_fieldA w hf.eq hv, Result.andThen_ok, Sem.run_pure]
end
/-! ### blocks set apart -/
def minusB (σ : PH) (Bs : List (Nat × Obj)) : PH := fun b => bif (Bs.map (·.1)).elem b then none else σ b
abbrev blks (Bs : List (Nat × Obj)) : List HP := Bs.map fun p => blk p.1 p.2
theorem minusB_le (σ : PH) (Bs : List (Nat × Obj)) : PH.le (minusB σ Bs) σ := fun b o h => by
  unfold minusB at h
  cases e : (Bs.map (·.1)).elem b with
  | true => rw [e] at h; cases h
  | false => rw [e] at h; exact h
theorem SepIn.blks_nodup {g : VH} : ∀ {Bs : List (Nat × Obj)} {K : List HP} {F : Nat → Prop}, SepIn g (blks Bs ++ K) F → (∀ p ∈ Bs, F p.1 ∧ g.cur p.1 = some p.2) ∧ (Bs.map (·.1)).Nodup := by
  intro Bs
  induction Bs with
  | nil => intro K F _; simp
  | cons p Bs ih =>
    rintro K F ⟨F1, ⟨h1, h2⟩, h3, h4⟩
    obtain ⟨i1, i2⟩ := ih (K := K) h4
    refine ⟨fun q hq => ?_, ?_⟩
    · rcases List.mem_cons.1 hq with rfl | hq
      · exact ⟨h3 _ h1, h2⟩
      · exact ⟨(i1 q hq).1.1, (i1 q hq).2⟩
    · rw [List.map_cons, List.nodup_cons]
      refine ⟨fun hm => ?_, i2⟩
      obtain ⟨q, hq, e⟩ := List.mem_map.1 hm
      exact (i1 q hq).1.2 (e ▸ h1)
theorem SepIn.of_blks {g : VH} : ∀ {Bs : List (Nat × Obj)} {F : Nat → Prop}, (∀ p ∈ Bs, F p.1 ∧ g.cur p.1 = some p.2) → (Bs.map (·.1)).Nodup → SepIn g (blks Bs) F := by
  intro Bs
  induction Bs with
  | nil => intros; trivial
  | cons p Bs ih =>
    intro F h hn
    rw [List.map_cons, List.nodup_cons] at hn
    refine ⟨fun b => b = p.1, ⟨rfl, (h p (by simp)).2⟩, fun b hb => by rw [hb]; exact (h p (by simp)).1, ih (fun q hq => ⟨⟨(h q (by simp [hq])).1, fun e => hn.1 (e ▸ List.mem_map_of_mem hq)⟩, (h q (by simp [hq])).2⟩) hn.2⟩
theorem Sat.carve {w0 w : World} {M : Nat → Prop} {σ : PH} {K : List HP} {Bs : List (Nat × Obj)} (hw : Sat w0 M σ (blks Bs ++ K) w) :
    Sat w (fun b => b ∈ Bs.map (·.1)) (minusB (hp w) Bs) (blks Bs) w ∧ PH.le σ (minusB (hp w) Bs) := by
  obtain ⟨h1, h2⟩ := SepIn.blks_nodup hw.sep
  have hin : ∀ b, (Bs.map (·.1)).elem b = true ↔ b ∈ Bs.map (·.1) := fun b => by rw [List.elem_eq_mem, decide_eq_true_eq]
  refine ⟨⟨rfl, rfl, rfl, Nat.le_refl _, fun b hb hM => ?_, minusB_le _ _, SepIn.of_blks (fun p hp' => ⟨⟨(h1 p hp').1.1, ?_⟩, (h1 p hp').2⟩) h2⟩, fun b o hb => ?_⟩
  · have : (Bs.map (·.1)).elem b = false := Bool.eq_false_iff.2 fun h => hM ((hin b).1 h)
    simp only [minusB, this, cond_false]; rfl
  · have : (Bs.map (·.1)).elem p.1 = true := (hin _).2 (List.mem_map_of_mem hp')
    simp only [minusB, this, cond_true]
  · have : (Bs.map (·.1)).elem b = false := Bool.eq_false_iff.2 fun h => by
      obtain ⟨p, hp', e⟩ := List.mem_map.1 ((hin b).1 h)
      have := (h1 p hp').1.2
      rw [e, hb] at this; cases this
    simp only [minusB, this, cond_false]; exact hw.imm b o hb
theorem Sat.belowB {w w' : World} {σ : PH} {K : List HP} {Bs : List (Nat × Obj)} (h0 : ∀ p ∈ Bs, w.heap[p.1]? = some p.2) (hw : Sat w (fun b => b ∈ Bs.map (·.1)) σ (blks Bs ++ K) w') : RowKit.Below w.heap.size w w' :=
  ⟨hw.os, hw.tape, hw.output, hw.size, fun k hk => by
    obtain ⟨h1, _⟩ := SepIn.blks_nodup hw.sep
    by_cases hm : k ∈ Bs.map (·.1)
    · obtain ⟨p, hp', rfl⟩ := List.mem_map.1 hm
      rw [h0 p hp']; exact (h1 p hp').2
    · have e := hw.keep k hk hm
      have hs : w.heap[k]? = some w.heap[k] := Array.getElem?_eq_getElem hk
      rw [hs]
      exact hw.imm k _ (e.trans hs)⟩
/-- A state contract over blocks that it leaves as they are, as one that leaves all that was there as it was. -/
theorem Calls.ofState {P : Program} {g : FuncId} {args : Array Value} {w0 w : World} {M : Nat → Prop} {σ : PH} {K K' : List HP} {v : Value} (Bs : List (Nat × Obj)) (hw : Sat w0 M σ K w) (hk : ∀ F, SepIn ⟨σ, hp w⟩ K F → SepIn ⟨σ, hp w⟩ (blks Bs ++ K') F)
    (h : ∀ M' σ', PH.le σ σ' → Sat w M' σ' (blks Bs) w → Calls P g args w fun e w' => e = .returned v ∧ ∃ σ'', Sat w M' σ'' (blks Bs) w') : Calls P g args w fun e w' => e = .returned v ∧ RowKit.Below w.heap.size w w' := by
  have hw' := hw.weak hk
  obtain ⟨h1, h2⟩ := hw'.carve
  refine (h _ _ h2 h1).mono ?_
  rintro e w' ⟨he, σ'', hs⟩
  refine ⟨he, Sat.belowB (K := []) (fun p hp' => ((SepIn.blks_nodup hw'.sep).1 p hp').2) (by rw [List.append_nil]; exact hs)⟩
end Go.JW
