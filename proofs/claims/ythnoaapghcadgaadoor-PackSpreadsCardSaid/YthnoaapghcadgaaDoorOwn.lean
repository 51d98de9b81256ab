/- Calls that hand over what may still be written. -/
import Derived.Test.YthnoaapghcadgaaDoorCells
import Derived.Laws.StructEq
namespace Go.JW

theorem SepIn.cat {g : VH} : ∀ {A K : List HP} {F1 F2 : Nat → Prop}, SepIn g A F1 → SepIn g K F2 → (∀ b, F1 b → ¬ F2 b) → SepIn g (A ++ K) (fun b => F1 b ∨ F2 b) := by
  intro A
  induction A with
  | nil => intro K F1 F2 _ h _; exact h.mono fun b hb => .inr hb
  | cons B A ih =>
    rintro K F1 F2 ⟨G, g1, g2, g3⟩ h hd
    refine ⟨G, g1, fun b hb => .inl (g2 b hb), (ih g3 h fun b hb => hd b hb.1).mono fun b hb => ?_⟩
    rcases hb with hb | hb
    · exact ⟨.inl hb.1, hb.2⟩
    · exact ⟨.inr hb, fun hG => hd b (g2 b hG) hb⟩
/-- What a call leaves: all that was there as it was; of what it made: τ, which is not written any more; Ko, which may be. -/
structure Post (τ : PH) (Ko : List HP) (w w' : World) : Prop where
  below : RowKit.Below w.heap.size w w'
  new : New w τ
  imm : PH.le τ (hp w')
  sep : SepIn ⟨τ, hp w'⟩ Ko (fun b => w.heap.size ≤ b ∧ b < w'.heap.size ∧ τ b = none)
/-- The part of σ that is new. -/
def newOf (w : World) (σ : PH) : PH := fun b => if w.heap.size ≤ b then σ b else none
theorem newOf_le {w : World} {σ τ : PH} (hn : New w τ) (h : PH.le τ σ) : PH.le τ (newOf w σ) := fun b o hb => by
  have : ¬ b < w.heap.size := fun hlt => by rw [hn b hlt] at hb; cases hb
  simp only [newOf]; rw [if_pos (by omega)]; exact h b o hb
theorem Sat.post {w w' : World} {σ τ : PH} {K Ko : List HP} (h : Sat w (fun _ => False) σ K w') (hn : New w τ) (hle : PH.le τ σ) (hk : ∀ F, SepIn ⟨σ, hp w'⟩ K F → SepIn ⟨τ, hp w'⟩ Ko F) : Post τ Ko w w' where
  below := h.below
  new := hn
  imm b o hb := h.imm b o (hle b o hb)
  sep := (hk _ h.sep).mono fun b ⟨h1, h2⟩ => by
    have hb : w.heap.size ≤ b := by
      refine Nat.le_of_not_lt fun hlt => ?_
      have := h.keep b hlt (fun h => h)
      rw [h2] at this
      have h5 : w.heap[b]? = some w.heap[b] := Array.getElem?_eq_getElem hlt
      rw [h5] at this; cases this
    refine ⟨hb, h1, ?_⟩
    cases e : τ b with
    | none => rfl
    | some o => have := hle b o e; rw [h2] at this; cases this
def joinPH (w : World) (σ τ : PH) : PH := fun b => if w.heap.size ≤ b then τ b else σ b
theorem Sat.join {w0 w w' : World} {M : Nat → Prop} {σ τ : PH} {K Ko : List HP} (h : Sat w0 M σ K w) (p : Post τ Ko w w') : PH.le σ (joinPH w σ τ) ∧ PH.le τ (joinPH w σ τ) ∧ Sat w0 M (joinPH w σ τ) (Ko ++ K) w' := by
  have e := h.ext p.below
  have hs := h.size
  refine ⟨fun b o hb => ?_, fun b o hb => ?_, ⟨e.os, e.tape, e.output, e.size, fun b hb hM => ?_, fun b o hb => ?_, ?_⟩⟩
  · have := hp_lt (h.imm b o hb)
    simp only [joinPH]; rw [if_neg (by omega)]; exact hb
  · have : ¬ b < w.heap.size := fun hlt => by rw [p.new b hlt] at hb; cases hb
    simp only [joinPH]; rw [if_pos (by omega)]; exact hb
  · simp only [joinPH]; rw [if_neg (by omega)]; exact h.keep b hb hM
  · simp only [joinPH] at hb
    split at hb
    · exact p.imm b o hb
    · exact e.imm b o hb
  · have h2 : SepIn ⟨joinPH w σ τ, hp w'⟩ K (fun b => b < w.heap.size ∧ σ b = none) := h.sep.over (fun b hb => p.below.block b hb.1) (fun b o hb => by
      have := hp_lt (h.imm b o hb)
      simp only [joinPH]; rw [if_neg (by omega)]; exact hb)
    have h1 : SepIn ⟨joinPH w σ τ, hp w'⟩ Ko (fun b => w.heap.size ≤ b ∧ b < w'.heap.size ∧ τ b = none) := p.sep.over (fun _ _ => rfl) (fun b o hb => by
      have : ¬ b < w.heap.size := fun hlt => by rw [p.new b hlt] at hb; cases hb
      simp only [joinPH]; rw [if_pos (by omega)]; exact hb)
    refine (SepIn.cat h1 h2 fun b hb hb' => by omega).mono fun b hb => ?_
    rcases hb with hb | hb
    · exact ⟨hb.2.1, by simp only [joinPH]; rw [if_pos hb.1]; exact hb.2.2⟩
    · exact ⟨Nat.lt_of_lt_of_le hb.1 p.below.size, by simp only [joinPH]; rw [if_neg (by omega)]; exact hb.2⟩
section
variable {P : Program} {q : Bool} {ops : Array Oper} {f : FuncId} {R : Ending → World → Prop} {k : List Item} {n : Nat} {fr : Nat → Value} {w0 : World} {M : Nat → Prop} {σ : PH} {K K' : List HP}
variable {rest : List Oper} {d : Nat} {ty : TypeId} {pos : String} {aft : Array Edge} {x y z : Operand} {t t' : TypeId}
/-- A call that hands over what may still be written: by x, whatever its answer is told by. -/
theorem callO {g : FuncId} {xs : Array Operand} {ts : Array TypeId} {args : List Value} {X : Type} (val : X → Value) (own : X → List HP) (Q : X → PH → Prop) [i : Fun P g]
    (h : ∀ x τ σ', Q x τ → New w0 τ → PH.le σ σ' → PH.le τ σ' → LS P false ops f R k rest n (upd fr d (val x)) w0 M σ' (own x ++ K))
    (hc : ∀ w, Sat w0 M σ K w → Calls P g args.toArray w fun e w' => ∃ x τ, e = .returned (val x) ∧ Post τ (own x) w w' ∧ Q x τ) (hx : xs.toList.map (ev n fr) = args := by rfl) :
    LS P false ops f R k (⟨some d, .call ⟨.value (.func g), xs, ts⟩, ty, pos, aft, none⟩ :: rest) n fr w0 M σ K :=
  LS.enterW rfl rfl (fun w _ => exec_call i.eq hx w) fun w hw => (hc w hw).mono fun _ w' ⟨x, τ, he, hp', hq⟩ => by
    obtain ⟨h1, h2, h3⟩ := hw.join hp'
    exact ⟨val x, joinPH w σ τ, own x ++ K, he, h3, h x τ _ hq (fun b hb => hp'.new b (Nat.lt_of_lt_of_le hb hw.size)) h1 h2⟩
/-- A row of one's own with something in it: its block, whole. -/
theorem RS.openRow {v : Value} {e s m : Nat} {cs : List Value} {put : HP → List HP} (hf : FindR v K e s m cs put K') (hm : 0 < m)
    (h : ∀ b c0 cap, v = .slice (some ⟨b, 0, none⟩) m cap → m ≤ cap → cap * s ≤ c0.length → c0.take (m * s) = cs → RS P f R k n fr w0 M σ (blk b (.cells (List.toArray c0) e (0, 0)) :: K')) : RS P f R k n fr w0 M σ K :=
  ⟨fun w hw => by
    obtain ⟨F1, ⟨h1, h1c, a, cap, e1, h2, h3, h4⟩, h5, h6⟩ := hf.get hw.sep
    rcases h4 with ⟨h8, _⟩ | ⟨b, c0, rfl, g1, g2, g3, g4⟩
    · omega
    · exact (h b c0 cap e1 h2 g3 g4).out w ⟨hw.os, hw.tape, hw.output, hw.size, hw.keep, hw.imm, F1, ⟨g1, g2⟩, h5, h6⟩⟩
/-- And back. -/
theorem RS.closeRow {b e s m cap : Nat} {c0 cs : List Value} {put : HP → List HP} (hf : FindB b K (.cells c0.toArray e (0, 0)) put K') (hm : m ≤ cap) (hcap : cap ≤ 9223372036854775807) (hl : cap * s ≤ c0.length) (hc : c0.take (m * s) = cs) (h1 : cs.all (·.oneCell') = true)
    (h : RS P f R k n fr w0 M σ (rowH e s (.slice (some ⟨b, 0, none⟩) m cap) m cs :: K')) : RS P f R k n fr w0 M σ K :=
  ⟨fun w hw => h.out w (hw.weak fun F hF => by
    obtain ⟨F1, ⟨g1, g2⟩, g3, g4⟩ := hf.get hF
    have hle : m * s ≤ cap * s := Nat.mul_le_mul_right s hm
    exact ⟨F1, ⟨by rw [← hc, List.length_take]; omega, h1, _, _, rfl, hm, hcap, .inr ⟨b, c0, rfl, g1, g2, hl, hc⟩⟩, g3, g4⟩)⟩
theorem bin_eql_B {a b : Bool} [ht : TBool P t] (h : LS P q ops f R k rest n (upd fr d (.bool (a == b))) w0 M σ K) (hx : ev n fr x = .bool a := by rfl) (hy : ev n fr y = .bool b := by rfl) :
    LS P q ops f R k (⟨some d, .binOp .eql t x y t', ty, pos, aft, none⟩ :: rest) n fr w0 M σ K :=
  LS.val rfl rfl (fun w _ => by
    have e : (Op.equal t (.bool a) (.bool b)).run P w = .ok (a == b) w := run_equalIn_bool' w 9999 t a b ht.eq
    simp only [execOp, hx, hy, eqGuard, Sem.run_bind]
    simp [binOp, e]) h
/-- The text of the bytes of a block of one's own. -/
theorem b2sB {e T b m c : Nat} {cs : List Value} {put : HP → List HP} (bs : List Int) [ht : TSlice P t e] [he : TInt P e .u8] [hd : TStr P t'] (h : LS P q ops f R k rest n (upd fr d (.string (bs.foldl (fun r n => r.push (UInt8.ofNat n.toNat)) ByteArray.empty))) w0 M σ K)
    (hx : ev n fr x = .slice (some ⟨b, 0, none⟩) m c := by rfl) (hf : FindB b K (.cells cs.toArray T (0, 0)) put K' := by infer_instance) (hc : takeAt cs 0 m = some (bs.map (Value.int .u8)) := by rfl) :
    LS P q ops f R k (⟨some d, .convert t t' x, ty, pos, aft, none⟩ :: rest) n fr w0 M σ K :=
  LS.val rfl rfl (fun w hw => by
    have hb := hw.get (i := hf)
    obtain ⟨g1, g2⟩ := takeAt_spec _ _ _ _ hc
    have h3 : (loadCells ⟨b, 0, none⟩ m).run P w = .ok (bs.map (Value.int .u8)).toArray w := by
      have := run_loadFrom (P := P) (w := w) (b := b) (fun j => w.cell? ⟨b, j, none⟩) (fun j v h => h) m 0 0 #[] (bs.map (Value.int .u8)) g1 (fun j hj => by
        simpa using (cell_blk hb (0 + j)).trans (g2 j hj))
      simpa [loadCells] using this
    have := run_bytesToString (P := P) w ⟨b, 0, none⟩ m c bs h3
    simp only [execOp, hx]
    rw [Sem.run_bind, run_convert_bytes_string w t t' e _ _ _ ht.eq he.eq hd.eq, this]
    rfl) h
variable {H : HS} {Kb : List HP} {E : List Nat} {sg : Bool} {tags : List Tag}
/-- A store into a block that is known whole, in a region that draws. -/
theorem D.stB (v : Value) (cs' : List Value) {b off s : Nat} {cs : List Value} {T : TypeId} {put : HP → List HP} [hs : TSz P t s]
    (h : LD P f R k n w0 M σ Kb rest tags ⟨fr, H, [], fun _ => put (blk b (.cells cs'.toArray T (0, 0))), (Stg.mk fr H [] (fun _ => K) E sg).seen ⟨none, .store t x y, ty, pos, aft, none⟩ ++ E, true⟩)
    (hx : ∀ us, ev n (fill fr H us) x = .pointer (some ⟨b, off, none⟩) := by intro _; rfl) (hf : FindB b K (.cells cs.toArray T (0, 0)) put K' := by infer_instance) (hy : ∀ us, ev n (fill fr H us) y = v := by intro _; rfl)
    (hl : (cellsL v).length = s := by rfl) (hr : off + s ≤ cs.length := by first | decide | omega) (h1 : (cellsL v).all (·.oneCell') = true := by rfl) (hc : setAt cs off (cellsL v) = cs' := by rfl) :
    LD P f R k n w0 M σ Kb (⟨none, .store t x y, ty, pos, aft, none⟩ :: rest) (.st :: tags) ⟨fr, H, [], fun _ => K, E, sg⟩ :=
  D.st (fun _ => put (blk b (.cells cs'.toArray T (0, 0)))) (fun _ => put (blk b (.cells cs'.toArray T (0, 0)))) h (fun us σ' w hle hfs hw => by
    have hw : Sat w0 M σ' K w := hw
    have hb := hw.get (i := hf)
    have := run_storeVarL (P := P) (t := t) hb hs.eq off hl hr h1
    rw [hc] at this
    exact ⟨_, by simp [execOp, hx us, hy us, Instr.storeAt, Instr.sureAddr, this], hw.put (i := hf) _⟩) (fun _ => rfl)
end
end Go.JW
