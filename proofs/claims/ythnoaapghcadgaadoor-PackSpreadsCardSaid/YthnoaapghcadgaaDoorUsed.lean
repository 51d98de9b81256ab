/- The ledger: its data; what is used of a node. -/
import Derived.Test.YthnoaapghcadgaaDoorMadePod
import Derived.Test.YthnoaapghcadgaaDoorMap
namespace Go.JW
instance {α : Type} [Rep α] : VRep (List α) where
  of cs := cs.headD undef
/-- Of the entries that have been handed out: some number of each, added up. -/
def sumS {κ α : Type} (f : α → Int) (seen : Array Nat) : List MapEntry → List (κ × α) → Int
  | e :: es, p :: l => (if seen.contains e.born then f p.2 else 0) + sumS f seen es l
  | _, _ => 0
theorem sumS_none {κ α : Type} {f : α → Int} : ∀ {es : List MapEntry} {l : List (κ × α)}, sumS f #[] es l = 0 := by
  intro es
  induction es with
  | nil => intro l; rfl
  | cons e es ih => intro l; cases l with
    | nil => rfl
    | cons p l => simp [sumS, ih]
theorem sumS_other {κ α : Type} {f : α → Int} {b : Nat} {seen : Array Nat} : ∀ {es : List MapEntry} {l : List (κ × α)}, b ∉ es.map (·.born) → sumS f (seen.push b) es l = sumS f seen es l := by
  intro es
  induction es with
  | nil => intro l _; rfl
  | cons e es ih =>
    intro l h
    cases l with
    | nil => rfl
    | cons p l =>
      simp only [List.map_cons, List.mem_cons, not_or] at h
      simp only [sumS, ih h.2, contains_push]
      have : (e.born == b) = false := beq_eq_false_iff_ne.2 fun he => h.1 he.symm
      rw [this, Bool.or_false]
theorem sumS_in {κ α : Type} {f : α → Int} {seen : Array Nat} : ∀ {es : List MapEntry} {l : List (κ × α)}, (∀ p ∈ l, 0 ≤ f p.2) → 0 ≤ sumS f seen es l ∧ sumS f seen es l ≤ (l.map fun p => f p.2).sum := by
  have hpos : ∀ {l : List (κ × α)}, (∀ p ∈ l, 0 ≤ f p.2) → 0 ≤ (l.map fun p => f p.2).sum := by
    intro l
    induction l with
    | nil => intro _; simp
    | cons p l ih => intro h; have h1 := h p (by simp); have h2 := ih fun q hq => h q (by simp [hq]); simp only [List.map_cons, List.sum_cons]; omega
  intro es
  induction es with
  | nil => intro l h; exact ⟨Int.le_refl _, hpos h⟩
  | cons e es ih =>
    intro l h
    cases l with
    | nil => exact ⟨Int.le_refl _, Int.le_refl _⟩
    | cons p l =>
      obtain ⟨h1, h2⟩ := ih (l := l) fun q hq => h q (by simp [hq])
      have := h p (by simp)
      simp only [sumS, List.map_cons, List.sum_cons]
      split <;> omega
section
variable {κ α : Type} [KeyT κ] [VRep α] {σ : PH} {f : α → Int}
/-- One that has not been handed out, with its data. -/
theorem Ents.one {e : MapEntry} {seen : Array Nat} (hs : seen.contains e.born = false) : ∀ {es : List MapEntry} {l : List (κ × α)}, Ents σ es l → (es.map (·.born)).Nodup → e ∈ es →
    ∃ p ∈ l, EntOk σ e p ∧ ∀ f : α → Int, sumS f (seen.push e.born) es l = sumS f seen es l + f p.2 := by
  intro es
  induction es with
  | nil => intro l _ _ h; simp at h
  | cons a es ih =>
    intro l hE hn he
    cases l with
    | nil => exact hE.elim
    | cons p l =>
      simp only [List.map_cons, List.nodup_cons] at hn
      rcases List.mem_cons.1 he with rfl | he
      · refine ⟨p, by simp, hE.1, fun f => ?_⟩
        simp only [sumS, contains_push, beq_self_eq_true, Bool.or_true, if_true, hs, Bool.false_eq_true, if_false]
        rw [sumS_other hn.1]; omega
      · obtain ⟨p', h1, h2, h3⟩ := ih hE.2 hn.2 he
        refine ⟨p', by simp [h1], h2, fun f => ?_⟩
        have hne : a.born ≠ e.born := fun h => hn.1 (h ▸ List.mem_map_of_mem he)
        simp only [sumS, contains_push, h3, beq_eq_false_iff_ne.2 hne, Bool.or_false]; omega
theorem sumS_full {seen : Array Nat} : ∀ {es : List MapEntry} {l : List (κ × α)}, Ents σ es l → (∀ x ∈ es, seen.contains x.born = true) → sumS f seen es l = (l.map fun p => f p.2).sum := by
  intro es
  induction es with
  | nil => intro l h _; cases l with
    | nil => rfl
    | cons _ _ => exact h.elim
  | cons e es ih =>
    intro l h hall
    cases l with
    | nil => exact h.elim
    | cons p l =>
      simp only [sumS, hall e (by simp), if_true, List.map_cons, List.sum_cons]
      rw [ih h.2 fun x hx => hall x (by simp [hx])]
end
end Go.JW
namespace Go.Proofs.YthnoaapghcadgaaDoor
open Go.JW Go.RowKit

instance : VRep NodeD where
  of cs := .agg cs.toArray
structure LedD where
  nodes : List (ByteArray × NodeD)
  taken : List (Int × List PlaceD)
/-- What pods of a row need on a node. -/
def needF (f : PlaceD → Int) (nm : ByteArray) (ps : List PlaceD) : Int := (ps.map fun p => if p.node = nm then f p else 0).sum
abbrev needC := needF (·.cpu)
abbrev needM := needF (·.mem)
abbrev needN := needF (fun _ => 1)
theorem needF_succ (f : PlaceD → Int) (nm : ByteArray) (ps : List PlaceD) (k : Nat) (hk : k < ps.length) : needF f nm (ps.take (k + 1)) = needF f nm (ps.take k) + (if ps[k].node = nm then f ps[k] else 0) := by
  unfold needF
  rw [List.take_add_one, List.getElem?_eq_getElem hk, List.map_append, List.sum_append]
  simp only [Option.toList_some, List.map_cons, List.map_nil, List.sum_cons, List.sum_nil, Int.add_zero]
theorem needF_in {f : PlaceD → Int} {nm : ByteArray} : ∀ {ps : List PlaceD}, (∀ p ∈ ps, 0 ≤ f p) → ∀ k, 0 ≤ needF f nm (ps.take k) ∧ needF f nm (ps.take k) ≤ needF f nm ps := by
  intro ps
  induction ps with
  | nil => intro _ k; simp [needF]
  | cons p ps ih =>
    intro h k
    have h1 := h p (by simp)
    have h0 := ih (fun q hq => h q (by simp [hq])) ps.length
    rw [List.take_length] at h0
    cases k with
    | zero =>
      refine ⟨by simp [needF], ?_⟩
      show needF f nm [] ≤ (if p.node = nm then f p else 0) + needF f nm ps
      have : needF f nm [] = 0 := rfl
      split <;> omega
    | succ k =>
      obtain ⟨h2, h3⟩ := ih (fun q hq => h q (by simp [hq])) k
      rw [List.take_succ_cons]
      show 0 ≤ (if p.node = nm then f p else 0) + needF f nm (ps.take k) ∧ (if p.node = nm then f p else 0) + needF f nm (ps.take k) ≤ (if p.node = nm then f p else 0) + needF f nm ps
      split <;> omega
def usedC (t : List (Int × List PlaceD)) (nm : ByteArray) : Int := (t.map fun p => needC nm p.2).sum
def usedM (t : List (Int × List PlaceD)) (nm : ByteArray) : Int := (t.map fun p => needM nm p.2).sum
def usedN (t : List (Int × List PlaceD)) (nm : ByteArray) : Int := (t.map fun p => needN nm p.2).sum
def RightP (p : PlaceD) : Prop := 0 ≤ p.cpu ∧ 0 ≤ p.mem
/-- Nothing of what is used is below nought; of no node is so much used that it could not be told. -/
structure TakenOk (t : List (Int × List PlaceD)) : Prop where
  right : ∀ g ∈ t, ∀ p ∈ g.2, RightP p
  most : ∀ nm, usedC t nm ≤ 1099511627776 ∧ usedM t nm ≤ 1099511627776 ∧ usedN t nm ≤ 1099511627776
theorem RowAt.place {σ : PH} {b o : Nat} {l : List PlaceD} (h : RowAt σ b o l) (i : Nat) (hi : i < l.length) : (∀ j, j < 5 → σ.cell b (o + i * 5 + j) = (placeC l[i])[j]?) ∧ I64 l[i].cpu ∧ I64 l[i].mem := by
  obtain ⟨vs, h1, h2⟩ := h i hi
  obtain ⟨rfl, _, _, h3, h4⟩ := h2
  exact ⟨h1, h3, h4⟩
theorem used_c {w0 : World} {M : Nat → Prop} {σ : PH} {K : List HP} {bl b1 b2 c1 c2 : Nat} {es1 es2 : Array MapEntry} {t : List (Int × List PlaceD)} (nm : ByteArray) (hT : MapOk σ es2 c2 t) (hok : TakenOk t) (w : World)
    (hw : Sat w0 M σ (blk bl (.cells (List.toArray [.map (some b1), .map (some b2)]) 55 (0, 0)) :: blk b1 (.map es1 c1) :: blk b2 (.map es2 c2) :: K) w) :
    Calls Tryd.prog 18 #[.pointer (some ⟨bl, 0, none⟩), .string nm] w fun e w' => e = .returned (.agg (List.toArray [.int .i64 (usedC t nm), .int .i64 (usedM t nm), .int .i64 (usedN t nm)])) ∧ Sat w0 M σ (blk bl (.cells (List.toArray [.map (some b1), .map (some b2)]) 55 (0, 0)) :: blk b1 (.map es1 c1) :: blk b2 (.map es2 c2) :: K) w' := by
  refine RS.enterK Tryd.func18 Tryd.ntmps18 rfl rfl hw ?_
  (repeat (first | refine RS.seq ?_ | refine RS.region ?_ | refine RS.regionQ ?_ (by kernel_rfl) (by kernel_rfl) | refine RS.skip ?_ | refine RS.inBlock ?_ | refine RS.block ?_ | refine RS.exit ?_)); refine alloc_ (fun b4 => ?_); refine LS.done ?_
  (repeat (first | refine RS.seq ?_ | refine RS.region ?_ | refine RS.regionQ ?_ (by kernel_rfl) (by kernel_rfl) | refine RS.skip ?_ | refine RS.inBlock ?_ | refine RS.block ?_ | refine RS.exit ?_)); refine alloc_ (fun b5 => ?_); refine LS.done ?_
  (repeat (first | refine RS.seq ?_ | refine RS.region ?_ | refine RS.regionQ ?_ (by kernel_rfl) (by kernel_rfl) | refine RS.skip ?_ | refine RS.inBlock ?_ | refine RS.block ?_ | refine RS.exit ?_)); refine mvP ?_; refine nilck ?_; refine fld ?_; refine ld1 (v := .map _) ?_; refine rngM (fun b14 => ?_); refine LS.done ?_
  (repeat (first | refine RS.seq ?_ | refine RS.region ?_ | refine RS.regionQ ?_ (by kernel_rfl) (by kernel_rfl) | refine RS.skip ?_ | refine RS.inBlock ?_ | refine RS.block ?_ | refine RS.exit ?_))
  refine RS.loopF (X := Array Nat × Nat) 7 49 (fun x => c2 ≤ x.2) (fun x => [(14, .pointer (some ⟨b14, 0, none⟩))]) (fun _ => σ) (fun x => blk b14 (.mapIter (some b2) c2 x.1 x.2) :: blk b5 (.cells (List.toArray [.int .i64 (sumS (needC nm) x.1 es2.toList t), .int .i64 (sumS (needM nm) x.1 es2.toList t), .int .i64 (sumS (needN nm) x.1 es2.toList t)]) 59 (0, 0)) :: blk b4 (.cells (List.toArray [.int .i64 0, .int .i64 0, .int .i64 0]) 59 (0, 0)) :: blk bl (.cells (List.toArray [.map (some b1), .map (some b2)]) 55 (0, 0)) :: blk b1 (.map es1 c1) :: blk b2 (.map es2 c2) :: K) (fun x => (leftOf es2 x.1).size) (#[], c2) (Nat.le_refl _) ⟨rfl, trivial⟩ rfl ⟨fun h => by rw [sumS_none, sumS_none, sumS_none]; exact h⟩ ?_
  rintro ⟨seen, c0⟩ gg hc0 ih
  simp only at hc0 ih ⊢
  (repeat (first | refine RS.seq ?_ | refine RS.region ?_ | refine RS.regionQ ?_ (by kernel_rfl) (by kernel_rfl) | refine RS.skip ?_ | refine RS.inBlock ?_ | refine RS.block ?_ | refine RS.exit ?_))
  refine nxtM hT.old hc0 (fun hz => ?_) (fun e he => ?_)
  · refine extr (v := .bool _) ?_; refine LS.done ?_
    (repeat (first | refine RS.seq ?_ | refine RS.region ?_ | refine RS.regionQ ?_ (by kernel_rfl) (by kernel_rfl) | refine RS.skip ?_ | refine RS.inBlock ?_ | refine RS.block ?_ | refine RS.exit ?_))
    refine RS.condF ?_
    have hall := all_seen es2 seen hz
    rw [sumS_full hT.ents hall, sumS_full hT.ents hall, sumS_full hT.ents hall]
    (repeat (first | refine RS.seq ?_ | refine RS.region ?_ | refine RS.regionQ ?_ (by kernel_rfl) (by kernel_rfl) | refine RS.skip ?_ | refine RS.inBlock ?_ | refine RS.block ?_ | refine RS.exit ?_)); refine ldA [_, _, _] ?_; refine st (.agg _) _ ?_; refine LS.done ?_; (repeat (first | refine RS.seq ?_ | refine RS.region ?_ | refine RS.regionQ ?_ (by kernel_rfl) (by kernel_rfl) | refine RS.skip ?_ | refine RS.inBlock ?_ | refine RS.block ?_ | refine RS.exit ?_)); refine RS.retC (ty := 59) Tryd.func18 [_, _, _] fun w hw => ?_
    exact ⟨rfl, hw.weak fun F h => h.tail.tail.tail⟩
  · refine extr (v := .bool _) ?_; refine LS.done ?_
    (repeat (first | refine RS.seq ?_ | refine RS.region ?_ | refine RS.regionQ ?_ (by kernel_rfl) (by kernel_rfl) | refine RS.skip ?_ | refine RS.inBlock ?_ | refine RS.block ?_ | refine RS.exit ?_))
    refine RS.condT ?_
    obtain ⟨hem, hes⟩ := mem_left he
    obtain ⟨p, hpt, hep, hsum⟩ := Ents.one hes hT.ents hT.born hem
    obtain ⟨hek, cs, hev, v, rfl, hrep⟩ := hep
    have hev : e.val = v := hev
    obtain ⟨av, cv, rfl⟩ := hrep.form
    have hright := hok.right p hpt
    obtain ⟨m1, m2, m3⟩ := hok.most nm
    have hB : ∀ f : PlaceD → Int, (∀ g ∈ t, ∀ p ∈ g.2, 0 ≤ f p) → (t.map fun p => needF f nm p.2).sum ≤ 1099511627776 → 0 ≤ sumS (needF f nm) seen es2.toList t ∧ sumS (needF f nm) seen es2.toList t + needF f nm p.2 ≤ 1099511627776 := fun f hf hm => by
      have hpos : ∀ g ∈ t, 0 ≤ needF f nm g.2 := fun g hg => by have := needF_in (nm := nm) (hf g hg) g.2.length; rw [List.take_length] at this; exact this.1
      have h1 := sumS_in (seen := seen) (es := es2.toList) hpos
      have h2 := sumS_in (seen := seen.push e.born) (es := es2.toList) hpos
      rw [hsum] at h2
      omega
    obtain ⟨bc1, bc2⟩ := hB (·.cpu) (fun g hg p hp => (hok.right g hg p hp).1) m1
    obtain ⟨bm1, bm2⟩ := hB (·.mem) (fun g hg p hp => (hok.right g hg p hp).2) m2
    obtain ⟨bn1, bn2⟩ := hB (fun _ => 1) (fun _ _ _ _ => by omega) m3
    have hlen := hrep.1
    (repeat (first | refine RS.seq ?_ | refine RS.region ?_ | refine RS.regionQ ?_ (by kernel_rfl) (by kernel_rfl) | refine RS.skip ?_ | refine RS.inBlock ?_ | refine RS.block ?_ | refine RS.exit ?_)); refine entM hem hT.born ?_; refine extr (v := .slice av p.2.length cv) ?_ (hx := by show Value.tuple #[e.key, e.val] = _; rw [hev]); refine asL ?_; refine LS.done ?_
    (repeat (first | refine RS.seq ?_ | refine RS.region ?_ | refine RS.regionQ ?_ (by kernel_rfl) (by kernel_rfl) | refine RS.skip ?_ | refine RS.inBlock ?_ | refine RS.block ?_ | refine RS.exit ?_)); refine mvL ?_; refine lenL ?_; refine mvI ?_; refine LS.done ?_
    (repeat (first | refine RS.seq ?_ | refine RS.region ?_ | refine RS.regionQ ?_ (by kernel_rfl) (by kernel_rfl) | refine RS.skip ?_ | refine RS.inBlock ?_ | refine RS.block ?_ | refine RS.exit ?_))
    refine RS.loopF (X := Nat) 9 49 (fun k => k ≤ p.2.length) (fun k => [(14, .pointer (some ⟨b14, 0, none⟩)), (19, .slice av p.2.length cv), (20, .int .i64 p.2.length), (21, .int .i64 k)]) (fun _ => σ) (fun k => blk b14 (.mapIter (some b2) c2 (seen.push e.born) c2) :: blk b5 (.cells (List.toArray [.int .i64 (sumS (needC nm) seen es2.toList t + needC nm (p.2.take k)), .int .i64 (sumS (needM nm) seen es2.toList t + needM nm (p.2.take k)), .int .i64 (sumS (needN nm) seen es2.toList t + needN nm (p.2.take k))]) 59 (0, 0)) :: blk b4 (.cells (List.toArray [.int .i64 0, .int .i64 0, .int .i64 0]) 59 (0, 0)) :: blk bl (.cells (List.toArray [.map (some b1), .map (some b2)]) 55 (0, 0)) :: blk b1 (.map es1 c1) :: blk b2 (.map es2 c2) :: K) (fun k => p.2.length - k) 0 (Nat.zero_le _) ⟨rfl, rfl, rfl, rfl, trivial⟩ rfl ⟨fun h => by simp only [List.take_zero, show ∀ f, needF f nm [] = 0 from fun _ => rfl, Int.add_zero]; exact h⟩ ?_
    rintro k g2 hk ihk
    (repeat (first | refine RS.seq ?_ | refine RS.region ?_ | refine RS.regionQ ?_ (by kernel_rfl) (by kernel_rfl) | refine RS.skip ?_ | refine RS.inBlock ?_ | refine RS.block ?_ | refine RS.exit ?_)); refine ltI ?_; refine LS.done ?_
    (repeat (first | refine RS.seq ?_ | refine RS.region ?_ | refine RS.regionQ ?_ (by kernel_rfl) (by kernel_rfl) | refine RS.skip ?_ | refine RS.inBlock ?_ | refine RS.block ?_ | refine RS.exit ?_))
    by_cases hkl : k < p.2.length
    · refine RS.condT ?_ (h := by simp; omega)
      obtain ⟨bp, op, rfl, hrow⟩ := hrep.addr (fun h => by simp [h] at hkl)
      obtain ⟨hcp, hp64, hpm64⟩ := RowAt.place hrow k hkl
      have hq := hright p.2[k] (List.getElem_mem _)
      have hc1 := needF_in (f := (·.cpu)) (nm := nm) (fun q hq => (hright q hq).1) k
      have hc2 := needF_in (f := (·.cpu)) (nm := nm) (fun q hq => (hright q hq).1) (k + 1)
      have hm1 := needF_in (f := (·.mem)) (nm := nm) (fun q hq => (hright q hq).2) k
      have hm2 := needF_in (f := (·.mem)) (nm := nm) (fun q hq => (hright q hq).2) (k + 1)
      have hn1 := needF_in (f := fun _ => 1) (nm := nm) (ps := p.2) (fun _ _ => by omega) k
      have hn2 := needF_in (f := fun _ => 1) (nm := nm) (ps := p.2) (fun _ _ => by omega) (k + 1)
      have sc := needF_succ (·.cpu) nm p.2 k hkl
      have sm := needF_succ (·.mem) nm p.2 k hkl
      have sn := needF_succ (fun _ => 1) nm p.2 k hkl
      (repeat (first | refine RS.seq ?_ | refine RS.region ?_ | refine RS.regionQ ?_ (by kernel_rfl) (by kernel_rfl) | refine RS.skip ?_ | refine RS.inBlock ?_ | refine RS.block ?_ | refine RS.exit ?_)); refine idx (i := k) ?_; refine ldSA (vs := placeC p.2[k]) rfl hcp ?_; refine alloc_ (fun b9 => ?_); refine st (.agg _) _ ?_; refine LS.done ?_
      (repeat (first | refine RS.seq ?_ | refine RS.region ?_ | refine RS.regionQ ?_ (by kernel_rfl) (by kernel_rfl) | refine RS.skip ?_ | refine RS.inBlock ?_ | refine RS.block ?_ | refine RS.exit ?_)); refine fld ?_; refine ld1 (v := .string _) ?_; refine mvS ?_; refine eqS ?_; refine LS.done ?_
      (repeat (first | refine RS.seq ?_ | refine RS.region ?_ | refine RS.regionQ ?_ (by kernel_rfl) (by kernel_rfl) | refine RS.skip ?_ | refine RS.inBlock ?_ | refine RS.block ?_ | refine RS.exit ?_))
      refine RS.cond (fun z => ?_) (fun z => ?_)
      · simp only [decide_eq_true_eq] at z
        simp only [z, if_true] at sc sm sn
        have e1 : 0 ≤ sumS (needC nm) seen es2.toList t + needC nm (p.2.take k) ∧ sumS (needC nm) seen es2.toList t + needC nm (p.2.take k) + p.2[k].cpu ≤ 1099511627776 := by
          show 0 ≤ sumS (needF (·.cpu) nm) seen es2.toList t + needF (·.cpu) nm (p.2.take k) ∧ sumS (needF (·.cpu) nm) seen es2.toList t + needF (·.cpu) nm (p.2.take k) + p.2[k].cpu ≤ 1099511627776
          omega
        have e2 : 0 ≤ sumS (needM nm) seen es2.toList t + needM nm (p.2.take k) ∧ sumS (needM nm) seen es2.toList t + needM nm (p.2.take k) + p.2[k].mem ≤ 1099511627776 := by
          show 0 ≤ sumS (needF (·.mem) nm) seen es2.toList t + needF (·.mem) nm (p.2.take k) ∧ sumS (needF (·.mem) nm) seen es2.toList t + needF (·.mem) nm (p.2.take k) + p.2[k].mem ≤ 1099511627776
          omega
        have e3 : 0 ≤ sumS (needN nm) seen es2.toList t + needN nm (p.2.take k) ∧ sumS (needN nm) seen es2.toList t + needN nm (p.2.take k) + 1 ≤ 1099511627776 := by
          show 0 ≤ sumS (needF (fun _ => 1) nm) seen es2.toList t + needF (fun _ => 1) nm (p.2.take k) ∧ sumS (needF (fun _ => 1) nm) seen es2.toList t + needF (fun _ => 1) nm (p.2.take k) + 1 ≤ 1099511627776
          omega
        (repeat (first | refine RS.seq ?_ | refine RS.region ?_ | refine RS.regionQ ?_ (by kernel_rfl) (by kernel_rfl) | refine RS.skip ?_ | refine RS.inBlock ?_ | refine RS.block ?_ | refine RS.exit ?_)); refine fld ?_; refine fld ?_; refine ld1 (v := .int _ _) ?_; refine fld ?_; refine fld ?_; refine ld1 (v := .int _ _) ?_; (first | refine addN ?_ | refine addI ?_); refine fld ?_; refine fld ?_; refine ld1 (v := .int _ _) ?_; refine fld ?_; refine fld ?_; refine ld1 (v := .int _ _) ?_; (first | refine addN ?_ | refine addI ?_); refine bld (vals := [(0, .int _ _), (1, .int _ _)]) [_, _] ?_; refine fld ?_; refine ld1 (v := .int _ _) ?_; (first | refine addN ?_ | refine addI ?_); refine bld (vals := [(0, .agg (List.toArray [_, _])), (1, .int _ _)]) [_, _, _] ?_; refine st (.agg _) _ ?_; refine LS.done ?_
        (repeat (first | refine RS.seq ?_ | refine RS.region ?_ | refine RS.regionQ ?_ (by kernel_rfl) (by kernel_rfl) | refine RS.skip ?_ | refine RS.inBlock ?_ | refine RS.block ?_ | refine RS.exit ?_)); (first | refine addN ?_ | refine addI ?_); refine mvI ?_; refine LS.done ?_; (repeat (first | refine RS.seq ?_ | refine RS.region ?_ | refine RS.regionQ ?_ (by kernel_rfl) (by kernel_rfl) | refine RS.skip ?_ | refine RS.inBlock ?_ | refine RS.block ?_ | refine RS.exit ?_))
        refine ihk (k + 1) hkl (by omega) ⟨rfl, rfl, rfl, rfl, trivial⟩ (by repeat (first | with_reducible exact Out.refl _ _ _ | exact Out.hv | refine Out.upd ?_ | refine Out.hvIn ?_)) ⟨fun h => ?_⟩ rfl
        simp only [sc, sm, sn, ← Int.add_assoc]
        exact h.tail
      · simp only [decide_eq_false_iff_not] at z
        simp only [z, if_false, Int.add_zero] at sc sm sn
        (repeat (first | refine RS.seq ?_ | refine RS.region ?_ | refine RS.regionQ ?_ (by kernel_rfl) (by kernel_rfl) | refine RS.skip ?_ | refine RS.inBlock ?_ | refine RS.block ?_ | refine RS.exit ?_)); (first | refine addN ?_ | refine addI ?_); refine mvI ?_; refine LS.done ?_; (repeat (first | refine RS.seq ?_ | refine RS.region ?_ | refine RS.regionQ ?_ (by kernel_rfl) (by kernel_rfl) | refine RS.skip ?_ | refine RS.inBlock ?_ | refine RS.block ?_ | refine RS.exit ?_))
        refine ihk (k + 1) hkl (by omega) ⟨rfl, rfl, rfl, rfl, trivial⟩ (by repeat (first | with_reducible exact Out.refl _ _ _ | exact Out.hv | refine Out.upd ?_ | refine Out.hvIn ?_)) ⟨fun h => ?_⟩ rfl
        simp only [sc, sm, sn]
        exact h.tail
    · refine RS.condF ?_ (h := by simp; omega)
      obtain rfl : k = p.2.length := by omega
      (repeat (first | refine RS.seq ?_ | refine RS.region ?_ | refine RS.regionQ ?_ (by kernel_rfl) (by kernel_rfl) | refine RS.skip ?_ | refine RS.inBlock ?_ | refine RS.block ?_ | refine RS.exit ?_))
      refine ih (seen.push e.born, c2) (Nat.le_refl _) (left_shrinks es2 seen e he) ⟨rfl, trivial⟩ (by repeat (first | with_reducible exact Out.refl _ _ _ | exact Out.hv | refine Out.upd ?_ | refine Out.hvIn ?_)) ⟨fun h => ?_⟩ rfl
      simp only [hsum]
      rw [List.take_length] at h
      exact h
end Go.Proofs.YthnoaapghcadgaaDoor
