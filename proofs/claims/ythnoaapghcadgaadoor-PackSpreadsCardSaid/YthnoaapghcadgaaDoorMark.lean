/- Contracts of package mark: names, marks. -/
import Derived.Test.YthnoaapghcadgaaDoorTypes
namespace Go.Proofs.YthnoaapghcadgaaDoor
open Go.JW Go.RowKit

def isDigit (c : Int) : Bool := decide (48 ≤ c) && decide (c ≤ 57)
def isLetter (c : Int) : Bool := (decide (97 ≤ c) && decide (c ≤ 122)) || (decide (945 ≤ c) && decide (c ≤ 969))
theorem digit_c (c : Int) (w : World) : Calls Tryd.prog 55 #[.int .i32 c] w fun e w' => e = .returned (.bool (isDigit c)) ∧ Below w.heap.size w w' := by
  refine RS.enter Tryd.func55 Tryd.ntmps55 rfl rfl ?_
  (repeat (first | refine RS.seq ?_ | refine RS.region ?_ | refine RS.regionQ ?_ (by kernel_rfl) (by kernel_rfl) | refine RS.skip ?_ | refine RS.inBlock ?_ | refine RS.block ?_ | refine RS.exit ?_)); refine asB ?_; refine LS.done ?_
  (repeat (first | refine RS.seq ?_ | refine RS.region ?_ | refine RS.regionQ ?_ (by kernel_rfl) (by kernel_rfl) | refine RS.skip ?_ | refine RS.inBlock ?_ | refine RS.block ?_ | refine RS.exit ?_)); refine mvI ?_; refine geI ?_; refine mvB ?_; refine LS.part 5 (fun g5 => ?_) (fun g5 => ?_) <;> first | (cases g5; done) | (refine LS.on ?_; refine mvI ?_; refine LS.on ?_; refine leI ?_; refine pk (v := .bool _) ?_; refine asB ?_; refine LS.done ?_) | (refine LS.off ?_; refine LS.off ?_; refine pk (v := .bool _) ?_; refine asB ?_; refine LS.done ?_)
  all_goals ((repeat (first | refine RS.seq ?_ | refine RS.region ?_ | refine RS.regionQ ?_ (by kernel_rfl) (by kernel_rfl) | refine RS.skip ?_ | refine RS.inBlock ?_ | refine RS.block ?_ | refine RS.exit ?_)); refine RS.ret1 (v := .bool _) Tryd.func55 fun w hw => ?_; exact ⟨by clear hw; simp_all [isDigit] <;> omega, hw.below⟩)
theorem letter_c (c : Int) (w : World) : Calls Tryd.prog 54 #[.int .i32 c] w fun e w' => e = .returned (.bool (isLetter c)) ∧ Below w.heap.size w w' := by
  refine RS.enter Tryd.func54 Tryd.ntmps54 rfl rfl ?_
  (repeat (first | refine RS.seq ?_ | refine RS.region ?_ | refine RS.regionQ ?_ (by kernel_rfl) (by kernel_rfl) | refine RS.skip ?_ | refine RS.inBlock ?_ | refine RS.block ?_ | refine RS.exit ?_)); refine asB ?_; refine LS.done ?_
  (repeat (first | refine RS.seq ?_ | refine RS.region ?_ | refine RS.regionQ ?_ (by kernel_rfl) (by kernel_rfl) | refine RS.skip ?_ | refine RS.inBlock ?_ | refine RS.block ?_ | refine RS.exit ?_)); refine mvI ?_; refine geI ?_; refine mvB ?_; refine LS.part 5 (fun g5 => ?_) (fun g5 => ?_) <;> first | (cases g5; done) | (refine LS.on ?_; refine mvI ?_; refine LS.on ?_; refine leI ?_; refine pk (v := .bool _) ?_; refine mvB ?_; refine LS.part 9 (fun g9 => ?_) (fun g9 => ?_) <;> first | (cases g9; done) | (refine LS.off ?_; refine LS.off ?_; refine LS.off ?_; refine LS.offU ?_; refine LS.offU ?_; refine LS.off ?_; refine pk (v := .bool _) ?_; refine asB ?_; refine LS.done ?_) | (refine LS.on ?_; refine mvI ?_; refine LS.on ?_; refine geI ?_; refine LS.on ?_; refine mvB ?_; refine LS.part 12 (fun g12 => ?_) (fun g12 => ?_) <;> first | (cases g12; done) | (refine LS.on ?_; refine mvI ?_; refine LS.on ?_; refine leI ?_; refine LS.on ?_; refine pk (v := .bool _) ?_; refine pk (v := .bool _) ?_; refine asB ?_; refine LS.done ?_) | (refine LS.off ?_; refine LS.off ?_; refine LS.on ?_; refine pk (v := .bool _) ?_; refine pk (v := .bool _) ?_; refine asB ?_; refine LS.done ?_))) | (refine LS.off ?_; refine LS.off ?_; refine pk (v := .bool _) ?_; refine mvB ?_; refine LS.part 9 (fun g9 => ?_) (fun g9 => ?_) <;> first | (cases g9; done) | (refine LS.off ?_; refine LS.off ?_; refine LS.off ?_; refine LS.offU ?_; refine LS.offU ?_; refine LS.off ?_; refine pk (v := .bool _) ?_; refine asB ?_; refine LS.done ?_) | (refine LS.on ?_; refine mvI ?_; refine LS.on ?_; refine geI ?_; refine LS.on ?_; refine mvB ?_; refine LS.part 12 (fun g12 => ?_) (fun g12 => ?_) <;> first | (cases g12; done) | (refine LS.on ?_; refine mvI ?_; refine LS.on ?_; refine leI ?_; refine LS.on ?_; refine pk (v := .bool _) ?_; refine pk (v := .bool _) ?_; refine asB ?_; refine LS.done ?_) | (refine LS.off ?_; refine LS.off ?_; refine LS.on ?_; refine pk (v := .bool _) ?_; refine pk (v := .bool _) ?_; refine asB ?_; refine LS.done ?_)))
  all_goals ((repeat (first | refine RS.seq ?_ | refine RS.region ?_ | refine RS.regionQ ?_ (by kernel_rfl) (by kernel_rfl) | refine RS.skip ?_ | refine RS.inBlock ?_ | refine RS.block ?_ | refine RS.exit ?_)); refine RS.ret1 (v := .bool _) Tryd.func54 fun w hw => ?_; exact ⟨by clear hw; simp_all [isLetter] <;> omega, hw.below⟩)

/-! ### runes -/
/-- The runes of s from a place on, each with its place; at most b of them. -/
def runesAt (s : ByteArray) : Nat → Nat → List (Nat × Int)
  | 0, _ => []
  | b + 1, pos => if pos < s.size then (pos, ((Utf8.decode s pos).1 : Int)) :: runesAt s b (pos + (Utf8.decode s pos).2) else []
def runes (s : ByteArray) : List (Nat × Int) := runesAt s s.size 0
theorem width_pos (s : ByteArray) (pos : Nat) (h : pos < s.size) : 1 ≤ (Utf8.decode s pos).2 := by
  by_cases ha : (s[pos]'h).toNat < 128
  · rw [decode_ascii s pos h ha]; exact Nat.le_refl _
  · exact (decode_high s pos h (by omega)).2
theorem runesAt_more (s : ByteArray) : ∀ (b b' pos : Nat), s.size ≤ pos + b → s.size ≤ pos + b' → runesAt s b pos = runesAt s b' pos := by
  intro b
  induction b with
  | zero => intro b' pos h h'; cases b' <;> simp [runesAt]; omega
  | succ b ih =>
    intro b' pos h h'
    cases b' with
    | zero => simp [runesAt]; omega
    | succ b' =>
      simp only [runesAt]
      by_cases hp : pos < s.size
      · rw [if_pos hp, if_pos hp, ih b' _ (by have := width_pos s pos hp; omega) (by have := width_pos s pos hp; omega)]
      · rw [if_neg hp, if_neg hp]
/-- What is left at a place. -/
def left (s : ByteArray) (pos : Nat) : List (Nat × Int) := runesAt s (s.size - pos) pos
theorem left_step (s : ByteArray) (pos : Nat) (h : pos < s.size) : left s pos = (pos, ((Utf8.decode s pos).1 : Int)) :: left s (pos + (Utf8.decode s pos).2) := by
  unfold left
  obtain ⟨b, hb⟩ : ∃ b, s.size - pos = b + 1 := ⟨s.size - pos - 1, by omega⟩
  rw [hb, runesAt, if_pos h, runesAt_more s b (s.size - (pos + (Utf8.decode s pos).2))]
  · have := width_pos s pos h; omega
  · omega
theorem left_end (s : ByteArray) (pos : Nat) (h : ¬ pos < s.size) : left s pos = [] := by
  unfold left; rw [show s.size - pos = 0 by omega]; rfl
theorem left_length (s : ByteArray) : ∀ b pos, (runesAt s b pos).length ≤ b := by
  intro b
  induction b with
  | zero => intro pos; simp [runesAt]
  | succ b ih => intro pos; simp only [runesAt]; split <;> simp; exact ih _
theorem runes_le (s : ByteArray) : (runes s).length ≤ s.size := left_length s _ _
theorem runesN_c (s : ByteArray) (hs : s.size ≤ 9223372036854775806) (w : World) : Calls Tryd.prog 56 #[.string s] w fun e w' => e = .returned (.int .i64 (runes s).length) ∧ Below w.heap.size w w' := by
  have hrs := runes_le s
  refine RS.enter Tryd.func56 Tryd.ntmps56 rfl rfl ?_
  (repeat (first | refine RS.seq ?_ | refine RS.region ?_ | refine RS.regionQ ?_ (by kernel_rfl) (by kernel_rfl) | refine RS.skip ?_ | refine RS.inBlock ?_ | refine RS.block ?_ | refine RS.exit ?_)); refine asI ?_; refine LS.done ?_
  (repeat (first | refine RS.seq ?_ | refine RS.region ?_ | refine RS.regionQ ?_ (by kernel_rfl) (by kernel_rfl) | refine RS.skip ?_ | refine RS.inBlock ?_ | refine RS.block ?_ | refine RS.exit ?_)); refine asI ?_; refine LS.done ?_
  (repeat (first | refine RS.seq ?_ | refine RS.region ?_ | refine RS.regionQ ?_ (by kernel_rfl) (by kernel_rfl) | refine RS.skip ?_ | refine RS.inBlock ?_ | refine RS.block ?_ | refine RS.exit ?_)); refine mvS ?_; refine rngS (fun b5 => ?_); refine LS.done ?_
  (repeat (first | refine RS.seq ?_ | refine RS.region ?_ | refine RS.regionQ ?_ (by kernel_rfl) (by kernel_rfl) | refine RS.skip ?_ | refine RS.inBlock ?_ | refine RS.block ?_ | refine RS.exit ?_))
  refine RS.loopF (X := Nat × Nat) 3 11 (fun x => (runes s).length = x.2 + (left s x.1).length) (fun x => [(3, .int .i64 x.2), (5, .pointer (some ⟨b5, 0, none⟩))]) (fun _ => hp w) (fun x => [blk b5 (.stringIter s x.1)]) (fun x => s.size - x.1) (0, 0) (by simp [left, runes]) ⟨rfl, rfl, trivial⟩ rfl inferInstance ?_
  rintro ⟨pos, k⟩ g h1 ih
  dsimp only at h1
  (repeat (first | refine RS.seq ?_ | refine RS.region ?_ | refine RS.regionQ ?_ (by kernel_rfl) (by kernel_rfl) | refine RS.skip ?_ | refine RS.inBlock ?_ | refine RS.block ?_ | refine RS.exit ?_))
  by_cases hp : pos < s.size
  · have hw := width_pos s pos hp
    rw [left_step s pos hp, List.length_cons] at h1
    refine nxtS hp ?_
    refine extr (v := .bool _) ?_; refine LS.done ?_
    (repeat (first | refine RS.seq ?_ | refine RS.region ?_ | refine RS.regionQ ?_ (by kernel_rfl) (by kernel_rfl) | refine RS.skip ?_ | refine RS.inBlock ?_ | refine RS.block ?_ | refine RS.exit ?_))
    refine RS.condT ?_
    (repeat (first | refine RS.seq ?_ | refine RS.region ?_ | refine RS.regionQ ?_ (by kernel_rfl) (by kernel_rfl) | refine RS.skip ?_ | refine RS.inBlock ?_ | refine RS.block ?_ | refine RS.exit ?_)); refine mvI ?_; (first | refine addN ?_ | refine addI ?_); refine asI ?_; refine LS.done ?_
    (repeat (first | refine RS.seq ?_ | refine RS.region ?_ | refine RS.regionQ ?_ (by kernel_rfl) (by kernel_rfl) | refine RS.skip ?_ | refine RS.inBlock ?_ | refine RS.block ?_ | refine RS.exit ?_))
    exact ih (pos + (Utf8.decode s pos).2, k + 1) (by dsimp only; omega) (by dsimp only; omega) ⟨rfl, rfl, trivial⟩ (by repeat (first | with_reducible exact Out.refl _ _ _ | exact Out.hv | refine Out.upd ?_ | refine Out.hvIn ?_)) inferInstance rfl
  · refine nxtSEnd hp ?_
    refine extr (v := .bool _) ?_; refine LS.done ?_
    (repeat (first | refine RS.seq ?_ | refine RS.region ?_ | refine RS.regionQ ?_ (by kernel_rfl) (by kernel_rfl) | refine RS.skip ?_ | refine RS.inBlock ?_ | refine RS.block ?_ | refine RS.exit ?_))
    refine RS.condF ?_
    (repeat (first | refine RS.seq ?_ | refine RS.region ?_ | refine RS.regionQ ?_ (by kernel_rfl) (by kernel_rfl) | refine RS.skip ?_ | refine RS.inBlock ?_ | refine RS.block ?_ | refine RS.exit ?_)); refine mvI ?_; refine asI ?_; refine LS.done ?_
    (repeat (first | refine RS.seq ?_ | refine RS.region ?_ | refine RS.regionQ ?_ (by kernel_rfl) (by kernel_rfl) | refine RS.skip ?_ | refine RS.inBlock ?_ | refine RS.block ?_ | refine RS.exit ?_))
    refine RS.ret1 (v := .int _ _) Tryd.func56 fun w hw => ?_
    rw [left_end s pos hp] at h1
    exact ⟨by rw [h1]; rfl, hw.below⟩

/-- A name: 1 to 8 runes, letters and digits, the first no digit. -/
def nameRunes (l : List (Nat × Int)) : Bool := l.all fun p => isLetter p.2 || (isDigit p.2 && !decide (p.1 = 0))
def isName (s : ByteArray) : Bool := nameRunes (runes s) && (decide (s.size ≠ 0) && decide ((runes s).length ≤ 8))
theorem name_c (s : ByteArray) (hs : s.size ≤ 9223372036854775806) (w : World) : Calls Tryd.prog 29 #[.string s] w fun e w' => e = .returned (.bool (isName s)) ∧ Below w.heap.size w w' := by
  refine RS.enter Tryd.func29 Tryd.ntmps29 rfl rfl ?_
  (repeat (first | refine RS.seq ?_ | refine RS.region ?_ | refine RS.regionQ ?_ (by kernel_rfl) (by kernel_rfl) | refine RS.skip ?_ | refine RS.inBlock ?_ | refine RS.block ?_ | refine RS.exit ?_)); refine asB ?_; refine LS.done ?_
  (repeat (first | refine RS.seq ?_ | refine RS.region ?_ | refine RS.regionQ ?_ (by kernel_rfl) (by kernel_rfl) | refine RS.skip ?_ | refine RS.inBlock ?_ | refine RS.block ?_ | refine RS.exit ?_)); refine mvS ?_; refine rngS (fun b6 => ?_); refine LS.done ?_
  (repeat (first | refine RS.seq ?_ | refine RS.region ?_ | refine RS.regionQ ?_ (by kernel_rfl) (by kernel_rfl) | refine RS.skip ?_ | refine RS.inBlock ?_ | refine RS.block ?_ | refine RS.exit ?_))
  refine RS.loopF (X := Nat) 3 23 (fun x => nameRunes (runes s) = nameRunes (left s x)) (fun x => [(6, .pointer (some ⟨b6, 0, none⟩))]) (fun _ => hp w) (fun x => [blk b6 (.stringIter s x)]) (fun x => s.size - x) 0 (by simp [left, runes]) ⟨rfl, trivial⟩ rfl inferInstance ?_
  rintro pos g h1 ih
  (repeat (first | refine RS.seq ?_ | refine RS.region ?_ | refine RS.regionQ ?_ (by kernel_rfl) (by kernel_rfl) | refine RS.skip ?_ | refine RS.inBlock ?_ | refine RS.block ?_ | refine RS.exit ?_))
  by_cases hp : pos < s.size
  · have hw := width_pos s pos hp
    rw [left_step s pos hp] at h1
    simp only [nameRunes, List.all_cons] at h1
    refine nxtS hp ?_
    refine extr (v := .bool _) ?_; refine LS.done ?_
    (repeat (first | refine RS.seq ?_ | refine RS.region ?_ | refine RS.regionQ ?_ (by kernel_rfl) (by kernel_rfl) | refine RS.skip ?_ | refine RS.inBlock ?_ | refine RS.block ?_ | refine RS.exit ?_))
    refine RS.condT ?_
    (repeat (first | refine RS.seq ?_ | refine RS.region ?_ | refine RS.regionQ ?_ (by kernel_rfl) (by kernel_rfl) | refine RS.skip ?_ | refine RS.inBlock ?_ | refine RS.block ?_ | refine RS.exit ?_)); refine extr (v := .int _ _) ?_; refine extr (v := .int _ _) ?_; refine asI ?_; refine asI ?_; refine LS.done ?_
    (repeat (first | refine RS.seq ?_ | refine RS.region ?_ | refine RS.regionQ ?_ (by kernel_rfl) (by kernel_rfl) | refine RS.skip ?_ | refine RS.inBlock ?_ | refine RS.block ?_ | refine RS.exit ?_)); refine mvI ?_
    refine callP ?_ (hc := fun w _ => letter_c _ w)
    refine not_ ?_; refine mvB ?_
    refine LS.part 14 (fun gl => ?_) (fun gl => ?_)
    · refine LS.on ?_; refine mvI ?_; refine LS.on ?_
      refine callP ?_ (hc := fun w _ => digit_c _ w)
      refine LS.on ?_; refine not_ ?_; refine LS.on ?_; refine mvB ?_; refine LS.part 18 (fun g18 => ?_) (fun g18 => ?_) <;> first | (cases g18; done) | (refine LS.off ?_; refine LS.off ?_; refine LS.on ?_; refine pk (v := .bool _) ?_; refine pk (v := .bool _) ?_; refine LS.done ?_) | (refine LS.on ?_; refine mvI ?_; refine LS.on ?_; refine eqI ?_; refine LS.on ?_; refine pk (v := .bool _) ?_; refine pk (v := .bool _) ?_; refine LS.done ?_)
      · (repeat (first | refine RS.seq ?_ | refine RS.region ?_ | refine RS.regionQ ?_ (by kernel_rfl) (by kernel_rfl) | refine RS.skip ?_ | refine RS.inBlock ?_ | refine RS.block ?_ | refine RS.exit ?_))
        refine RS.condT ?_
        (repeat (first | refine RS.seq ?_ | refine RS.region ?_ | refine RS.regionQ ?_ (by kernel_rfl) (by kernel_rfl) | refine RS.skip ?_ | refine RS.inBlock ?_ | refine RS.block ?_ | refine RS.exit ?_)); refine asB ?_; refine LS.done ?_; (repeat (first | refine RS.seq ?_ | refine RS.region ?_ | refine RS.regionQ ?_ (by kernel_rfl) (by kernel_rfl) | refine RS.skip ?_ | refine RS.inBlock ?_ | refine RS.block ?_ | refine RS.exit ?_)); refine RS.ret1 (v := .bool _) Tryd.func29 fun w hw => ?_
        exact ⟨retB (by clear hw; simp_all [isName, nameRunes]), hw.below⟩
      · (repeat (first | refine RS.seq ?_ | refine RS.region ?_ | refine RS.regionQ ?_ (by kernel_rfl) (by kernel_rfl) | refine RS.skip ?_ | refine RS.inBlock ?_ | refine RS.block ?_ | refine RS.exit ?_))
        refine RS.cond (fun c22 => ?_) (fun c22 => ?_)
        · (repeat (first | refine RS.seq ?_ | refine RS.region ?_ | refine RS.regionQ ?_ (by kernel_rfl) (by kernel_rfl) | refine RS.skip ?_ | refine RS.inBlock ?_ | refine RS.block ?_ | refine RS.exit ?_)); refine asB ?_; refine LS.done ?_; (repeat (first | refine RS.seq ?_ | refine RS.region ?_ | refine RS.regionQ ?_ (by kernel_rfl) (by kernel_rfl) | refine RS.skip ?_ | refine RS.inBlock ?_ | refine RS.block ?_ | refine RS.exit ?_)); refine RS.ret1 (v := .bool _) Tryd.func29 fun w hw => ?_
          refine ⟨retB ?_, hw.below⟩
          clear hw
          simp at gl g18 c22
          have : pos = 0 := by omega
          rw [this] at gl
          simp [isName, nameRunes, h1, gl, this]
        · (repeat (first | refine RS.seq ?_ | refine RS.region ?_ | refine RS.regionQ ?_ (by kernel_rfl) (by kernel_rfl) | refine RS.skip ?_ | refine RS.inBlock ?_ | refine RS.block ?_ | refine RS.exit ?_))
          simp at gl g18 c22
          have : ¬ pos = 0 := by omega
          exact ih (pos + (Utf8.decode s pos).2) (by simp [nameRunes, h1, gl, g18, this]) (by omega) ⟨rfl, trivial⟩ (by repeat (first | with_reducible exact Out.refl _ _ _ | exact Out.hv | refine Out.upd ?_ | refine Out.hvIn ?_)) inferInstance rfl
    · refine LS.off ?_; refine LS.off ?_; refine LS.off ?_; refine LS.off ?_; refine LS.offU ?_; refine LS.offU ?_; refine LS.off ?_; refine pk (v := .bool _) ?_; refine LS.done ?_
      (repeat (first | refine RS.seq ?_ | refine RS.region ?_ | refine RS.regionQ ?_ (by kernel_rfl) (by kernel_rfl) | refine RS.skip ?_ | refine RS.inBlock ?_ | refine RS.block ?_ | refine RS.exit ?_))
      refine RS.condF ?_
      (repeat (first | refine RS.seq ?_ | refine RS.region ?_ | refine RS.regionQ ?_ (by kernel_rfl) (by kernel_rfl) | refine RS.skip ?_ | refine RS.inBlock ?_ | refine RS.block ?_ | refine RS.exit ?_))
      simp at gl
      exact ih (pos + (Utf8.decode s pos).2) (by simp [nameRunes, h1, gl]) (by omega) ⟨rfl, trivial⟩ (by repeat (first | with_reducible exact Out.refl _ _ _ | exact Out.hv | refine Out.upd ?_ | refine Out.hvIn ?_)) inferInstance rfl
  · refine nxtSEnd hp ?_
    refine extr (v := .bool _) ?_; refine LS.done ?_
    (repeat (first | refine RS.seq ?_ | refine RS.region ?_ | refine RS.regionQ ?_ (by kernel_rfl) (by kernel_rfl) | refine RS.skip ?_ | refine RS.inBlock ?_ | refine RS.block ?_ | refine RS.exit ?_))
    refine RS.condF ?_
    rw [left_end s pos hp] at h1
    have hn : nameRunes (runes s) = true := h1
    (repeat (first | refine RS.seq ?_ | refine RS.region ?_ | refine RS.regionQ ?_ (by kernel_rfl) (by kernel_rfl) | refine RS.skip ?_ | refine RS.inBlock ?_ | refine RS.block ?_ | refine RS.exit ?_)); refine mvS ?_; refine neS ?_; refine mvB ?_
    refine LS.part 25 (fun g => ?_) (fun g => ?_)
    · refine LS.on ?_; refine mvS ?_; refine LS.on ?_
      refine callP ?_ (hc := fun w _ => runesN_c _ hs w)
      refine LS.on ?_; refine leI ?_; refine pk (v := .bool _) ?_; refine asB ?_; refine LS.done ?_
      (repeat (first | refine RS.seq ?_ | refine RS.region ?_ | refine RS.regionQ ?_ (by kernel_rfl) (by kernel_rfl) | refine RS.skip ?_ | refine RS.inBlock ?_ | refine RS.block ?_ | refine RS.exit ?_)); refine RS.ret1 (v := .bool _) Tryd.func29 fun w hw => ?_
      refine ⟨retB ?_, hw.below⟩
      clear hw
      simp at g
      have h0 : s.size ≠ 0 := fun h => g (by cases s with | mk d => simp [ByteArray.size] at h; rw [h])
      rw [isName, hn]
      simp [h0]
      omega
    · refine LS.off ?_; refine LS.off ?_; refine LS.off ?_; refine pk (v := .bool _) ?_; refine asB ?_; refine LS.done ?_
      (repeat (first | refine RS.seq ?_ | refine RS.region ?_ | refine RS.regionQ ?_ (by kernel_rfl) (by kernel_rfl) | refine RS.skip ?_ | refine RS.inBlock ?_ | refine RS.block ?_ | refine RS.exit ?_)); refine RS.ret1 (v := .bool _) Tryd.func29 fun w hw => ?_
      refine ⟨retB ?_, hw.below⟩
      clear hw
      simp at g
      subst g; rfl
theorem runes_zero (s : ByteArray) : (runes s).length = 0 ↔ s.size = 0 := by
  constructor
  · intro h
    rcases Nat.eq_zero_or_pos s.size with h0 | h0
    · exact h0
    · have := left_step s 0 h0
      simp only [left, runes, Nat.sub_zero] at this h
      rw [this] at h; simp at h
  · intro h; have := runes_le s; omega
theorem rname_c (s : ByteArray) (hs : s.size ≤ 9223372036854775806) (w : World) : Calls Tryd.prog 68 #[.string s] w fun e w' => e = .returned (.bool (isName s)) ∧ Below w.heap.size w w' := by
  have hrs := runes_le s
  refine RS.enter Tryd.func68 Tryd.ntmps68 rfl rfl ?_
  (repeat (first | refine RS.seq ?_ | refine RS.region ?_ | refine RS.regionQ ?_ (by kernel_rfl) (by kernel_rfl) | refine RS.skip ?_ | refine RS.inBlock ?_ | refine RS.block ?_ | refine RS.exit ?_)); refine asB ?_; refine LS.done ?_
  (repeat (first | refine RS.seq ?_ | refine RS.region ?_ | refine RS.regionQ ?_ (by kernel_rfl) (by kernel_rfl) | refine RS.skip ?_ | refine RS.inBlock ?_ | refine RS.block ?_ | refine RS.exit ?_)); refine asI ?_; refine LS.done ?_
  (repeat (first | refine RS.seq ?_ | refine RS.region ?_ | refine RS.regionQ ?_ (by kernel_rfl) (by kernel_rfl) | refine RS.skip ?_ | refine RS.inBlock ?_ | refine RS.block ?_ | refine RS.exit ?_)); refine mvS ?_; refine rngS (fun b8 => ?_); refine LS.done ?_
  (repeat (first | refine RS.seq ?_ | refine RS.region ?_ | refine RS.regionQ ?_ (by kernel_rfl) (by kernel_rfl) | refine RS.skip ?_ | refine RS.inBlock ?_ | refine RS.block ?_ | refine RS.exit ?_))
  refine RS.loopF (X := Nat × Nat) 3 50 (fun x => nameRunes (runes s) = nameRunes (left s x.1) ∧ (runes s).length = x.2 + (left s x.1).length) (fun x => [(3, .int .i64 x.2), (8, .pointer (some ⟨b8, 0, none⟩))]) (fun _ => hp w) (fun x => [blk b8 (.stringIter s x.1)]) (fun x => s.size - x.1) (0, 0) (by simp [left, runes]) ⟨rfl, rfl, trivial⟩ rfl inferInstance ?_
  rintro ⟨pos, k⟩ g ⟨h1, h2⟩ ih
  dsimp only at h1 h2
  (repeat (first | refine RS.seq ?_ | refine RS.region ?_ | refine RS.regionQ ?_ (by kernel_rfl) (by kernel_rfl) | refine RS.skip ?_ | refine RS.inBlock ?_ | refine RS.block ?_ | refine RS.exit ?_))
  by_cases hp : pos < s.size
  · have hw := width_pos s pos hp
    rw [left_step s pos hp] at h1 h2
    simp only [nameRunes, List.all_cons] at h1
    simp only [List.length_cons] at h2
    refine nxtS hp ?_
    refine extr (v := .bool _) ?_; refine LS.done ?_
    (repeat (first | refine RS.seq ?_ | refine RS.region ?_ | refine RS.regionQ ?_ (by kernel_rfl) (by kernel_rfl) | refine RS.skip ?_ | refine RS.inBlock ?_ | refine RS.block ?_ | refine RS.exit ?_))
    refine RS.condT ?_
    generalize ((Utf8.decode s pos).1 : Int) = c at h1 ⊢
    obtain ⟨ok, hok⟩ : ∃ ok, ok = (isLetter c || (isDigit c && !decide (pos = 0))) := ⟨_, rfl⟩
    have h1' : nameRunes (runes s) = (ok && nameRunes (left s (pos + (Utf8.decode s pos).2))) := by rw [hok]; exact h1
    clear h1
    (repeat (first | refine RS.seq ?_ | refine RS.region ?_ | refine RS.regionQ ?_ (by kernel_rfl) (by kernel_rfl) | refine RS.skip ?_ | refine RS.inBlock ?_ | refine RS.block ?_ | refine RS.exit ?_)); refine extr (v := .int _ _) ?_; refine extr (v := .int _ _) ?_; refine asI ?_; refine asI ?_; refine LS.done ?_
    (repeat (first | refine RS.seq ?_ | refine RS.region ?_ | refine RS.regionQ ?_ (by kernel_rfl) (by kernel_rfl) | refine RS.skip ?_ | refine RS.inBlock ?_ | refine RS.block ?_ | refine RS.exit ?_)); refine mvI ?_; refine geI ?_; refine mvB ?_; refine LS.part 15 (fun g15 => ?_) (fun g15 => ?_) <;> first | (cases g15; done) | (refine LS.on ?_; refine mvI ?_; refine LS.on ?_; refine leI ?_; refine pk (v := .bool _) ?_; refine asB ?_; refine LS.done ?_) | (refine LS.off ?_; refine LS.off ?_; refine pk (v := .bool _) ?_; refine asB ?_; refine LS.done ?_)
    all_goals
      (repeat (first | refine RS.seq ?_ | refine RS.region ?_ | refine RS.regionQ ?_ (by kernel_rfl) (by kernel_rfl) | refine RS.skip ?_ | refine RS.inBlock ?_ | refine RS.block ?_ | refine RS.exit ?_))
      refine LS.cut 19 48 [(47, .bool (!ok))] ?hk (fun J => ?hj)
      case hj =>
        refine mvB ?_; refine not_ ?_; refine mvB ?_; refine LS.part 21 (fun g21 => ?_) (fun g21 => ?_) <;> first | (cases g21; done) | (refine LS.on ?_; refine mvI ?_; refine LS.on ?_; refine ltI ?_; refine LS.on ?_; refine mvB ?_; refine LS.part 24 (fun g24 => ?_) (fun g24 => ?_) <;> first | (cases g24; done) | (refine LS.off ?_; refine LS.off ?_; refine LS.on ?_; refine pk (v := .bool _) ?_; refine pk (v := .bool _) ?_; refine mvB ?_; refine LS.part 29 (fun g29 => ?_) (fun g29 => ?_) <;> first | (cases g29; done) | (refine LS.on ?_; refine mvI ?_; refine LS.on ?_; refine ltI ?_; refine LS.on ?_; refine mvB ?_; refine LS.part 32 (fun g32 => ?_) (fun g32 => ?_) <;> first | (cases g32; done) | (refine LS.off ?_; refine LS.off ?_; refine LS.on ?_; refine pk (v := .bool _) ?_; refine pk (v := .bool _) ?_; refine mvB ?_; refine LS.part 37 (fun g37 => ?_) (fun g37 => ?_) <;> first | (cases g37; done) | (refine LS.off ?_; refine LS.off ?_; refine LS.offU ?_; refine LS.offU ?_; refine LS.off ?_; refine pk (v := .bool _) ?_; refine mvB ?_; refine LS.part 44 (fun g44 => ?_) (fun g44 => ?_) <;> first | (cases g44; done) | (refine LS.off ?_; refine LS.off ?_; refine pk (v := .bool _) ?_; refine LS.done ?_) | (refine LS.on ?_; refine mvI ?_; refine LS.on ?_; refine eqI ?_; refine pk (v := .bool _) ?_; refine LS.done ?_)) | (refine LS.on ?_; refine mvB ?_; refine LS.on ?_; refine mvB ?_; refine LS.part 39 (fun g39 => ?_) (fun g39 => ?_) <;> first | (cases g39; done) | (refine LS.on ?_; refine mvI ?_; refine LS.on ?_; refine eqI ?_; refine LS.on ?_; refine pk (v := .bool _) ?_; refine pk (v := .bool _) ?_; refine mvB ?_; refine LS.part 44 (fun g44 => ?_) (fun g44 => ?_) <;> first | (cases g44; done) | (refine LS.off ?_; refine LS.off ?_; refine pk (v := .bool _) ?_; refine LS.done ?_) | (refine LS.on ?_; refine mvI ?_; refine LS.on ?_; refine eqI ?_; refine pk (v := .bool _) ?_; refine LS.done ?_)) | (refine LS.off ?_; refine LS.off ?_; refine LS.on ?_; refine pk (v := .bool _) ?_; refine pk (v := .bool _) ?_; refine mvB ?_; refine LS.part 44 (fun g44 => ?_) (fun g44 => ?_) <;> first | (cases g44; done) | (refine LS.off ?_; refine LS.off ?_; refine pk (v := .bool _) ?_; refine LS.done ?_) | (refine LS.on ?_; refine mvI ?_; refine LS.on ?_; refine eqI ?_; refine pk (v := .bool _) ?_; refine LS.done ?_)))) | (refine LS.on ?_; refine mvI ?_; refine LS.on ?_; refine gtI ?_; refine LS.on ?_; refine pk (v := .bool _) ?_; refine pk (v := .bool _) ?_; refine mvB ?_; refine LS.part 37 (fun g37 => ?_) (fun g37 => ?_) <;> first | (cases g37; done) | (refine LS.off ?_; refine LS.off ?_; refine LS.offU ?_; refine LS.offU ?_; refine LS.off ?_; refine pk (v := .bool _) ?_; refine mvB ?_; refine LS.part 44 (fun g44 => ?_) (fun g44 => ?_) <;> first | (cases g44; done) | (refine LS.off ?_; refine LS.off ?_; refine pk (v := .bool _) ?_; refine LS.done ?_) | (refine LS.on ?_; refine mvI ?_; refine LS.on ?_; refine eqI ?_; refine pk (v := .bool _) ?_; refine LS.done ?_)) | (refine LS.on ?_; refine mvB ?_; refine LS.on ?_; refine mvB ?_; refine LS.part 39 (fun g39 => ?_) (fun g39 => ?_) <;> first | (cases g39; done) | (refine LS.on ?_; refine mvI ?_; refine LS.on ?_; refine eqI ?_; refine LS.on ?_; refine pk (v := .bool _) ?_; refine pk (v := .bool _) ?_; refine mvB ?_; refine LS.part 44 (fun g44 => ?_) (fun g44 => ?_) <;> first | (cases g44; done) | (refine LS.off ?_; refine LS.off ?_; refine pk (v := .bool _) ?_; refine LS.done ?_) | (refine LS.on ?_; refine mvI ?_; refine LS.on ?_; refine eqI ?_; refine pk (v := .bool _) ?_; refine LS.done ?_)) | (refine LS.off ?_; refine LS.off ?_; refine LS.on ?_; refine pk (v := .bool _) ?_; refine pk (v := .bool _) ?_; refine mvB ?_; refine LS.part 44 (fun g44 => ?_) (fun g44 => ?_) <;> first | (cases g44; done) | (refine LS.off ?_; refine LS.off ?_; refine pk (v := .bool _) ?_; refine LS.done ?_) | (refine LS.on ?_; refine mvI ?_; refine LS.on ?_; refine eqI ?_; refine pk (v := .bool _) ?_; refine LS.done ?_))))) | (refine LS.off ?_; refine LS.off ?_; refine LS.off ?_; refine LS.offU ?_; refine LS.offU ?_; refine LS.off ?_; refine pk (v := .bool _) ?_; refine mvB ?_; refine LS.part 37 (fun g37 => ?_) (fun g37 => ?_) <;> first | (cases g37; done) | (refine LS.off ?_; refine LS.off ?_; refine LS.offU ?_; refine LS.offU ?_; refine LS.off ?_; refine pk (v := .bool _) ?_; refine mvB ?_; refine LS.part 44 (fun g44 => ?_) (fun g44 => ?_) <;> first | (cases g44; done) | (refine LS.off ?_; refine LS.off ?_; refine pk (v := .bool _) ?_; refine LS.done ?_) | (refine LS.on ?_; refine mvI ?_; refine LS.on ?_; refine eqI ?_; refine pk (v := .bool _) ?_; refine LS.done ?_)) | (refine LS.on ?_; refine mvB ?_; refine LS.on ?_; refine mvB ?_; refine LS.part 39 (fun g39 => ?_) (fun g39 => ?_) <;> first | (cases g39; done) | (refine LS.on ?_; refine mvI ?_; refine LS.on ?_; refine eqI ?_; refine LS.on ?_; refine pk (v := .bool _) ?_; refine pk (v := .bool _) ?_; refine mvB ?_; refine LS.part 44 (fun g44 => ?_) (fun g44 => ?_) <;> first | (cases g44; done) | (refine LS.off ?_; refine LS.off ?_; refine pk (v := .bool _) ?_; refine LS.done ?_) | (refine LS.on ?_; refine mvI ?_; refine LS.on ?_; refine eqI ?_; refine pk (v := .bool _) ?_; refine LS.done ?_)) | (refine LS.off ?_; refine LS.off ?_; refine LS.on ?_; refine pk (v := .bool _) ?_; refine pk (v := .bool _) ?_; refine mvB ?_; refine LS.part 44 (fun g44 => ?_) (fun g44 => ?_) <;> first | (cases g44; done) | (refine LS.off ?_; refine LS.off ?_; refine pk (v := .bool _) ?_; refine LS.done ?_) | (refine LS.on ?_; refine mvI ?_; refine LS.on ?_; refine eqI ?_; refine pk (v := .bool _) ?_; refine LS.done ?_))))) | (refine LS.on ?_; refine mvI ?_; refine LS.on ?_; refine gtI ?_; refine LS.on ?_; refine pk (v := .bool _) ?_; refine pk (v := .bool _) ?_; refine mvB ?_; refine LS.part 29 (fun g29 => ?_) (fun g29 => ?_) <;> first | (cases g29; done) | (refine LS.on ?_; refine mvI ?_; refine LS.on ?_; refine ltI ?_; refine LS.on ?_; refine mvB ?_; refine LS.part 32 (fun g32 => ?_) (fun g32 => ?_) <;> first | (cases g32; done) | (refine LS.off ?_; refine LS.off ?_; refine LS.on ?_; refine pk (v := .bool _) ?_; refine pk (v := .bool _) ?_; refine mvB ?_; refine LS.part 37 (fun g37 => ?_) (fun g37 => ?_) <;> first | (cases g37; done) | (refine LS.off ?_; refine LS.off ?_; refine LS.offU ?_; refine LS.offU ?_; refine LS.off ?_; refine pk (v := .bool _) ?_; refine mvB ?_; refine LS.part 44 (fun g44 => ?_) (fun g44 => ?_) <;> first | (cases g44; done) | (refine LS.off ?_; refine LS.off ?_; refine pk (v := .bool _) ?_; refine LS.done ?_) | (refine LS.on ?_; refine mvI ?_; refine LS.on ?_; refine eqI ?_; refine pk (v := .bool _) ?_; refine LS.done ?_)) | (refine LS.on ?_; refine mvB ?_; refine LS.on ?_; refine mvB ?_; refine LS.part 39 (fun g39 => ?_) (fun g39 => ?_) <;> first | (cases g39; done) | (refine LS.on ?_; refine mvI ?_; refine LS.on ?_; refine eqI ?_; refine LS.on ?_; refine pk (v := .bool _) ?_; refine pk (v := .bool _) ?_; refine mvB ?_; refine LS.part 44 (fun g44 => ?_) (fun g44 => ?_) <;> first | (cases g44; done) | (refine LS.off ?_; refine LS.off ?_; refine pk (v := .bool _) ?_; refine LS.done ?_) | (refine LS.on ?_; refine mvI ?_; refine LS.on ?_; refine eqI ?_; refine pk (v := .bool _) ?_; refine LS.done ?_)) | (refine LS.off ?_; refine LS.off ?_; refine LS.on ?_; refine pk (v := .bool _) ?_; refine pk (v := .bool _) ?_; refine mvB ?_; refine LS.part 44 (fun g44 => ?_) (fun g44 => ?_) <;> first | (cases g44; done) | (refine LS.off ?_; refine LS.off ?_; refine pk (v := .bool _) ?_; refine LS.done ?_) | (refine LS.on ?_; refine mvI ?_; refine LS.on ?_; refine eqI ?_; refine pk (v := .bool _) ?_; refine LS.done ?_)))) | (refine LS.on ?_; refine mvI ?_; refine LS.on ?_; refine gtI ?_; refine LS.on ?_; refine pk (v := .bool _) ?_; refine pk (v := .bool _) ?_; refine mvB ?_; refine LS.part 37 (fun g37 => ?_) (fun g37 => ?_) <;> first | (cases g37; done) | (refine LS.off ?_; refine LS.off ?_; refine LS.offU ?_; refine LS.offU ?_; refine LS.off ?_; refine pk (v := .bool _) ?_; refine mvB ?_; refine LS.part 44 (fun g44 => ?_) (fun g44 => ?_) <;> first | (cases g44; done) | (refine LS.off ?_; refine LS.off ?_; refine pk (v := .bool _) ?_; refine LS.done ?_) | (refine LS.on ?_; refine mvI ?_; refine LS.on ?_; refine eqI ?_; refine pk (v := .bool _) ?_; refine LS.done ?_)) | (refine LS.on ?_; refine mvB ?_; refine LS.on ?_; refine mvB ?_; refine LS.part 39 (fun g39 => ?_) (fun g39 => ?_) <;> first | (cases g39; done) | (refine LS.on ?_; refine mvI ?_; refine LS.on ?_; refine eqI ?_; refine LS.on ?_; refine pk (v := .bool _) ?_; refine pk (v := .bool _) ?_; refine mvB ?_; refine LS.part 44 (fun g44 => ?_) (fun g44 => ?_) <;> first | (cases g44; done) | (refine LS.off ?_; refine LS.off ?_; refine pk (v := .bool _) ?_; refine LS.done ?_) | (refine LS.on ?_; refine mvI ?_; refine LS.on ?_; refine eqI ?_; refine pk (v := .bool _) ?_; refine LS.done ?_)) | (refine LS.off ?_; refine LS.off ?_; refine LS.on ?_; refine pk (v := .bool _) ?_; refine pk (v := .bool _) ?_; refine mvB ?_; refine LS.part 44 (fun g44 => ?_) (fun g44 => ?_) <;> first | (cases g44; done) | (refine LS.off ?_; refine LS.off ?_; refine pk (v := .bool _) ?_; refine LS.done ?_) | (refine LS.on ?_; refine mvI ?_; refine LS.on ?_; refine eqI ?_; refine pk (v := .bool _) ?_; refine LS.done ?_))))) | (refine LS.off ?_; refine LS.off ?_; refine LS.off ?_; refine LS.offU ?_; refine LS.offU ?_; refine LS.off ?_; refine pk (v := .bool _) ?_; refine mvB ?_; refine LS.part 37 (fun g37 => ?_) (fun g37 => ?_) <;> first | (cases g37; done) | (refine LS.off ?_; refine LS.off ?_; refine LS.offU ?_; refine LS.offU ?_; refine LS.off ?_; refine pk (v := .bool _) ?_; refine mvB ?_; refine LS.part 44 (fun g44 => ?_) (fun g44 => ?_) <;> first | (cases g44; done) | (refine LS.off ?_; refine LS.off ?_; refine pk (v := .bool _) ?_; refine LS.done ?_) | (refine LS.on ?_; refine mvI ?_; refine LS.on ?_; refine eqI ?_; refine pk (v := .bool _) ?_; refine LS.done ?_)) | (refine LS.on ?_; refine mvB ?_; refine LS.on ?_; refine mvB ?_; refine LS.part 39 (fun g39 => ?_) (fun g39 => ?_) <;> first | (cases g39; done) | (refine LS.on ?_; refine mvI ?_; refine LS.on ?_; refine eqI ?_; refine LS.on ?_; refine pk (v := .bool _) ?_; refine pk (v := .bool _) ?_; refine mvB ?_; refine LS.part 44 (fun g44 => ?_) (fun g44 => ?_) <;> first | (cases g44; done) | (refine LS.off ?_; refine LS.off ?_; refine pk (v := .bool _) ?_; refine LS.done ?_) | (refine LS.on ?_; refine mvI ?_; refine LS.on ?_; refine eqI ?_; refine pk (v := .bool _) ?_; refine LS.done ?_)) | (refine LS.off ?_; refine LS.off ?_; refine LS.on ?_; refine pk (v := .bool _) ?_; refine pk (v := .bool _) ?_; refine mvB ?_; refine LS.part 44 (fun g44 => ?_) (fun g44 => ?_) <;> first | (cases g44; done) | (refine LS.off ?_; refine LS.off ?_; refine pk (v := .bool _) ?_; refine LS.done ?_) | (refine LS.on ?_; refine mvI ?_; refine LS.on ?_; refine eqI ?_; refine pk (v := .bool _) ?_; refine LS.done ?_)))))) | (refine LS.off ?_; refine LS.off ?_; refine LS.off ?_; refine LS.offU ?_; refine LS.offU ?_; refine LS.off ?_; refine pk (v := .bool _) ?_; refine mvB ?_; refine LS.part 29 (fun g29 => ?_) (fun g29 => ?_) <;> first | (cases g29; done) | (refine LS.on ?_; refine mvI ?_; refine LS.on ?_; refine ltI ?_; refine LS.on ?_; refine mvB ?_; refine LS.part 32 (fun g32 => ?_) (fun g32 => ?_) <;> first | (cases g32; done) | (refine LS.off ?_; refine LS.off ?_; refine LS.on ?_; refine pk (v := .bool _) ?_; refine pk (v := .bool _) ?_; refine mvB ?_; refine LS.part 37 (fun g37 => ?_) (fun g37 => ?_) <;> first | (cases g37; done) | (refine LS.off ?_; refine LS.off ?_; refine LS.offU ?_; refine LS.offU ?_; refine LS.off ?_; refine pk (v := .bool _) ?_; refine mvB ?_; refine LS.part 44 (fun g44 => ?_) (fun g44 => ?_) <;> first | (cases g44; done) | (refine LS.off ?_; refine LS.off ?_; refine pk (v := .bool _) ?_; refine LS.done ?_) | (refine LS.on ?_; refine mvI ?_; refine LS.on ?_; refine eqI ?_; refine pk (v := .bool _) ?_; refine LS.done ?_)) | (refine LS.on ?_; refine mvB ?_; refine LS.on ?_; refine mvB ?_; refine LS.part 39 (fun g39 => ?_) (fun g39 => ?_) <;> first | (cases g39; done) | (refine LS.on ?_; refine mvI ?_; refine LS.on ?_; refine eqI ?_; refine LS.on ?_; refine pk (v := .bool _) ?_; refine pk (v := .bool _) ?_; refine mvB ?_; refine LS.part 44 (fun g44 => ?_) (fun g44 => ?_) <;> first | (cases g44; done) | (refine LS.off ?_; refine LS.off ?_; refine pk (v := .bool _) ?_; refine LS.done ?_) | (refine LS.on ?_; refine mvI ?_; refine LS.on ?_; refine eqI ?_; refine pk (v := .bool _) ?_; refine LS.done ?_)) | (refine LS.off ?_; refine LS.off ?_; refine LS.on ?_; refine pk (v := .bool _) ?_; refine pk (v := .bool _) ?_; refine mvB ?_; refine LS.part 44 (fun g44 => ?_) (fun g44 => ?_) <;> first | (cases g44; done) | (refine LS.off ?_; refine LS.off ?_; refine pk (v := .bool _) ?_; refine LS.done ?_) | (refine LS.on ?_; refine mvI ?_; refine LS.on ?_; refine eqI ?_; refine pk (v := .bool _) ?_; refine LS.done ?_)))) | (refine LS.on ?_; refine mvI ?_; refine LS.on ?_; refine gtI ?_; refine LS.on ?_; refine pk (v := .bool _) ?_; refine pk (v := .bool _) ?_; refine mvB ?_; refine LS.part 37 (fun g37 => ?_) (fun g37 => ?_) <;> first | (cases g37; done) | (refine LS.off ?_; refine LS.off ?_; refine LS.offU ?_; refine LS.offU ?_; refine LS.off ?_; refine pk (v := .bool _) ?_; refine mvB ?_; refine LS.part 44 (fun g44 => ?_) (fun g44 => ?_) <;> first | (cases g44; done) | (refine LS.off ?_; refine LS.off ?_; refine pk (v := .bool _) ?_; refine LS.done ?_) | (refine LS.on ?_; refine mvI ?_; refine LS.on ?_; refine eqI ?_; refine pk (v := .bool _) ?_; refine LS.done ?_)) | (refine LS.on ?_; refine mvB ?_; refine LS.on ?_; refine mvB ?_; refine LS.part 39 (fun g39 => ?_) (fun g39 => ?_) <;> first | (cases g39; done) | (refine LS.on ?_; refine mvI ?_; refine LS.on ?_; refine eqI ?_; refine LS.on ?_; refine pk (v := .bool _) ?_; refine pk (v := .bool _) ?_; refine mvB ?_; refine LS.part 44 (fun g44 => ?_) (fun g44 => ?_) <;> first | (cases g44; done) | (refine LS.off ?_; refine LS.off ?_; refine pk (v := .bool _) ?_; refine LS.done ?_) | (refine LS.on ?_; refine mvI ?_; refine LS.on ?_; refine eqI ?_; refine pk (v := .bool _) ?_; refine LS.done ?_)) | (refine LS.off ?_; refine LS.off ?_; refine LS.on ?_; refine pk (v := .bool _) ?_; refine pk (v := .bool _) ?_; refine mvB ?_; refine LS.part 44 (fun g44 => ?_) (fun g44 => ?_) <;> first | (cases g44; done) | (refine LS.off ?_; refine LS.off ?_; refine pk (v := .bool _) ?_; refine LS.done ?_) | (refine LS.on ?_; refine mvI ?_; refine LS.on ?_; refine eqI ?_; refine pk (v := .bool _) ?_; refine LS.done ?_))))) | (refine LS.off ?_; refine LS.off ?_; refine LS.off ?_; refine LS.offU ?_; refine LS.offU ?_; refine LS.off ?_; refine pk (v := .bool _) ?_; refine mvB ?_; refine LS.part 37 (fun g37 => ?_) (fun g37 => ?_) <;> first | (cases g37; done) | (refine LS.off ?_; refine LS.off ?_; refine LS.offU ?_; refine LS.offU ?_; refine LS.off ?_; refine pk (v := .bool _) ?_; refine mvB ?_; refine LS.part 44 (fun g44 => ?_) (fun g44 => ?_) <;> first | (cases g44; done) | (refine LS.off ?_; refine LS.off ?_; refine pk (v := .bool _) ?_; refine LS.done ?_) | (refine LS.on ?_; refine mvI ?_; refine LS.on ?_; refine eqI ?_; refine pk (v := .bool _) ?_; refine LS.done ?_)) | (refine LS.on ?_; refine mvB ?_; refine LS.on ?_; refine mvB ?_; refine LS.part 39 (fun g39 => ?_) (fun g39 => ?_) <;> first | (cases g39; done) | (refine LS.on ?_; refine mvI ?_; refine LS.on ?_; refine eqI ?_; refine LS.on ?_; refine pk (v := .bool _) ?_; refine pk (v := .bool _) ?_; refine mvB ?_; refine LS.part 44 (fun g44 => ?_) (fun g44 => ?_) <;> first | (cases g44; done) | (refine LS.off ?_; refine LS.off ?_; refine pk (v := .bool _) ?_; refine LS.done ?_) | (refine LS.on ?_; refine mvI ?_; refine LS.on ?_; refine eqI ?_; refine pk (v := .bool _) ?_; refine LS.done ?_)) | (refine LS.off ?_; refine LS.off ?_; refine LS.on ?_; refine pk (v := .bool _) ?_; refine pk (v := .bool _) ?_; refine mvB ?_; refine LS.part 44 (fun g44 => ?_) (fun g44 => ?_) <;> first | (cases g44; done) | (refine LS.off ?_; refine LS.off ?_; refine pk (v := .bool _) ?_; refine LS.done ?_) | (refine LS.on ?_; refine mvI ?_; refine LS.on ?_; refine eqI ?_; refine pk (v := .bool _) ?_; refine LS.done ?_)))))
        all_goals (refine J ⟨boolV ?_, trivial⟩ (by repeat (first | with_reducible exact Out.refl _ _ _ | exact Out.hv | refine Out.upd ?_ | refine Out.hvIn ?_)); rw [hok]; clear J ih h1' h2 hs hrs hw hp hok; simp_all [isLetter, isDigit]; try omega)
      case hk =>
        intro g
        refine RS.cond (fun c47 => ?_) (fun c47 => ?_)
        · (repeat (first | refine RS.seq ?_ | refine RS.region ?_ | refine RS.regionQ ?_ (by kernel_rfl) (by kernel_rfl) | refine RS.skip ?_ | refine RS.inBlock ?_ | refine RS.block ?_ | refine RS.exit ?_)); refine asB ?_; refine LS.done ?_; (repeat (first | refine RS.seq ?_ | refine RS.region ?_ | refine RS.regionQ ?_ (by kernel_rfl) (by kernel_rfl) | refine RS.skip ?_ | refine RS.inBlock ?_ | refine RS.block ?_ | refine RS.exit ?_)); refine RS.ret1 (v := .bool _) Tryd.func68 fun w hw => ?_
          refine ⟨retB ?_, hw.below⟩
          rw [isName, h1']; simp at c47; simp [c47]
        · (repeat (first | refine RS.seq ?_ | refine RS.region ?_ | refine RS.regionQ ?_ (by kernel_rfl) (by kernel_rfl) | refine RS.skip ?_ | refine RS.inBlock ?_ | refine RS.block ?_ | refine RS.exit ?_)); refine mvI ?_; (first | refine addN ?_ | refine addI ?_); refine asI ?_; refine LS.done ?_; (repeat (first | refine RS.seq ?_ | refine RS.region ?_ | refine RS.regionQ ?_ (by kernel_rfl) (by kernel_rfl) | refine RS.skip ?_ | refine RS.inBlock ?_ | refine RS.block ?_ | refine RS.exit ?_))
          simp at c47
          refine ih (pos + (Utf8.decode s pos).2, k + 1) ⟨by rw [h1', c47]; rfl, by dsimp only; omega⟩ (by dsimp only; omega) ⟨rfl, rfl, trivial⟩ (by repeat (first | with_reducible exact Out.refl _ _ _ | exact Out.hv | refine Out.upd ?_ | refine Out.hvIn ?_)) inferInstance rfl
  · refine nxtSEnd hp ?_
    refine extr (v := .bool _) ?_; refine LS.done ?_
    (repeat (first | refine RS.seq ?_ | refine RS.region ?_ | refine RS.regionQ ?_ (by kernel_rfl) (by kernel_rfl) | refine RS.skip ?_ | refine RS.inBlock ?_ | refine RS.block ?_ | refine RS.exit ?_))
    refine RS.condF ?_
    rw [left_end s pos hp] at h1 h2
    have hn : nameRunes (runes s) = true := h1
    have hl : (runes s).length = k := h2
    have hz := runes_zero s
    (repeat (first | refine RS.seq ?_ | refine RS.region ?_ | refine RS.regionQ ?_ (by kernel_rfl) (by kernel_rfl) | refine RS.skip ?_ | refine RS.inBlock ?_ | refine RS.block ?_ | refine RS.exit ?_)); refine mvI ?_; refine geI ?_; refine mvB ?_; refine LS.part 52 (fun g52 => ?_) (fun g52 => ?_) <;> first | (cases g52; done) | (refine LS.on ?_; refine mvI ?_; refine LS.on ?_; refine leI ?_; refine pk (v := .bool _) ?_; refine asB ?_; refine LS.done ?_) | (refine LS.off ?_; refine LS.off ?_; refine pk (v := .bool _) ?_; refine asB ?_; refine LS.done ?_)
    all_goals ((repeat (first | refine RS.seq ?_ | refine RS.region ?_ | refine RS.regionQ ?_ (by kernel_rfl) (by kernel_rfl) | refine RS.skip ?_ | refine RS.inBlock ?_ | refine RS.block ?_ | refine RS.exit ?_)); refine RS.ret1 (v := .bool _) Tryd.func68 fun w hw => ?_; refine ⟨retB ?_, hw.below⟩; clear hw; simp at g52)
    · have h0 : s.size ≠ 0 := by omega
      rw [isName, hn, hl]; simp [h0]; omega
    · have h0 : s.size = 0 := by omega
      rw [isName, hn]; simp [h0]
end Go.Proofs.YthnoaapghcadgaaDoor
