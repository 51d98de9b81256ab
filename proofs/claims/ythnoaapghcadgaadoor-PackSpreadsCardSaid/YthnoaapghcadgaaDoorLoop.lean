/- Loops over frames of which some slots are forgotten; assertions dropped and put in another order. -/
import Derived.Test.YthnoaapghcadgaaDoorOps
namespace Go.JW

def hv (lo hi : Nat) (g fr : Nat → Value) : Nat → Value := fun k => bif Nat.ble lo k && Nat.blt k hi then g k else fr k
structure Out (lo hi : Nat) (fr' fr : Nat → Value) : Prop where
  out : ∀ k, (Nat.ble lo k && Nat.blt k hi) = false → fr' k = fr k
theorem Out.refl (lo hi : Nat) (fr : Nat → Value) : Out lo hi fr fr := ⟨fun _ _ => rfl⟩
theorem Out.hv {lo hi : Nat} {g fr : Nat → Value} : Out lo hi (hv lo hi g fr) fr := ⟨fun k hk => by simp [JW.hv, hk]⟩
theorem Out.upd {lo hi d : Nat} {v : Value} {fr' fr : Nat → Value} (h : Out lo hi fr' fr) (hd : (Nat.ble lo d && Nat.blt d hi) = true := by rfl) : Out lo hi (upd fr' d v) fr :=
  ⟨fun k hk => by
    have : Nat.beq k d = false := by
      rw [Bool.eq_false_iff]; intro hb
      rw [Nat.eq_of_beq_eq_true hb, hd] at hk; cases hk
    simp [JW.upd, this, h.out k hk]⟩
theorem Out.hvIn {lo hi lo' hi' : Nat} {g X fr : Nat → Value} (h : Out lo hi X fr) (h1 : Nat.ble lo lo' = true := by rfl) (h2 : Nat.ble hi' hi = true := by rfl) : Out lo hi (JW.hv lo' hi' g X) fr :=
  ⟨fun k hk => by
    have e : (Nat.ble lo' k && Nat.blt k hi') = false := by
      have a1 := Nat.le_of_ble_eq_true h1
      have a2 := Nat.le_of_ble_eq_true h2
      rw [Bool.eq_false_iff]
      intro hb
      rw [Bool.and_eq_true, Nat.ble_eq, Nat.blt_eq] at hb
      have : (Nat.ble lo k && Nat.blt k hi) = true := by rw [Bool.and_eq_true, Nat.ble_eq, Nat.blt_eq]; omega
      rw [this] at hk; cases hk
    simp only [JW.hv, e, cond_false]; exact h.out k hk⟩
def upds : List (Nat × Value) → (Nat → Value) → (Nat → Value)
  | [], f => f
  | (d, v) :: l, f => upd (upds l f) d v
def Live (fr : Nat → Value) : List (Nat × Value) → Prop
  | [] => True
  | (d, v) :: l => fr d = v ∧ Live fr l
theorem Live.upds {fr : Nat → Value} : ∀ {l : List (Nat × Value)}, Live fr l → upds l fr = fr := by
  intro l
  induction l with
  | nil => intro _; rfl
  | cons p l ih => obtain ⟨d, v⟩ := p; rintro ⟨h1, h2⟩; simp only [JW.upds, ih h2]; exact upd_same h1
theorem Out.eq {lo hi : Nat} {fr' fr : Nat → Value} (h : Out lo hi fr' fr) : JW.hv lo hi fr' fr = fr' := by
  funext k
  simp only [JW.hv]
  cases e : (Nat.ble lo k && Nat.blt k hi) with
  | true => simp
  | false => simp [h.out k e]

theorem wrapEq {x : Int} (h1 : -9223372036854775808 ≤ x) (h2 : x ≤ 9223372036854775807) : IntKind.i64.wrap x = x := IntWalk.i64_in _ ⟨h1, h2⟩
theorem wrapEqV {x y : Int} (e : x = y) (h1 : -9223372036854775808 ≤ y) (h2 : y ≤ 9223372036854775807) : Value.int .i64 (IntKind.i64.wrap x) = .int .i64 y := by subst e; rw [wrapEq h1 h2]
theorem intV {k : IntKind} {x y : Int} (e : x = y) : Value.int k x = .int k y := by rw [e]
theorem retI {k : IntKind} {x y : Int} (e : x = y) : Ending.returned (.int k x) = .returned (.int k y) := by rw [e]
theorem retB {x y : Bool} (e : x = y) : Ending.returned (.bool x) = .returned (.bool y) := by rw [e]
/-- A ∈ K, and what is left. -/
class Take (A : HP) (K : List HP) (K' : outParam (List HP)) : Prop where
  get : ∀ {g : VH} {F : Nat → Prop}, SepIn g K F → SepIn g (A :: K') F
instance Take.tail {A B : HP} {K K' : List HP} [i : Take A K K'] : Take A (B :: K) (B :: K') where
  get h := SepIn.swap (SepIn.cons_sub (fun _ => i.get) h)
instance Take.head {A : HP} {K : List HP} : Take A (A :: K) K where
  get h := h
class Less (K K' : List HP) : Prop where
  get : ∀ {g : VH} {F : Nat → Prop}, SepIn g K F → SepIn g K' F
instance Less.nil {K : List HP} : Less K [] where
  get _ := trivial
instance Less.cons {A : HP} {K K1 K' : List HP} [i : Take A K K1] [j : Less K1 K'] : Less K (A :: K') where
  get h := SepIn.cons_sub (fun _ => j.get) (i.get h)
section
variable {P : Program} {q : Bool} {ops : Array Oper} {f : FuncId} {R : Ending → World → Prop} {k : List Item} {n : Nat} {fr : Nat → Value} {w0 : World} {M : Nat → Prop} {σ : PH} {K K' : List HP}
theorem RS.to (h : RS P f R k n fr w0 M σ K') (i : Less K K' := by infer_instance) : RS P f R k n fr w0 M σ K := ⟨fun w hw => h.out w (hw.weak fun _ => i.get)⟩
theorem LS.to {l : List Oper} (h : LS P false ops f R k l n fr w0 M σ K') (i : Less K K' := by infer_instance) : LS P false ops f R k l n fr w0 M σ K := ⟨fun w hw => h.out w (hw.weak fun _ => i.get)⟩
theorem Sat.to {w : World} (h : Sat w0 M σ K w) (i : Less K K' := by infer_instance) : Sat w0 M σ K' w := h.weak fun _ => i.get
/-- A loop. At its head the slots from lo to hi - 1 hold whatever, but 'live'. -/
theorem RS.loopF {X : Type} (lo hi : Nat) (I : X → Prop) (live : X → List (Nat × Value)) (σx : X → PH) (Kx : X → List HP) (μ : X → Nat) {c : Code} (x0 : X) (h0 : I x0) (hl : Live fr (live x0)) (hσ : σ = σx x0) (hK : Less K (Kx x0))
    (round : ∀ x g, I x → (∀ {fr' σ' K'} y, I y → μ y < μ x → Live fr' (live y) → Out lo hi fr' fr → Less K' (Kx y) → σ' = σx y → RS P f R (.inLoop c :: k) n fr' w0 M σ' K') →
      RS P f R (.code c :: .inLoop c :: k) n (upds (live x) (hv lo hi g fr)) w0 M (σx x) (Kx x)) :
    RS P f R (.code (.loop c) :: k) n fr w0 M σ K := by
  refine RS.to (K' := Kx x0) ?_ hK
  refine RS.loop (X := X × (Nat → Value)) (fun x => I x.1) (fun x => upds (live x.1) (hv lo hi x.2 fr)) (fun x => σx x.1) (fun x => Kx x.1) (fun x => μ x.1) (x0, fr) h0 ?_ hσ rfl ?_
  · simp only [(Out.refl lo hi fr).eq, hl.upds]
  · rintro ⟨x, g⟩ hI ih
    refine round x g hI fun {fr' _ _} y hy hlt hl' ho hk hs => RS.to ?_ hk
    subst hs
    have := ih (y, fr') hy hlt
    simpa only [ho.eq, hl'.upds] using this
/-- Where ways meet again, at a region's end. -/
theorem LS.cut {l : List Oper} (lo hi : Nat) (live : List (Nat × Value)) (hk : ∀ g, RS P f R k n (upds live (hv lo hi g fr)) w0 M σ K)
    (h : (∀ {fr'}, Live fr' live → Out lo hi fr' fr → RS P f R k n fr' w0 M σ K) → LS P q ops f R k l n fr w0 M σ K) : LS P q ops f R k l n fr w0 M σ K :=
  h fun {fr'} hl ho => by have := hk fr'; rwa [ho.eq, hl.upds] at this
/-- Where ways meet again, behind an item; by x: what they differ in. -/
theorem RS.cut {X : Type} {c : Item} (lo hi : Nat) (I : X → Prop) (live : X → List (Nat × Value)) (σx : X → PH) (Kx : X → List HP) (hk : ∀ x g, I x → RS P f R k n (upds (live x) (hv lo hi g fr)) w0 M (σx x) (Kx x))
    (h : (∀ {fr' σ' K'} x, I x → Live fr' (live x) → Out lo hi fr' fr → Less K' (Kx x) → σ' = σx x → RS P f R k n fr' w0 M σ' K') → RS P f R (c :: k) n fr w0 M σ K) : RS P f R (c :: k) n fr w0 M σ K :=
  h fun {fr' _ _} x hI hl ho hK hs => RS.to (by subst hs; have := hk x fr' hI; rwa [ho.eq, hl.upds] at this) hK
variable {rest : List Oper} {d : Nat} {ty : TypeId} {pos : String} {aft : Array Edge} {x y z : Operand} {t t' : TypeId}
theorem addN {a b : Int} (h : LS P q ops f R k rest n (upd fr d (.int .i64 (a + b))) w0 M σ K) (hx : ev n fr x = .int .i64 a := by rfl) (hy : ev n fr y = .int .i64 b := by rfl) (h1 : -9223372036854775808 ≤ a + b := by omega) (h2 : a + b ≤ 9223372036854775807 := by omega) :
    LS P q ops f R k (⟨some d, .binOp .add t x y t', ty, pos, aft, none⟩ :: rest) n fr w0 M σ K := addI (by rw [wrapEq h1 h2]; exact h) hx hy
theorem subN {a b : Int} (h : LS P q ops f R k rest n (upd fr d (.int .i64 (a - b))) w0 M σ K) (hx : ev n fr x = .int .i64 a := by rfl) (hy : ev n fr y = .int .i64 b := by rfl) (h1 : -9223372036854775808 ≤ a - b := by omega) (h2 : a - b ≤ 9223372036854775807 := by omega) :
    LS P q ops f R k (⟨some d, .binOp .sub t x y t', ty, pos, aft, none⟩ :: rest) n fr w0 M σ K := subI (by rw [wrapEq h1 h2]; exact h) hx hy
theorem cvN {kk : IntKind} {a : Int} [hs : TInt P t kk] [hd : TInt P t' .i64] (h : LS P q ops f R k rest n (upd fr d (.int .i64 a)) w0 M σ K) (hx : ev n fr x = .int kk a := by rfl) (h1 : -9223372036854775808 ≤ a := by omega) (h2 : a ≤ 9223372036854775807 := by omega) :
    LS P q ops f R k (⟨some d, .convert t t' x, ty, pos, aft, none⟩ :: rest) n fr w0 M σ K := cvI (by rw [wrapEq h1 h2]; exact h) hx
/-- The same with the number to be stored told by an equation: for a counter's step. -/
theorem addK {a b c : Int} (e : a + b = c) (h : LS P q ops f R k rest n (upd fr d (.int .i64 c)) w0 M σ K) (hx : ev n fr x = .int .i64 a := by rfl) (hy : ev n fr y = .int .i64 b := by rfl) (h1 : -9223372036854775808 ≤ c := by omega) (h2 : c ≤ 9223372036854775807 := by omega) :
    LS P q ops f R k (⟨some d, .binOp .add t x y t', ty, pos, aft, none⟩ :: rest) n fr w0 M σ K := by subst e; exact addN h hx hy h1 h2
theorem boolV {a b : Bool} (h : a = b) : Value.bool a = .bool b := by rw [h]
end
end Go.JW
