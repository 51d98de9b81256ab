/- Contracts: the statements' own data, made of numbers: ends, names, sets of marks, texts. -/
import Derived.Test.YthnoaapghcadgaaDoorFew
namespace Go.Proofs.YthnoaapghcadgaaDoor
open Go.JW Go.RowKit

theorem nth_int (l : List Int) (i : Nat) (h : i < l.length) : nth (l.map (Value.int .i64)) (0 + i * 1) = some (.int .i64 (l.getD i 0)) := by
  rw [nth_eq]; simp [h]
theorem nth_str (l : List ByteArray) (i : Nat) (h : i < l.length) : nth (l.map Value.string) (0 + i * 1) = some (.string (l.getD i ⟨#[]⟩)) := by
  rw [nth_eq]; simp [h]
theorem wmod (a n : Int) (hn : 0 < n) : 0 ≤ a % n ∧ a % n < n := ⟨Int.emod_nonneg a (by omega), Int.emod_lt_of_pos a hn⟩
def edges (k : Int) : List Int := [k, k, 9223372036854775807 - k, 4611686018427387903 + k, 4611686018427387903 - k, 0 - k, 1099511627776 - k, -9223372036854775808 + k]
def edge (n : Int) : Int := (edges ((n.tdiv 8) % 1000)).getD (n % 8).toNat 0
theorem edge_in (n : Int) : I64 (edge n) := by
  obtain ⟨h1, h2⟩ := wmod (n.tdiv 8) 1000 (by omega)
  obtain ⟨h3, h4⟩ := wmod n 8 (by omega)
  have h5 : (n % 8).toNat < 8 := by omega
  unfold edge edges
  revert h5
  generalize (n % 8).toNat = i
  intro h5
  have : i = 0 ∨ i = 1 ∨ i = 2 ∨ i = 3 ∨ i = 4 ∨ i = 5 ∨ i = 6 ∨ i = 7 := by omega
  rcases this with rfl | rfl | rfl | rfl | rfl | rfl | rfl | rfl <;> simp [List.getD] <;> omega
def names8 : List ByteArray := [⟨#[97]⟩, ⟨#[98]⟩, ⟨#[206, 177]⟩, ⟨#[207, 137, 57]⟩, ⟨#[110, 49]⟩, ⟨#[110, 50]⟩, ⟨#[206, 178, 206, 179, 206, 180, 206, 181, 206, 182, 206, 183, 206, 184, 206, 185]⟩, ⟨#[122, 122]⟩]
def nameOf (n : Int) : ByteArray := names8.getD (n % 8).toNat ⟨#[]⟩
theorem lname_c (n : Int) (w : World) : Calls Tryd.prog 42 #[.int .i64 n] w fun e w' => e = .returned (.string (nameOf n)) ∧ Below w.heap.size w w' := by
  obtain ⟨h3, h4⟩ := wmod n 8 (by omega)
  refine RS.enter Tryd.func42 Tryd.ntmps42 rfl rfl ?_
  (repeat (first | refine RS.seq ?_ | refine RS.region ?_ | refine RS.regionQ ?_ (by kernel_rfl) (by kernel_rfl) | refine RS.skip ?_ | refine RS.inBlock ?_ | refine RS.block ?_ | refine RS.exit ?_)); refine asS ?_; refine LS.done ?_
  (repeat (first | refine RS.seq ?_ | refine RS.region ?_ | refine RS.regionQ ?_ (by kernel_rfl) (by kernel_rfl) | refine RS.skip ?_ | refine RS.inBlock ?_ | refine RS.block ?_ | refine RS.exit ?_)); refine bldS [.string _, .string _, .string _, .string _, .string _, .string _, .string _, .string _] [.string _, .string _, .string _, .string _, .string _, .string _, .string _, .string _] (fun b3 => ?_); refine mvI ?_
  refine callP ?_ (hc := fun w _ => w2_c _ _ (by omega) (by omega) w)
  refine idx (i := (n % 8).toNat) ?_ (hj := by omega); refine ld1 (v := .string (nameOf n)) ?_ (hv := nth_str names8 (n % 8).toNat (by simp [names8]; omega)); refine asS ?_; refine LS.done ?_
  (repeat (first | refine RS.seq ?_ | refine RS.region ?_ | refine RS.regionQ ?_ (by kernel_rfl) (by kernel_rfl) | refine RS.skip ?_ | refine RS.inBlock ?_ | refine RS.block ?_ | refine RS.exit ?_)); refine RS.ret1 (v := .string _) Tryd.func42 fun w hw => ?_
  exact ⟨rfl, hw.below⟩
end Go.Proofs.YthnoaapghcadgaaDoor
