/- Contracts: the statements' own data, made of numbers: ends, names, sets of marks, texts. -/
import Derived.Test.YtejdccgebljmgaaFew
namespace Go.Proofs.Ytejdccgebljmgaa
open Go.JW Go.RowKit

theorem nth_int (l : List Int) (i : Nat) (h : i < l.length) : nth (l.map (Value.int .i64)) (0 + i * 1) = some (.int .i64 (l.getD i 0)) := by
  rw [nth_eq]; simp [h]
theorem nth_str (l : List ByteArray) (i : Nat) (h : i < l.length) : nth (l.map Value.string) (0 + i * 1) = some (.string (l.getD i ⟨#[]⟩)) := by
  rw [nth_eq]; simp [h]
theorem wmod (a n : Int) (hn : 0 < n) : 0 ≤ a % n ∧ a % n < n := ⟨Int.emod_nonneg a (by omega), Int.emod_lt_of_pos a hn⟩
def edges (k : Int) : List Int := [k, k, 9223372036854775807 - k, 4611686018427387903 + k, 4611686018427387903 - k, 0 - k, 1099511627776 - k, -9223372036854775808 + k]
def edge (n : Int) : Int := (edges ((n.tdiv 8) % 1000)).getD (n % 8).toNat 0
theorem edge_in (n : Int) : I64 (edge n) := by
  obtain ⟨h1, h2⟩ := wmod (n.tdiv 8) 1000 (by omega)
  obtain ⟨h3, h4⟩ := wmod n 8 (by omega)
  have h5 : (n % 8).toNat < 8 := by omega
  unfold edge edges
  revert h5
  generalize (n % 8).toNat = i
  intro h5
  have : i = 0 ∨ i = 1 ∨ i = 2 ∨ i = 3 ∨ i = 4 ∨ i = 5 ∨ i = 6 ∨ i = 7 := by omega
  rcases this with rfl | rfl | rfl | rfl | rfl | rfl | rfl | rfl <;> simp [List.getD] <;> omega
theorem edge_c (n : Int) (hn : I64 n) (w : World) : Calls Try.prog 19 #[.int .i64 n] w fun e w' => e = .returned (.int .i64 (edge n)) ∧ Below w.heap.size w w' := by
  obtain ⟨h1, h2⟩ := wmod (n.tdiv 8) 1000 (by omega)
  obtain ⟨h3, h4⟩ := wmod n 8 (by omega)
  refine RS.enter Try.func19 Try.ntmps19 rfl rfl ?_
  (repeat (first | refine RS.seq ?_ | refine RS.region ?_ | refine RS.regionQ ?_ (by kernel_rfl) (by kernel_rfl) | refine RS.skip ?_ | refine RS.inBlock ?_ | refine RS.block ?_ | refine RS.exit ?_)); refine asI ?_; refine LS.done ?_
  (repeat (first | refine RS.seq ?_ | refine RS.region ?_ | refine RS.regionQ ?_ (by kernel_rfl) (by kernel_rfl) | refine RS.skip ?_ | refine RS.inBlock ?_ | refine RS.block ?_ | refine RS.exit ?_)); refine mvI ?_; refine quoN ?_
  refine callP ?_ (hc := fun w _ => w1_c _ _ (by omega) (by omega) w)
  refine asI ?_; refine LS.done ?_
  (repeat (first | refine RS.seq ?_ | refine RS.region ?_ | refine RS.regionQ ?_ (by kernel_rfl) (by kernel_rfl) | refine RS.skip ?_ | refine RS.inBlock ?_ | refine RS.block ?_ | refine RS.exit ?_)); refine mvI ?_; refine mvI ?_; refine mvI ?_; (first | refine subN ?_ | refine subI ?_); refine mvI ?_; (first | refine addN ?_ | refine addI ?_); refine mvI ?_; (first | refine subN ?_ | refine subI ?_); refine mvI ?_; (first | refine subN ?_ | refine subI ?_); refine mvI ?_; (first | refine subN ?_ | refine subI ?_); refine mvI ?_; (first | refine addN ?_ | refine addI ?_); refine bldS [.int _ _, .int _ _, .int _ _, .int _ _, .int _ _, .int _ _, .int _ _, .int _ _] [.int _ _, .int _ _, .int _ _, .int _ _, .int _ _, .int _ _, .int _ _, .int _ _] (fun b21 => ?_); refine mvI ?_
  refine callP ?_ (hc := fun w _ => w1_c _ _ (by omega) (by omega) w)
  refine idx (i := (n % 8).toNat) ?_ (hj := by omega); refine ld1 (v := .int .i64 (edge n)) ?_ (hv := nth_int (edges ((n.tdiv 8) % 1000)) (n % 8).toNat (by simp [edges]; omega)); refine asI ?_; refine LS.done ?_
  (repeat (first | refine RS.seq ?_ | refine RS.region ?_ | refine RS.regionQ ?_ (by kernel_rfl) (by kernel_rfl) | refine RS.skip ?_ | refine RS.inBlock ?_ | refine RS.block ?_ | refine RS.exit ?_)); refine RS.ret1 (v := .int _ _) Try.func19 fun w hw => ?_
  exact ⟨rfl, hw.below⟩

def names8 : List ByteArray := [⟨#[97]⟩, ⟨#[98]⟩, ⟨#[206, 177]⟩, ⟨#[207, 137, 57]⟩, ⟨#[110, 49]⟩, ⟨#[110, 50]⟩, ⟨#[206, 178, 206, 179, 206, 180, 206, 181, 206, 182, 206, 183, 206, 184, 206, 185]⟩, ⟨#[122, 122]⟩]
def nameOf (n : Int) : ByteArray := names8.getD (n % 8).toNat ⟨#[]⟩
theorem lname_c (n : Int) (w : World) : Calls Try.prog 32 #[.int .i64 n] w fun e w' => e = .returned (.string (nameOf n)) ∧ Below w.heap.size w w' := by
  obtain ⟨h3, h4⟩ := wmod n 8 (by omega)
  refine RS.enter Try.func32 Try.ntmps32 rfl rfl ?_
  (repeat (first | refine RS.seq ?_ | refine RS.region ?_ | refine RS.regionQ ?_ (by kernel_rfl) (by kernel_rfl) | refine RS.skip ?_ | refine RS.inBlock ?_ | refine RS.block ?_ | refine RS.exit ?_)); refine asS ?_; refine LS.done ?_
  (repeat (first | refine RS.seq ?_ | refine RS.region ?_ | refine RS.regionQ ?_ (by kernel_rfl) (by kernel_rfl) | refine RS.skip ?_ | refine RS.inBlock ?_ | refine RS.block ?_ | refine RS.exit ?_)); refine bldS [.string _, .string _, .string _, .string _, .string _, .string _, .string _, .string _] [.string _, .string _, .string _, .string _, .string _, .string _, .string _, .string _] (fun b3 => ?_); refine mvI ?_
  refine callP ?_ (hc := fun w _ => w2_c _ _ (by omega) (by omega) w)
  refine idx (i := (n % 8).toNat) ?_ (hj := by omega); refine ld1 (v := .string (nameOf n)) ?_ (hv := nth_str names8 (n % 8).toNat (by simp [names8]; omega)); refine asS ?_; refine LS.done ?_
  (repeat (first | refine RS.seq ?_ | refine RS.region ?_ | refine RS.regionQ ?_ (by kernel_rfl) (by kernel_rfl) | refine RS.skip ?_ | refine RS.inBlock ?_ | refine RS.block ?_ | refine RS.exit ?_)); refine RS.ret1 (v := .string _) Try.func32 fun w hw => ?_
  exact ⟨rfl, hw.below⟩
def signs : List ByteArray := [⟨#[97]⟩, ⟨#[122]⟩, ⟨#[206, 177]⟩, ⟨#[207, 137]⟩, ⟨#[48]⟩, ⟨#[57]⟩, ⟨#[206, 178]⟩, ⟨#[109]⟩, ⟨#[65]⟩, ⟨#[207, 138]⟩, ⟨#[206]⟩, ⟨#[45]⟩, ⟨#[206, 145]⟩, ⟨#[206, 176]⟩, ⟨#[255]⟩, ⟨#[113]⟩]
def textTo (ns : List Int) : Nat → ByteArray
  | 0 => ⟨#[]⟩
  | k + 1 => textTo ns k ++ signs.getD ((ns.getD k 0) % 16).toNat ⟨#[]⟩
def textOf (ns : List Int) : ByteArray := textTo ns (min ns.length 12)
theorem signs_size (i : Nat) : (signs.getD i ⟨#[]⟩).size ≤ 2 := by
  rcases Nat.lt_or_ge i 16 with h | h
  · have : ∀ i : Fin 16, (signs.getD i.val ⟨#[]⟩).size ≤ 2 := by decide
    exact this ⟨i, h⟩
  · simp only [List.getD_eq_getElem?_getD]
    rw [List.getElem?_eq_none (by simp [signs]; omega)]; simp [ByteArray.size]
theorem textTo_size (ns : List Int) : ∀ k, (textTo ns k).size ≤ 2 * k := by
  intro k
  induction k with
  | zero => simp [textTo, ByteArray.size]
  | succ k ih => have := signs_size ((ns.getD k 0) % 16).toNat; simp only [textTo, ByteArray.size_append]; omega
theorem text_c (l : List Int) (v : Value) (w : World) (h : RepL (hp w) v l) : Calls Try.prog 18 #[v] w fun e w' => e = .returned (.string (textOf l)) ∧ Below w.heap.size w w' := by
  obtain ⟨a, cap, rfl⟩ := h.form
  have hlen : l.length ≤ 140737488355328 := h.1
  refine RS.enter Try.func18 Try.ntmps18 rfl rfl ?_
  (repeat (first | refine RS.seq ?_ | refine RS.region ?_ | refine RS.regionQ ?_ (by kernel_rfl) (by kernel_rfl) | refine RS.skip ?_ | refine RS.inBlock ?_ | refine RS.block ?_ | refine RS.exit ?_)); refine asS ?_; refine LS.done ?_
  (repeat (first | refine RS.seq ?_ | refine RS.region ?_ | refine RS.regionQ ?_ (by kernel_rfl) (by kernel_rfl) | refine RS.skip ?_ | refine RS.inBlock ?_ | refine RS.block ?_ | refine RS.exit ?_)); refine asS ?_; refine LS.done ?_
  (repeat (first | refine RS.seq ?_ | refine RS.region ?_ | refine RS.regionQ ?_ (by kernel_rfl) (by kernel_rfl) | refine RS.skip ?_ | refine RS.inBlock ?_ | refine RS.block ?_ | refine RS.exit ?_)); refine asI ?_; refine LS.done ?_
  (repeat (first | refine RS.seq ?_ | refine RS.region ?_ | refine RS.regionQ ?_ (by kernel_rfl) (by kernel_rfl) | refine RS.skip ?_ | refine RS.inBlock ?_ | refine RS.block ?_ | refine RS.exit ?_))
  refine RS.loopF (X := Nat) 3 25 (fun k => k ≤ l.length ∧ k ≤ 12) (fun k => [(3, .string (textTo l k)), (4, .int .i64 k)]) (fun _ => hp w) (fun _ => []) (fun k => l.length - k) 0 ⟨by omega, by omega⟩ ⟨rfl, rfl, trivial⟩ rfl inferInstance ?_
  rintro k g ⟨hk, hs⟩ ih
  (repeat (first | refine RS.seq ?_ | refine RS.region ?_ | refine RS.regionQ ?_ (by kernel_rfl) (by kernel_rfl) | refine RS.skip ?_ | refine RS.inBlock ?_ | refine RS.block ?_ | refine RS.exit ?_)); refine mvI ?_; refine mvL ?_; refine lenL ?_; refine ltI ?_; refine mvB ?_
  refine LS.cut 5 13 [(12, .bool (decide (k < l.length) && decide (k < 12)))] (fun g => ?_) (fun J => ?_)
  · (repeat (first | refine RS.seq ?_ | refine RS.region ?_ | refine RS.regionQ ?_ (by kernel_rfl) (by kernel_rfl) | refine RS.skip ?_ | refine RS.inBlock ?_ | refine RS.block ?_ | refine RS.exit ?_))
    by_cases hlt : k < l.length ∧ k < 12
    · refine RS.condT ?_ (h := by simp; omega)
      obtain ⟨hlt, h12⟩ := hlt
      obtain ⟨b, o, rfl, hr⟩ := h.addr (fun h => by simp [h] at hlt)
      obtain ⟨hc, hsz⟩ := hr.int k hlt
      have hts := textTo_size l k
      obtain ⟨h3, h4⟩ := wmod l[k] 16 (by omega)
      (repeat (first | refine RS.seq ?_ | refine RS.region ?_ | refine RS.regionQ ?_ (by kernel_rfl) (by kernel_rfl) | refine RS.skip ?_ | refine RS.inBlock ?_ | refine RS.block ?_ | refine RS.exit ?_)); refine mvS ?_; refine bldS [.string _, .string _, .string _, .string _, .string _, .string _, .string _, .string _, .string _, .string _, .string _, .string _, .string _, .string _, .string _, .string _] [.string _, .string _, .string _, .string _, .string _, .string _, .string _, .string _, .string _, .string _, .string _, .string _, .string _, .string _, .string _, .string _] (fun b16 => ?_); refine mvL ?_; refine mvI ?_; refine idx ?_; refine ldS hc ?_
      refine callP ?_ (hc := fun w _ => w2_c _ _ (by omega) (by omega) w)
      have hss := signs_size (l[k] % 16).toNat
      refine idx (i := (l[k] % 16).toNat) ?_ (hj := by omega); refine ld1 (v := .string (signs.getD (l[k] % 16).toNat ⟨#[]⟩)) ?_ (hv := nth_str signs (l[k] % 16).toNat (by simp [signs]; omega)); refine addS ?_; refine asS ?_; refine LS.done ?_
      (repeat (first | refine RS.seq ?_ | refine RS.region ?_ | refine RS.regionQ ?_ (by kernel_rfl) (by kernel_rfl) | refine RS.skip ?_ | refine RS.inBlock ?_ | refine RS.block ?_ | refine RS.exit ?_)); refine mvI ?_; (first | refine addN ?_ | refine addI ?_); refine asI ?_; refine LS.done ?_; (repeat (first | refine RS.seq ?_ | refine RS.region ?_ | refine RS.regionQ ?_ (by kernel_rfl) (by kernel_rfl) | refine RS.skip ?_ | refine RS.inBlock ?_ | refine RS.block ?_ | refine RS.exit ?_))
      exact ih (k + 1) ⟨hlt, h12⟩ (by omega) ⟨by simp only [textTo]; rw [show l.getD k 0 = l[k] by simp [List.getD, hlt]]; rfl, rfl, trivial⟩ (by repeat (first | with_reducible exact Out.refl _ _ _ | exact Out.hv | refine Out.upd ?_ | refine Out.hvIn ?_)) inferInstance rfl
    · refine RS.condF ?_ (h := by simp; omega)
      (repeat (first | refine RS.seq ?_ | refine RS.region ?_ | refine RS.regionQ ?_ (by kernel_rfl) (by kernel_rfl) | refine RS.skip ?_ | refine RS.inBlock ?_ | refine RS.block ?_ | refine RS.exit ?_)); refine mvS ?_; refine asS ?_; refine LS.done ?_; (repeat (first | refine RS.seq ?_ | refine RS.region ?_ | refine RS.regionQ ?_ (by kernel_rfl) (by kernel_rfl) | refine RS.skip ?_ | refine RS.inBlock ?_ | refine RS.block ?_ | refine RS.exit ?_)); refine RS.ret1 (v := .string _) Try.func18 fun w hw => ?_
      rw [textOf, show min l.length 12 = k by omega]
      exact ⟨rfl, hw.below⟩
  · refine LS.part 9 (fun g1 => ?_) (fun g1 => ?_)
    · refine LS.on ?_; refine mvI ?_; refine LS.on ?_; refine ltI ?_; refine pk (v := .bool _) ?_; refine LS.done ?_
      exact J ⟨boolV (by simp only [decide_eq_true_eq] at g1; rw [Bool.eq_iff_iff]; simp; omega), trivial⟩ (by repeat (first | with_reducible exact Out.refl _ _ _ | exact Out.hv | refine Out.upd ?_ | refine Out.hvIn ?_))
    · refine LS.off ?_; refine LS.off ?_; refine pk (v := .bool _) ?_; refine LS.done ?_
      exact J ⟨boolV (by simp only [decide_eq_false_iff_not] at g1; rw [Bool.eq_iff_iff]; simp; omega), trivial⟩ (by repeat (first | with_reducible exact Out.refl _ _ _ | exact Out.hv | refine Out.upd ?_ | refine Out.hvIn ?_))
end Go.Proofs.Ytejdccgebljmgaa
