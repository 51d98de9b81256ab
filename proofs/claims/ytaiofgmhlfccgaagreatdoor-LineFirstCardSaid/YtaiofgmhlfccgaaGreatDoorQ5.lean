/- The base of the walks: rules, contracts, plain laws, part 5. -/
import Derived.Test.YtaiofgmhlfccgaaGreatDoorQ4
namespace Go.Proofs.YtaiofgmhlfccgaaGreatDoor
open Go.JW Go.RowKit
theorem dig1_eq {n : Int} (h0 : 0 ≤ n) (h1 : n < 10) : List.foldl (fun (r : ByteArray) (n : Int) => r.push (UInt8.ofNat n.toNat)) ByteArray.empty [IntKind.u8.wrap (48 + n)] = B (digN n.toNat) := by
  have : ∀ i : Fin 10, List.foldl (fun (r : ByteArray) (n : Int) => r.push (UInt8.ofNat n.toNat)) ByteArray.empty [IntKind.u8.wrap (48 + (i.val : Int))] = B (digN i.val) := by decide +kernel
  have := this ⟨n.toNat, by omega⟩
  simpa [show ((n.toNat : Nat) : Int) = n by omega] using this
theorem digits1_x (n : Int) (h0 : 0 ≤ n) (h1 : n < 10) (w : World) : Calls Tryz.prog 25 #[.int .i64 n] w fun e w' => e = .returned (.string (B (digN n.toNat))) ∧ Below w.heap.size w w' := by
  refine RS.enter Tryz.func25 Tryz.ntmps25 rfl rfl ?_
  (repeat (first | refine zS ?_ | refine zR ?_ | refine zQ ?_ | refine zK ?_ | refine zI ?_ | refine zB ?_ | refine zE ?_)); refine asS ?_; refine LS.done ?_
  (repeat (first | refine zS ?_ | refine zR ?_ | refine zQ ?_ | refine zK ?_ | refine zI ?_ | refine zB ?_ | refine zE ?_)); refine mvI ?_; refine ltI ?_; refine LS.done ?_
  (repeat (first | refine zS ?_ | refine zR ?_ | refine zQ ?_ | refine zK ?_ | refine zI ?_ | refine zB ?_ | refine zE ?_))
  refine RS.condF ?_ (h := by simp; omega)
  (repeat (first | refine zS ?_ | refine zR ?_ | refine zQ ?_ | refine zK ?_ | refine zI ?_ | refine zB ?_ | refine zE ?_)); refine mvI ?_; refine geI ?_; refine LS.done ?_
  (repeat (first | refine zS ?_ | refine zR ?_ | refine zQ ?_ | refine zK ?_ | refine zI ?_ | refine zB ?_ | refine zE ?_))
  refine RS.condF ?_ (h := by simp; omega)
  (repeat (first | refine zS ?_ | refine zR ?_ | refine zQ ?_ | refine zK ?_ | refine zI ?_ | refine zB ?_ | refine zE ?_)); refine mvI ?_; (first | refine addN ?_ | refine addI ?_); refine cvI ?_; refine bldS [.int _ _] [.int _ _] (fun b21 => ?_); refine b2sB [IntKind.u8.wrap (48 + n)] ?_; refine asS ?_; refine LS.done ?_
  (repeat (first | refine zS ?_ | refine zR ?_ | refine zQ ?_ | refine zK ?_ | refine zI ?_ | refine zB ?_ | refine zE ?_)); refine RS.ret1 (v := .string _) Tryz.func25 fun w hw => ?_
  exact ⟨by rw [← dig1_eq h0 h1], hw.below⟩
theorem digits_k : ∀ (k : Nat) (n : Int), 0 ≤ n → n < 10 ^ k → n ≤ 9223372036854775807 → ∀ w : World, Calls Tryz.prog 25 #[.int .i64 n] w fun e w' => e = .returned (.string (B (digN n.toNat))) ∧ Below w.heap.size w w' := by
  intro k
  induction k with
  | zero => intro n h0 h1 _ w; exact digits1_x n h0 (by have h1 : n < 1 := h1; omega) w
  | succ k ih =>
    intro n h0 h1 hk w
    by_cases h10 : n < 10
    · exact digits1_x n h0 h10 w
    have hp : (10 : Int) ^ (k + 1) = 10 ^ k * 10 := Int.pow_succ ..
    have hN : n.toNat < 10 ^ 19 := by have : (10 : Nat) ^ 19 = 10000000000000000000 := rfl; omega
    have hq : n.tdiv 10 = n / 10 := by rw [Int.tdiv_eq_ediv_of_nonneg h0]
    have hm : n.tmod 10 = n % 10 := by rw [Int.tmod_eq_emod_of_nonneg h0]
    have hq1 : (n / 10).toNat < 10 ^ 19 := by have : (10 : Nat) ^ 19 = 10000000000000000000 := rfl; omega
    have e1 := digN_len (n / 10).toNat
    have e2 := digN_len (n % 10).toNat
    have s1 : (B (digN (n / 10).toNat)).size = (digN (n / 10).toNat).length := B_size _
    have s2 : (B (digN (n % 10).toNat)).size = (digN (n % 10).toNat).length := B_size _
    refine RS.enter Tryz.func25 Tryz.ntmps25 rfl rfl ?_
    (repeat (first | refine zS ?_ | refine zR ?_ | refine zQ ?_ | refine zK ?_ | refine zI ?_ | refine zB ?_ | refine zE ?_)); refine asS ?_; refine LS.done ?_
    (repeat (first | refine zS ?_ | refine zR ?_ | refine zQ ?_ | refine zK ?_ | refine zI ?_ | refine zB ?_ | refine zE ?_)); refine mvI ?_; refine ltI ?_; refine LS.done ?_
    (repeat (first | refine zS ?_ | refine zR ?_ | refine zQ ?_ | refine zK ?_ | refine zI ?_ | refine zB ?_ | refine zE ?_))
    refine RS.condF ?_ (h := by simp; omega)
    (repeat (first | refine zS ?_ | refine zR ?_ | refine zQ ?_ | refine zK ?_ | refine zI ?_ | refine zB ?_ | refine zE ?_)); refine mvI ?_; refine geI ?_; refine LS.done ?_
    (repeat (first | refine zS ?_ | refine zR ?_ | refine zQ ?_ | refine zK ?_ | refine zI ?_ | refine zB ?_ | refine zE ?_))
    refine RS.condT ?_ (h := by simp; omega)
    (repeat (first | refine zS ?_ | refine zR ?_ | refine zQ ?_ | refine zK ?_ | refine zI ?_ | refine zB ?_ | refine zE ?_)); refine mvI ?_; refine quoN ?_
    rw [hq]
    refine callP ?_ (hc := fun w' _ => ih (n / 10) (by omega) (by omega) (by omega) w')
    refine mvI ?_; refine remI ?_
    rw [hm]
    refine callP ?_ (hc := fun w' _ => digits1_x (n % 10) (by omega) (by omega) w')
    refine addS ?_; refine asS ?_; refine LS.done ?_
    (repeat (first | refine zS ?_ | refine zR ?_ | refine zQ ?_ | refine zK ?_ | refine zI ?_ | refine zB ?_ | refine zE ?_)); refine RS.ret1 (v := .string _) Tryz.func25 fun w hw => ?_
    refine ⟨?_, hw.below⟩
    rw [B_add, digN_step (n := n.toNat) (by omega) hN, show n.toNat / 10 = (n / 10).toNat by omega, show n.toNat % 10 = (n % 10).toNat by omega]
theorem digits_x (n : Int) (h : 0 ≤ n ∧ n ≤ 9223372036854775807) (w : World) : Calls Tryz.prog 25 #[.int .i64 n] w fun e w' => e = .returned (.string (B (digN n.toNat))) ∧ Below w.heap.size w w' :=
  digits_k 19 n h.1 (by have : (10 : Int) ^ 19 = 10000000000000000000 := rfl; omega) h.2 w
abbrev veR (b : Nat) (c m : Int) : HP := blk b (.cells (List.toArray [.int .i64 c, .int .i64 m]) 25 (0, 0))
theorem vecT_x (c m : Int) (hc : 0 ≤ c ∧ c ≤ 9223372036854775807) (hm : 0 ≤ m ∧ m ≤ 9223372036854775807) (w : World) : Calls Tryz.prog 54 #[.agg (List.toArray [.int .i64 c, .int .i64 m])] w fun e w' => e = .returned (.string (B (vecT c m))) ∧ Below w.heap.size w w' := by
  have e1 := digN_len c.toNat
  have e2 := digN_len m.toNat
  have s1 : (B (digN c.toNat)).size = (digN c.toNat).length := B_size _
  have s2 : (B (digN m.toNat)).size = (digN m.toNat).length := B_size _
  have s3 : (⟨#[44]⟩ : ByteArray).size = 1 := rfl
  have s4 : (B (digN c.toNat) ++ (⟨#[44]⟩ : ByteArray)).size = (digN c.toNat).length + 1 := by rw [ByteArray.size_append, s1, s3]
  refine RS.enter Tryz.func54 Tryz.ntmps54 rfl rfl ?_
  (repeat (first | refine zS ?_ | refine zR ?_ | refine zQ ?_ | refine zK ?_ | refine zI ?_ | refine zB ?_ | refine zE ?_)); refine box_ (v := .agg _) (cs := [_, _]) (fun b1 => ?_); refine asS ?_; refine LS.done ?_
  (repeat (first | refine RS.seq ?_ | refine RS.region ?_ | refine RS.skip ?_ | refine RS.inBlock ?_ | refine RS.block ?_ | refine RS.exit ?_)); refine RS.draw [.free, .ex, .ex, .free, .free, .ex, .ex, .free, .free] [veR b1 c m] ?_ (by kernel_rfl) (by kernel_rfl) (by infer_instance); refine D.fld ?_; refine D.ld1 (v := .int .i64 c) ?_
  refine D.callP ?_ (hc := fun _ _ w hle _ hw => digits_x c hc w)
  refine D.addS ?_; refine D.fld ?_; refine D.ld1 (v := .int .i64 m) ?_
  refine D.callP ?_ (hc := fun _ _ w hle _ hw => digits_x m hm w)
  refine D.addS ?_; refine D.asS ?_; refine D.done (fun us σ1 hle1 hfs => ?_)
  (repeat (first | refine zS ?_ | refine zR ?_ | refine zQ ?_ | refine zK ?_ | refine zI ?_ | refine zB ?_ | refine zE ?_)); refine RS.ret1 (v := .string _) Tryz.func54 fun w hw => ?_
  exact ⟨by rw [show (⟨#[44]⟩ : ByteArray) = B [44] from rfl, B_add, B_add]; unfold vecT; simp, hw.below⟩
theorem rowT_x (c : UInt8) (l : List ByteArray) (v : Value) (w : World) (h : RepL (hp w) v l) (hb : l.length ≤ 1000) : Calls Tryz.prog 93 #[.string (B [c]), v] w fun e w' => e = .returned (.string (B (signedT c (l.map bs)))) ∧ Below w.heap.size w w' := by
  obtain ⟨a, cap, rfl⟩ := h.form
  refine RS.enter Tryz.func93 Tryz.ntmps93 rfl rfl ?_
  (repeat (first | refine zS ?_ | refine zR ?_ | refine zQ ?_ | refine zK ?_ | refine zI ?_ | refine zB ?_ | refine zE ?_)); refine asS ?_; refine LS.done ?_
  (repeat (first | refine zS ?_ | refine zR ?_ | refine zQ ?_ | refine zK ?_ | refine zI ?_ | refine zB ?_ | refine zE ?_)); refine asS ?_; refine LS.done ?_
  (repeat (first | refine zS ?_ | refine zR ?_ | refine zQ ?_ | refine zK ?_ | refine zI ?_ | refine zB ?_ | refine zE ?_)); refine asI ?_; refine LS.done ?_
  (repeat (first | refine zS ?_ | refine zR ?_ | refine zQ ?_ | refine zK ?_ | refine zI ?_ | refine zB ?_ | refine zE ?_))
  refine RS.loopF (X := Nat) 5 21 (fun k => k ≤ l.length ∧ (signedT c ((l.take k).map bs)).length ≤ k * 140737488355329) (fun k => [(5, .string (B (signedT c ((l.take k).map bs)))), (6, .int .i64 k)]) (fun _ => hp w) (fun _ => []) (fun k => l.length - k) 0 ⟨by omega, by simp [signedT]⟩ ⟨rfl, rfl, trivial⟩ rfl inferInstance ?_
  rintro k g ⟨h1, h2⟩ ih
  (repeat (first | refine zS ?_ | refine zR ?_ | refine zQ ?_ | refine zK ?_ | refine zI ?_ | refine zB ?_ | refine zE ?_)); refine mvI ?_; refine mvL ?_; refine lenL ?_; refine ltI ?_; refine LS.done ?_
  (repeat (first | refine zS ?_ | refine zR ?_ | refine zQ ?_ | refine zK ?_ | refine zI ?_ | refine zB ?_ | refine zE ?_))
  by_cases hlt : k < l.length
  · refine RS.condT ?_ (h := by simp; omega)
    obtain ⟨b, o, rfl, hr⟩ := h.addr (fun e => by simp [e] at hlt)
    obtain ⟨hc, hin⟩ := hr.str k hlt
    obtain ⟨x, hx⟩ : ∃ x, x = l[k] := ⟨_, rfl⟩
    rw [← hx] at hc hin
    have hxl := bs_len x
    have htk : signedT c ((l.take (k + 1)).map bs) = signedT c ((l.take k).map bs) ++ c :: bs x := by rw [List.take_add_one, List.getElem?_eq_getElem hlt, ← hx, List.map_append]; exact signedT_snoc _ _ _
    have s1 : (B [c]).size = 1 := rfl
    have s3 := B_size (signedT c ((l.take k).map bs))
    have s2 : (B (signedT c ((l.take k).map bs)) ++ B [c]).size = (signedT c ((l.take k).map bs)).length + 1 := by rw [ByteArray.size_append, s1, s3]
    (repeat (first | refine zS ?_ | refine zR ?_ | refine zQ ?_ | refine zK ?_ | refine zI ?_ | refine zB ?_ | refine zE ?_)); refine mvS ?_; refine mvS ?_; refine addS ?_; refine mvL ?_; refine mvI ?_; refine idx (i := k) ?_; refine ldS hc ?_; refine addS ?_; refine asS ?_; refine LS.done ?_
    rw [show B (signedT c ((l.take k).map bs)) ++ B [c] ++ x = B (signedT c ((l.take (k + 1)).map bs)) by rw [htk, ← B_bs x, B_add, B_add, B_bs]; simp]
    (repeat (first | refine zS ?_ | refine zR ?_ | refine zQ ?_ | refine zK ?_ | refine zI ?_ | refine zB ?_ | refine zE ?_)); refine mvI ?_; (first | refine addN ?_ | refine addI ?_); refine asI ?_; refine LS.done ?_; (repeat (first | refine zS ?_ | refine zR ?_ | refine zQ ?_ | refine zK ?_ | refine zI ?_ | refine zB ?_ | refine zE ?_))
    exact ih (k + 1) ⟨hlt, by rw [htk, List.length_append, List.length_cons, hxl]; omega⟩ (by omega) ⟨rfl, rfl, trivial⟩ (by repeat (first | with_reducible exact Out.refl _ _ _ | exact Out.hv | refine Out.upd ?_ | refine Out.hvIn ?_)) inferInstance rfl
  · refine RS.condF ?_ (h := by simp; omega)
    obtain rfl : k = l.length := by omega
    rw [List.take_length]
    (repeat (first | refine zS ?_ | refine zR ?_ | refine zQ ?_ | refine zK ?_ | refine zI ?_ | refine zB ?_ | refine zE ?_)); refine mvS ?_; refine asS ?_; refine LS.done ?_; (repeat (first | refine zS ?_ | refine zR ?_ | refine zQ ?_ | refine zK ?_ | refine zI ?_ | refine zB ?_ | refine zE ?_)); refine RS.ret1 (v := .string _) Tryz.func93 fun w hw => ?_
    exact ⟨rfl, hw.below⟩
theorem flagT_x (z : Bool) (w : World) : Calls Tryz.prog 55 #[.bool z] w fun e w' => e = .returned (.string (B (flagT z))) ∧ Below w.heap.size w w' := by
  refine RS.enter Tryz.func55 Tryz.ntmps55 rfl rfl ?_
  (repeat (first | refine zS ?_ | refine zR ?_ | refine zQ ?_ | refine zK ?_ | refine zI ?_ | refine zB ?_ | refine zE ?_)); refine asS ?_; refine LS.done ?_
  (repeat (first | refine zS ?_ | refine zR ?_ | refine zQ ?_ | refine zK ?_ | refine zI ?_ | refine zB ?_ | refine zE ?_)); refine mvB ?_; refine LS.done ?_
  (repeat (first | refine zS ?_ | refine zR ?_ | refine zQ ?_ | refine zK ?_ | refine zI ?_ | refine zB ?_ | refine zE ?_))
  cases z with
  | true => refine RS.condT ?_
            (repeat (first | refine zS ?_ | refine zR ?_ | refine zQ ?_ | refine zK ?_ | refine zI ?_ | refine zB ?_ | refine zE ?_)); refine asS ?_; refine LS.done ?_; (repeat (first | refine zS ?_ | refine zR ?_ | refine zQ ?_ | refine zK ?_ | refine zI ?_ | refine zB ?_ | refine zE ?_)); refine RS.ret1 (v := .string _) Tryz.func55 fun w hw => ?_
            exact ⟨rfl, hw.below⟩
  | false => refine RS.condF ?_
             (repeat (first | refine zS ?_ | refine zR ?_ | refine zQ ?_ | refine zK ?_ | refine zI ?_ | refine zB ?_ | refine zE ?_)); refine asS ?_; refine LS.done ?_; (repeat (first | refine zS ?_ | refine zR ?_ | refine zQ ?_ | refine zK ?_ | refine zI ?_ | refine zB ?_ | refine zE ?_)); refine RS.ret1 (v := .string _) Tryz.func55 fun w hw => ?_
             exact ⟨rfl, hw.below⟩
theorem nums_x (l : List Int) (v : Value) (w : World) (h : RepL (hp w) v l) (hb : l.length ≤ 1000) (hi : ∀ x ∈ l, 0 ≤ x ∧ x ≤ 9223372036854775807) : Calls Tryz.prog 53 #[v] w fun e w' => e = .returned (.string (B (peersT l))) ∧ Below w.heap.size w w' := by
  obtain ⟨a, cap, rfl⟩ := h.form
  refine RS.enter Tryz.func53 Tryz.ntmps53 rfl rfl ?_
  (repeat (first | refine zS ?_ | refine zR ?_ | refine zQ ?_ | refine zK ?_ | refine zI ?_ | refine zB ?_ | refine zE ?_)); refine asS ?_; refine LS.done ?_
  (repeat (first | refine zS ?_ | refine zR ?_ | refine zQ ?_ | refine zK ?_ | refine zI ?_ | refine zB ?_ | refine zE ?_)); refine asS ?_; refine LS.done ?_
  (repeat (first | refine zS ?_ | refine zR ?_ | refine zQ ?_ | refine zK ?_ | refine zI ?_ | refine zB ?_ | refine zE ?_)); refine asI ?_; refine LS.done ?_
  (repeat (first | refine zS ?_ | refine zR ?_ | refine zQ ?_ | refine zK ?_ | refine zI ?_ | refine zB ?_ | refine zE ?_))
  refine RS.loopF (X := Nat) 3 22 (fun k => k ≤ l.length) (fun k => [(3, .string (B (peersT (l.take k)))), (4, .int .i64 k)]) (fun _ => hp w) (fun _ => []) (fun k => l.length - k) 0 (Nat.zero_le _) ⟨rfl, rfl, trivial⟩ rfl inferInstance ?_
  rintro k g h1 ih
  (repeat (first | refine zS ?_ | refine zR ?_ | refine zQ ?_ | refine zK ?_ | refine zI ?_ | refine zB ?_ | refine zE ?_)); refine mvI ?_; refine mvL ?_; refine lenL ?_; refine ltI ?_; refine LS.done ?_
  (repeat (first | refine zS ?_ | refine zR ?_ | refine zQ ?_ | refine zK ?_ | refine zI ?_ | refine zB ?_ | refine zE ?_))
  by_cases hlt : k < l.length
  · refine RS.condT ?_ (h := by simp; omega)
    obtain ⟨b, o, rfl, hr⟩ := h.addr (fun e => by simp [e] at hlt)
    obtain ⟨hc, hin⟩ := hr.int k hlt
    obtain ⟨x, hx⟩ : ∃ x, x = l[k] := ⟨_, rfl⟩
    rw [← hx] at hc hin
    have hx0 := hi x (by rw [hx]; exact List.getElem_mem _)
    have htk : l.take (k + 1) = l.take k ++ [x] := by rw [List.take_add_one, List.getElem?_eq_getElem hlt, ← hx]; rfl
    have s1 : (⟨#[44]⟩ : ByteArray).size = 1 := rfl
    have s3 : (B (peersT (l.take k))).size = (peersT (l.take k)).length := B_size _
    have s4 := peersT_size (l.take k)
    rw [List.length_take] at s4
    have s5 := digN_len x.toNat
    have s6 : (B (digN x.toNat)).size = (digN x.toNat).length := B_size _
    (repeat (first | refine zS ?_ | refine zR ?_ | refine zQ ?_ | refine zK ?_ | refine zI ?_ | refine zB ?_ | refine zE ?_)); refine mvI ?_; refine gtI ?_; refine LS.done ?_
    (repeat (first | refine zS ?_ | refine zR ?_ | refine zQ ?_ | refine zK ?_ | refine zI ?_ | refine zB ?_ | refine zE ?_))
    refine RS.cond (fun z => ?_) (fun z => ?_)
    · have z : 0 < (k : Int) := of_decide_eq_true z
      have hne : l.take k ≠ [] := fun e => by have := congrArg List.length e; rw [List.length_take, List.length_nil] at this; omega
      have s2 : (B (peersT (l.take k)) ++ (⟨#[44]⟩ : ByteArray)).size = (peersT (l.take k)).length + 1 := by rw [ByteArray.size_append, s3, s1]
      (repeat (first | refine zS ?_ | refine zR ?_ | refine zQ ?_ | refine zK ?_ | refine zI ?_ | refine zB ?_ | refine zE ?_)); refine mvS ?_; refine addS ?_; refine asS ?_; refine LS.done ?_
      (repeat (first | refine zS ?_ | refine zR ?_ | refine zQ ?_ | refine zK ?_ | refine zI ?_ | refine zB ?_ | refine zE ?_))
      (repeat (first | refine zS ?_ | refine zR ?_ | refine zQ ?_ | refine zK ?_ | refine zI ?_ | refine zB ?_ | refine zE ?_)); refine mvS ?_; refine mvL ?_; refine mvI ?_; refine idx (i := k) ?_; refine ldS hc ?_
      refine callP ?_ (hc := fun w' _ => digits_x x hx0 w')
      refine addS ?_; refine asS ?_; refine LS.done ?_
      rw [show B (peersT (l.take k)) ++ (⟨#[44]⟩ : ByteArray) ++ B (digN x.toNat) = B (peersT (l.take (k + 1))) by rw [htk, peersT_app _ _ hne, show (⟨#[44]⟩ : ByteArray) = B [44] from rfl, B_add, B_add]; simp]
      (repeat (first | refine zS ?_ | refine zR ?_ | refine zQ ?_ | refine zK ?_ | refine zI ?_ | refine zB ?_ | refine zE ?_)); refine mvI ?_; (first | refine addN ?_ | refine addI ?_); refine asI ?_; refine LS.done ?_; (repeat (first | refine zS ?_ | refine zR ?_ | refine zQ ?_ | refine zK ?_ | refine zI ?_ | refine zB ?_ | refine zE ?_))
      exact ih (k + 1) hlt (by omega) ⟨rfl, rfl, trivial⟩ (by repeat (first | with_reducible exact Out.refl _ _ _ | exact Out.hv | refine Out.upd ?_ | refine Out.hvIn ?_)) inferInstance rfl
    · have z : ¬ 0 < (k : Int) := of_decide_eq_false z
      obtain rfl : k = 0 := by omega
      (repeat (first | refine zS ?_ | refine zR ?_ | refine zQ ?_ | refine zK ?_ | refine zI ?_ | refine zB ?_ | refine zE ?_))
      (repeat (first | refine zS ?_ | refine zR ?_ | refine zQ ?_ | refine zK ?_ | refine zI ?_ | refine zB ?_ | refine zE ?_)); refine mvS ?_; refine mvL ?_; refine mvI ?_; refine idx (i := 0) ?_; refine ldS hc ?_
      refine callP ?_ (hc := fun w' _ => digits_x x hx0 w')
      refine addS ?_; refine asS ?_; refine LS.done ?_
      rw [show B (peersT (l.take 0)) ++ B (digN x.toNat) = B (peersT (l.take (0 + 1))) by rw [htk, B_add]; simp [peersT, commaT]]
      (repeat (first | refine zS ?_ | refine zR ?_ | refine zQ ?_ | refine zK ?_ | refine zI ?_ | refine zB ?_ | refine zE ?_)); refine mvI ?_; (first | refine addN ?_ | refine addI ?_); refine asI ?_; refine LS.done ?_; (repeat (first | refine zS ?_ | refine zR ?_ | refine zQ ?_ | refine zK ?_ | refine zI ?_ | refine zB ?_ | refine zE ?_))
      exact ih (0 + 1) hlt (by omega) ⟨rfl, rfl, trivial⟩ (by repeat (first | with_reducible exact Out.refl _ _ _ | exact Out.hv | refine Out.upd ?_ | refine Out.hvIn ?_)) inferInstance rfl
  · refine RS.condF ?_ (h := by simp; omega)
    obtain rfl : k = l.length := by omega
    rw [List.take_length]
    (repeat (first | refine zS ?_ | refine zR ?_ | refine zQ ?_ | refine zK ?_ | refine zI ?_ | refine zB ?_ | refine zE ?_)); refine mvS ?_; refine asS ?_; refine LS.done ?_; (repeat (first | refine zS ?_ | refine zR ?_ | refine zQ ?_ | refine zK ?_ | refine zI ?_ | refine zB ?_ | refine zE ?_)); refine RS.ret1 (v := .string _) Tryz.func53 fun w hw => ?_
    exact ⟨rfl, hw.below⟩
end Go.Proofs.YtaiofgmhlfccgaaGreatDoor
namespace Go.Proofs.YtaiofgmhlfccgaaGreatDoor
open Go.JW Go.RowKit
abbrev noB (b : Nat) (n : NodeD) (vm vt : Value) : HP := blk b (.cells (List.toArray [.string n.name, .int .i64 n.cpu, .int .i64 n.mem, vm, vt, .bool n.closed]) 28 (0, 0))
abbrev plZ (b : Nat) (p : PlaceD) : HP := blk b (.cells (List.toArray [.string p.pod, .string p.node, .int .i64 p.cpu, .int .i64 p.mem, .bool p.alone]) 40 (0, 0))
theorem nodeT_x (n : NodeD) (am at_ : Option Addr) (cm ct : Nat) (w : World) (hrep : Rep.rep (hp w) (nodeC n (.slice am n.marks.length cm) (.slice at_ n.taints.length ct)) n) (hne : nodeErr n = 0) :
    Calls Tryz.prog 52 #[.agg (List.toArray (nodeC n (.slice am n.marks.length cm) (.slice at_ n.taints.length ct)))] w fun e w' => e = .returned (.string (B (nodeT n))) ∧ Below w.heap.size w w' := by
  obtain ⟨_, _, hcs, h3, h4, h5, hm, ht⟩ := hrep
  simp only [nodeC, List.cons.injEq, true_and, and_true] at hcs
  obtain ⟨rfl, rfl⟩ := hcs
  obtain ⟨c1, c2⟩ := (node_ok hne).vec
  have hms : isSet n.marks = true ∧ isSet n.taints = true := by
    unfold nodeErr at hne
    split at hne
    · cases hne
    · split at hne
      · cases hne
      · split at hne
        · cases hne
        · rename_i hs; simpa only [Bool.or_eq_true, Bool.not_eq_true', not_or, Bool.not_eq_false] using hs
  obtain ⟨l1, q1⟩ := isSet_size hms.1
  obtain ⟨l2, q2⟩ := isSet_size hms.2
  have d1 := signedT_size 43 n.marks q1
  have d2 := signedT_size 126 n.taints q2
  have d3 := vecT_len n.cpu n.mem
  have d4 := flagT_size n.closed
  have s58 : (⟨#[58]⟩ : ByteArray).size = 1 := rfl
  have e0 := B_size (vecT n.cpu n.mem)
  have e1 := B_size (signedT 43 (n.marks.map bs))
  have e2 := B_size (signedT 126 (n.taints.map bs))
  have e3 := B_size (flagT n.closed)
  have z1 : n.name.size + (⟨#[58]⟩ : ByteArray).size ≤ 9223372036854775807 := by omega
  have z2 : (n.name ++ ⟨#[58]⟩).size + (B (vecT n.cpu n.mem)).size ≤ 9223372036854775807 := by simp only [ByteArray.size_append]; omega
  have z3 : (n.name ++ ⟨#[58]⟩ ++ B (vecT n.cpu n.mem)).size + (B (signedT 43 (n.marks.map bs))).size ≤ 9223372036854775807 := by simp only [ByteArray.size_append]; omega
  have z4 : (n.name ++ ⟨#[58]⟩ ++ B (vecT n.cpu n.mem) ++ B (signedT 43 (n.marks.map bs))).size + (B (signedT 126 (n.taints.map bs))).size ≤ 9223372036854775807 := by simp only [ByteArray.size_append]; omega
  have z5 : (n.name ++ ⟨#[58]⟩ ++ B (vecT n.cpu n.mem) ++ B (signedT 43 (n.marks.map bs)) ++ B (signedT 126 (n.taints.map bs))).size + (B (flagT n.closed)).size ≤ 9223372036854775807 := by simp only [ByteArray.size_append]; omega
  have hfin : n.name ++ ⟨#[58]⟩ ++ B (vecT n.cpu n.mem) ++ B (signedT 43 (n.marks.map bs)) ++ B (signedT 126 (n.taints.map bs)) ++ B (flagT n.closed) = B (nodeT n) := by
    rw [show (⟨#[58]⟩ : ByteArray) = B [58] from rfl, ← B_bs n.name, B_add, B_add, B_add, B_add, B_add]
    unfold nodeT; simp
  refine RS.enter Tryz.func52 Tryz.ntmps52 rfl rfl ?_
  (repeat (first | refine zS ?_ | refine zR ?_ | refine zQ ?_ | refine zK ?_ | refine zI ?_ | refine zB ?_ | refine zE ?_)); refine box_ (v := .agg _) (cs := [_, _, _, _, _, _]) (fun b1 => ?_); refine asS ?_; refine LS.done ?_
  (repeat (first | refine RS.seq ?_ | refine RS.region ?_ | refine RS.skip ?_ | refine RS.inBlock ?_ | refine RS.block ?_ | refine RS.exit ?_)); refine RS.draw [.free, .ex, .free, .free, .ex, .ex, .free, .free, .ex, .ex, .free, .free, .ex, .ex, .free, .free, .ex, .ex, .free, .free] [noB b1 n (.slice am n.marks.length cm) (.slice at_ n.taints.length ct)] ?_ (by kernel_rfl) (by kernel_rfl) (by infer_instance); refine D.fld ?_; refine D.ld1 (v := .string n.name) ?_; refine D.addS ?_ (hs := z1); refine D.fld ?_; refine D.ldA [.int .i64 n.cpu, .int .i64 n.mem] ?_
  refine D.callP ?_ (hc := fun _ _ w hle _ hw => vecT_x _ _ ⟨by omega, by omega⟩ ⟨by omega, by omega⟩ w)
  refine D.addS ?_ (hs := z2); refine D.fld ?_; refine D.ld1 (v := .slice am n.marks.length cm) ?_
  refine D.callP ?_ (hc := fun _ _ w hle _ hw => rowT_x 43 n.marks _ w (hm.mono (PH.le_trans hle hw.imm)) (by omega))
  refine D.addS ?_ (hs := z3); refine D.fld ?_; refine D.ld1 (v := .slice at_ n.taints.length ct) ?_
  refine D.callP ?_ (hc := fun _ _ w hle _ hw => rowT_x 126 n.taints _ w (ht.mono (PH.le_trans hle hw.imm)) (by omega))
  refine D.addS ?_ (hs := z4); refine D.fld ?_; refine D.ld1 (v := .bool n.closed) ?_
  refine D.callP ?_ (hc := fun _ _ w hle _ hw => flagT_x _ w)
  refine D.addS ?_ (hs := z5); rw [hfin]; refine D.asS ?_; refine D.done (fun us σ1 hle1 hfs => ?_)
  refine RS.ow ?_
  (repeat (first | refine zS ?_ | refine zR ?_ | refine zQ ?_ | refine zK ?_ | refine zI ?_ | refine zB ?_ | refine zE ?_)); refine RS.ret1 (v := .string _) Tryz.func52 fun w hw => ?_
  exact ⟨rfl, hw.below⟩
theorem textP1 {r : RecD} (h : r.kind = 1) : textP r = [110, 111, 100, 101, 32] ++ nodeT r.node := by unfold textP textW; rw [if_pos h]; rfl
theorem textP2 {r : RecD} (h : r.kind = 2) : textP r = [103, 111, 110, 101, 32] ++ bs r.node.name := by unfold textP textW; rw [if_neg (by omega), if_pos h]; rfl
theorem textP4 {r : RecD} (h : r.kind = 4) : textP r = [99, 111, 109, 109, 105, 116, 32] ++ digN r.gang.toNat := by unfold textP textW; rw [if_neg (by omega), if_neg (by omega), h]; rfl
theorem textP5 {r : RecD} (h : r.kind = 5) : textP r = [97, 98, 111, 114, 116, 32] ++ digN r.gang.toNat := by unfold textP textW; rw [if_neg (by omega), if_neg (by omega), h]; rfl
theorem textP6 {r : RecD} (h : r.kind = 6) : textP r = [114, 101, 108, 101, 97, 115, 101, 32] ++ digN r.gang.toNat := by unfold textP textW; rw [if_neg (by omega), if_neg (by omega), h]; rfl
theorem textP7 {r : RecD} (h : r.kind = 7) : textP r = [103, 97, 110, 103, 32] ++ digN r.gang.toNat ++ [32] ++ peersT r.peers := by unfold textP textW; rw [if_neg (by omega), if_neg (by omega), h]; simp [peeredP, joinB, verbT]
theorem textP3 {r : RecD} (h : r.kind = 3) : textP r = joinB (headW r ++ r.places.map placeT) := by unfold textP textW headW word1; simp [h]
theorem head3 {r : RecD} (h : r.kind = 3) : joinB (headW r) = [112, 114, 101, 112, 97, 114, 101, 32] ++ digN r.gang.toNat ++ [32] ++ peersT r.peers := by unfold headW word1; rw [if_neg (by omega), if_neg (by omega), h]; simp [peeredP, joinB, verbT]
theorem textD_x (cs : List Value) (r : RecD) (w : World) (h : Rep.rep (hp w) cs r) (hok : checkP r = 0) : Calls Tryz.prog 22 #[.agg cs.toArray] w fun e w' => e = .returned (.string (B (textP r))) ∧ Below w.heap.size w w' := by
  have hkk : 1 ≤ r.kind ∧ r.kind ≤ 7 := by cases okr_of hok <;> simp <;> omega
  obtain ⟨vp, vq, vm, vt, rfl, h1, h2, hp_, hq, h3, h4, h5, hm, ht⟩ := h
  obtain ⟨ap, cp, rfl⟩ := hp_.form
  obtain ⟨aq, cq, rfl⟩ := hq.form
  obtain ⟨am, cm, rfl⟩ := hm.form
  obtain ⟨at_, ct, rfl⟩ := ht.form
  have hW := textW_size hok
  have q1 : (⟨#[110, 111, 100, 101, 32]⟩ : ByteArray).size = 5 := rfl
  have q2 : (⟨#[103, 111, 110, 101, 32]⟩ : ByteArray).size = 5 := rfl
  have q3 : (⟨#[99, 111, 109, 109, 105, 116, 32]⟩ : ByteArray).size = 7 := rfl
  have q4 : (⟨#[97, 98, 111, 114, 116, 32]⟩ : ByteArray).size = 6 := rfl
  have q5 : (⟨#[114, 101, 108, 101, 97, 115, 101, 32]⟩ : ByteArray).size = 8 := rfl
  have hrn : Rep.rep (hp w) (nodeC r.node (.slice am r.node.marks.length cm) (.slice at_ r.node.taints.length ct)) r.node := ⟨_, _, rfl, h3, h4, h5, hm, ht⟩
  refine RS.enter Tryz.func22 Tryz.ntmps22 rfl rfl ?_
  (repeat (first | refine zS ?_ | refine zR ?_ | refine zQ ?_ | refine zK ?_ | refine zI ?_ | refine zB ?_ | refine zE ?_)); refine box_ (v := .agg _) (cs := [_, _, _, _, _, _, _, _, _, _]) (fun b1 => ?_); refine asS ?_; refine LS.done ?_
  (repeat (first | refine zS ?_ | refine zR ?_ | refine zQ ?_ | refine zK ?_ | refine zI ?_ | refine zB ?_ | refine zE ?_)); refine fld ?_; refine ld1 (v := .int _ _) ?_; refine LS.done ?_
  (repeat (first | refine zS ?_ | refine zR ?_ | refine zQ ?_ | refine zK ?_ | refine zI ?_ | refine zB ?_ | refine zE ?_)); refine eqI ?_; refine asB ?_; refine LS.done ?_
  (repeat (first | refine zS ?_ | refine zR ?_ | refine zQ ?_ | refine zK ?_ | refine zI ?_ | refine zB ?_ | refine zE ?_))
  refine RS.cond (fun z => ?_) (fun z => ?_)
  · have z := of_decide_eq_true z
    have hn := nodeT_size (ok_node hok z)
    have s1 := B_size (nodeT r.node)
    (repeat (first | refine zS ?_ | refine zR ?_ | refine zQ ?_ | refine zK ?_ | refine zI ?_ | refine zB ?_ | refine zE ?_)); refine fld ?_; refine ldA (nodeC r.node (.slice am r.node.marks.length cm) (.slice at_ r.node.taints.length ct)) ?_
    refine callP ?_ (hc := fun w' hw => nodeT_x r.node _ _ _ _ w' (Rep.mono hrn hw.imm) (ok_node hok z))
    refine addS ?_; refine asS ?_; refine LS.done ?_
    (repeat (first | refine zS ?_ | refine zR ?_ | refine zQ ?_ | refine zK ?_ | refine zI ?_ | refine zB ?_ | refine zE ?_)); refine RS.ret1 (v := .string _) Tryz.func22 fun w hw => ?_
    exact ⟨by rw [textP1 z, ← B_add]; rfl, hw.below⟩
  have z := of_decide_eq_false z
  (repeat (first | refine zS ?_ | refine zR ?_ | refine zQ ?_ | refine zK ?_ | refine zI ?_ | refine zB ?_ | refine zE ?_)); refine eqI ?_; refine asB ?_; refine LS.done ?_
  (repeat (first | refine zS ?_ | refine zR ?_ | refine zQ ?_ | refine zK ?_ | refine zI ?_ | refine zB ?_ | refine zE ?_))
  refine RS.cond (fun z => ?_) (fun z => ?_)
  · have z := of_decide_eq_true z
    (repeat (first | refine zS ?_ | refine zR ?_ | refine zQ ?_ | refine zK ?_ | refine zI ?_ | refine zB ?_ | refine zE ?_)); refine fld ?_; refine fld ?_; refine ld1 (v := .string _) ?_; refine addS ?_; refine asS ?_; refine LS.done ?_
    (repeat (first | refine zS ?_ | refine zR ?_ | refine zQ ?_ | refine zK ?_ | refine zI ?_ | refine zB ?_ | refine zE ?_)); refine RS.ret1 (v := .string _) Tryz.func22 fun w hw => ?_
    exact ⟨by rw [textP2 z, ← B_add, B_bs]; rfl, hw.below⟩
  have z := of_decide_eq_false z
  (repeat (first | refine zS ?_ | refine zR ?_ | refine zQ ?_ | refine zK ?_ | refine zI ?_ | refine zB ?_ | refine zE ?_)); refine eqI ?_; refine asB ?_; refine LS.done ?_
  (repeat (first | refine zS ?_ | refine zR ?_ | refine zQ ?_ | refine zK ?_ | refine zI ?_ | refine zB ?_ | refine zE ?_))
  refine RS.cond (fun z => ?_) (fun z => ?_)
  · have z := of_decide_eq_true z
    have hg := ok_gang hok (by omega) (by omega)
    (repeat (first | refine zS ?_ | refine zR ?_ | refine zQ ?_ | refine zK ?_ | refine zI ?_ | refine zB ?_ | refine zE ?_)); refine fld ?_; refine ld1 (v := .int _ _) ?_
    refine callP ?_ (hc := fun w' _ => digits_x r.gang ⟨by omega, by omega⟩ w')
    have e1 := digN_len r.gang.toNat
    have s1 : (B (digN r.gang.toNat)).size = (digN r.gang.toNat).length := B_size _
    refine addS ?_; refine asS ?_; refine LS.done ?_
    (repeat (first | refine zS ?_ | refine zR ?_ | refine zQ ?_ | refine zK ?_ | refine zI ?_ | refine zB ?_ | refine zE ?_)); refine RS.ret1 (v := .string _) Tryz.func22 fun w hw => ?_
    exact ⟨by rw [textP4 z, ← B_add]; rfl, hw.below⟩
  have z := of_decide_eq_false z
  (repeat (first | refine zS ?_ | refine zR ?_ | refine zQ ?_ | refine zK ?_ | refine zI ?_ | refine zB ?_ | refine zE ?_)); refine eqI ?_; refine asB ?_; refine LS.done ?_
  (repeat (first | refine zS ?_ | refine zR ?_ | refine zQ ?_ | refine zK ?_ | refine zI ?_ | refine zB ?_ | refine zE ?_))
  refine RS.cond (fun z => ?_) (fun z => ?_)
  · have z := of_decide_eq_true z
    have hg := ok_gang hok (by omega) (by omega)
    (repeat (first | refine zS ?_ | refine zR ?_ | refine zQ ?_ | refine zK ?_ | refine zI ?_ | refine zB ?_ | refine zE ?_)); refine fld ?_; refine ld1 (v := .int _ _) ?_
    refine callP ?_ (hc := fun w' _ => digits_x r.gang ⟨by omega, by omega⟩ w')
    have e1 := digN_len r.gang.toNat
    have s1 : (B (digN r.gang.toNat)).size = (digN r.gang.toNat).length := B_size _
    refine addS ?_; refine asS ?_; refine LS.done ?_
    (repeat (first | refine zS ?_ | refine zR ?_ | refine zQ ?_ | refine zK ?_ | refine zI ?_ | refine zB ?_ | refine zE ?_)); refine RS.ret1 (v := .string _) Tryz.func22 fun w hw => ?_
    exact ⟨by rw [textP5 z, ← B_add]; rfl, hw.below⟩
  have z := of_decide_eq_false z
  (repeat (first | refine zS ?_ | refine zR ?_ | refine zQ ?_ | refine zK ?_ | refine zI ?_ | refine zB ?_ | refine zE ?_)); refine eqI ?_; refine asB ?_; refine LS.done ?_
  (repeat (first | refine zS ?_ | refine zR ?_ | refine zQ ?_ | refine zK ?_ | refine zI ?_ | refine zB ?_ | refine zE ?_))
  refine RS.cond (fun z => ?_) (fun z => ?_)
  · have z := of_decide_eq_true z
    have hg := ok_gang hok (by omega) (by omega)
    (repeat (first | refine zS ?_ | refine zR ?_ | refine zQ ?_ | refine zK ?_ | refine zI ?_ | refine zB ?_ | refine zE ?_)); refine fld ?_; refine ld1 (v := .int _ _) ?_
    refine callP ?_ (hc := fun w' _ => digits_x r.gang ⟨by omega, by omega⟩ w')
    have e1 := digN_len r.gang.toNat
    have s1 : (B (digN r.gang.toNat)).size = (digN r.gang.toNat).length := B_size _
    refine addS ?_; refine asS ?_; refine LS.done ?_
    (repeat (first | refine zS ?_ | refine zR ?_ | refine zQ ?_ | refine zK ?_ | refine zI ?_ | refine zB ?_ | refine zE ?_)); refine RS.ret1 (v := .string _) Tryz.func22 fun w hw => ?_
    exact ⟨by rw [textP6 z, ← B_add]; rfl, hw.below⟩
  have z := of_decide_eq_false z
  have hg := ok_gang hok (by omega) (by omega)
  have hpe : peeredP r.kind = true := by simp [peeredP]; omega
  have hpr := ok_peers hok hpe
  have hpl := rising_len hpr
  have hpi := peers_I hpr
  have e1 := digN_len r.gang.toNat
  have s1 : (B (digN r.gang.toNat)).size = (digN r.gang.toNat).length := B_size _
  have e2 := peersT_size r.peers
  have s2 : (B (peersT r.peers)).size = (peersT r.peers).length := B_size _
  have s3 : (⟨#[32]⟩ : ByteArray).size = 1 := rfl
  have s4 : (⟨#[103, 97, 110, 103, 32]⟩ : ByteArray).size = 5 := rfl
  have s5 : (⟨#[112, 114, 101, 112, 97, 114, 101, 32]⟩ : ByteArray).size = 8 := rfl
  (repeat (first | refine zS ?_ | refine zR ?_ | refine zQ ?_ | refine zK ?_ | refine zI ?_ | refine zB ?_ | refine zE ?_)); refine eqI ?_; refine asB ?_; refine LS.done ?_
  (repeat (first | refine zS ?_ | refine zR ?_ | refine zQ ?_ | refine zK ?_ | refine zI ?_ | refine zB ?_ | refine zE ?_))
  refine RS.cond (fun z => ?_) (fun z => ?_)
  · have z := of_decide_eq_true z
    have z1 : (⟨#[103, 97, 110, 103, 32]⟩ : ByteArray).size + (B (digN r.gang.toNat)).size ≤ 9223372036854775807 := by omega
    have z2 : ((⟨#[103, 97, 110, 103, 32]⟩ : ByteArray) ++ B (digN r.gang.toNat)).size + (⟨#[32]⟩ : ByteArray).size ≤ 9223372036854775807 := by simp only [ByteArray.size_append]; omega
    have z3 : ((⟨#[103, 97, 110, 103, 32]⟩ : ByteArray) ++ B (digN r.gang.toNat) ++ ⟨#[32]⟩).size + (B (peersT r.peers)).size ≤ 9223372036854775807 := by simp only [ByteArray.size_append]; omega
    (repeat (first | refine RS.seq ?_ | refine RS.region ?_ | refine RS.skip ?_ | refine RS.inBlock ?_ | refine RS.block ?_ | refine RS.exit ?_)); refine RS.draw [.free, .ex, .ex, .free, .free, .free, .ex, .ex, .free, .free] [rcB b1 r.kind r.gang (.slice ap r.peers.length cp) (.slice aq r.places.length cq) r.node.name r.node.cpu r.node.mem (.slice am r.node.marks.length cm) (.slice at_ r.node.taints.length ct) r.node.closed] ?_ (by kernel_rfl) (by kernel_rfl) (by infer_instance); refine D.fld ?_; refine D.ld1 (v := .int .i64 r.gang) ?_
    refine D.callP ?_ (hc := fun _ _ w _ _ _ => digits_x r.gang ⟨by omega, by omega⟩ w)
    refine D.addS ?_ (hs := z1); refine D.addS ?_ (hs := z2); refine D.fld ?_; refine D.ld1 (v := .slice ap r.peers.length cp) ?_
    refine D.callP ?_ (hc := fun _ _ w hle _ hw => nums_x r.peers _ w (hp_.mono (PH.le_trans hle hw.imm)) (by omega) hpi)
    refine D.addS ?_ (hs := z3); refine D.asS ?_; refine D.done (fun us σ1 hle1 hfs => ?_)
    refine RS.ow ?_
    (repeat (first | refine zS ?_ | refine zR ?_ | refine zQ ?_ | refine zK ?_ | refine zI ?_ | refine zB ?_ | refine zE ?_)); refine RS.ret1 (v := .string _) Tryz.func22 fun w hw => ?_
    exact ⟨by rw [textP7 z, ← B_add, ← B_add, ← B_add]; rfl, hw.below⟩
  have z := of_decide_eq_false z
  have hk3 : r.kind = 3 := by omega
  have z1 : (⟨#[112, 114, 101, 112, 97, 114, 101, 32]⟩ : ByteArray).size + (B (digN r.gang.toNat)).size ≤ 9223372036854775807 := by omega
  have z2 : ((⟨#[112, 114, 101, 112, 97, 114, 101, 32]⟩ : ByteArray) ++ B (digN r.gang.toNat)).size + (⟨#[32]⟩ : ByteArray).size ≤ 9223372036854775807 := by simp only [ByteArray.size_append]; omega
  have z3 : ((⟨#[112, 114, 101, 112, 97, 114, 101, 32]⟩ : ByteArray) ++ B (digN r.gang.toNat) ++ ⟨#[32]⟩).size + (B (peersT r.peers)).size ≤ 9223372036854775807 := by simp only [ByteArray.size_append]; omega
  have hhd : (⟨#[112, 114, 101, 112, 97, 114, 101, 32]⟩ : ByteArray) ++ B (digN r.gang.toNat) ++ ⟨#[32]⟩ ++ B (peersT r.peers) = B (joinB (headW r ++ (r.places.take 0).map placeT)) := by
    rw [List.take_zero, List.map_nil, List.append_nil, head3 hk3, ← B_add, ← B_add, ← B_add]; rfl
  (repeat (first | refine RS.seq ?_ | refine RS.region ?_ | refine RS.skip ?_ | refine RS.inBlock ?_ | refine RS.block ?_ | refine RS.exit ?_)); refine RS.draw [.free, .ex, .ex, .free, .free, .free, .ex, .ex, .free, .free] [rcB b1 r.kind r.gang (.slice ap r.peers.length cp) (.slice aq r.places.length cq) r.node.name r.node.cpu r.node.mem (.slice am r.node.marks.length cm) (.slice at_ r.node.taints.length ct) r.node.closed] ?_ (by kernel_rfl) (by kernel_rfl) (by infer_instance); refine D.fld ?_; refine D.ld1 (v := .int .i64 r.gang) ?_
  refine D.callP ?_ (hc := fun _ _ w _ _ _ => digits_x r.gang ⟨by omega, by omega⟩ w)
  refine D.addS ?_ (hs := z1); refine D.addS ?_ (hs := z2); refine D.fld ?_; refine D.ld1 (v := .slice ap r.peers.length cp) ?_
  refine D.callP ?_ (hc := fun _ _ w hle _ hw => nums_x r.peers _ w (hp_.mono (PH.le_trans hle hw.imm)) (by omega) hpi)
  refine D.addS ?_ (hs := z3); rw [hhd]; refine D.asS ?_; refine D.done (fun us σ1 hle1 hfs => ?_)
  have k1 := hle1
  refine RS.ow ?_
  (repeat (first | refine zS ?_ | refine zR ?_ | refine zQ ?_ | refine zK ?_ | refine zI ?_ | refine zB ?_ | refine zE ?_)); refine asI ?_; refine LS.done ?_
  (repeat (first | refine zS ?_ | refine zR ?_ | refine zQ ?_ | refine zK ?_ | refine zI ?_ | refine zB ?_ | refine zE ?_))
  have hps := ok_places hok
  have hpn := ok_places_len hok
  have hjs : ∀ k, k ≤ 8 → (joinB (headW r ++ (r.places.take k).map placeT)).length ≤ 401 * 20 := fun k hk => by
    have hh := head_places hok
    have := joinB_size (headW r ++ (r.places.take k).map placeT) (fun w hw => hW.1 w (by
      rw [hh]
      rcases List.mem_append.1 hw with hw | hw
      · exact List.mem_append_left _ hw
      · exact List.mem_append_right _ (by
          obtain ⟨p, hp, rfl⟩ := List.mem_map.1 hw
          exact List.mem_map.2 ⟨p, List.take_subset _ _ hp, rfl⟩)))
    have hl : (headW r ++ (r.places.take k).map placeT).length ≤ 20 := by
      rw [List.length_append, List.length_map, List.length_take]
      have : (headW r).length ≤ 3 := by unfold headW; rw [if_pos hpe]; simp
      omega
    exact Nat.le_trans this (Nat.mul_le_mul_left _ hl)
  refine RS.loopF (X := Nat × PH) 3 88 (fun x => x.1 ≤ r.places.length ∧ PH.le (Go.JW.hp w) x.2) (fun x => [(3, .string (B (joinB (headW r ++ (r.places.take x.1).map placeT)))), (4, .int .i64 x.1)]) (fun x => x.2) (fun _ => [rcB b1 r.kind r.gang (.slice ap r.peers.length cp) (.slice aq r.places.length cq) r.node.name r.node.cpu r.node.mem (.slice am r.node.marks.length cm) (.slice at_ r.node.taints.length ct) r.node.closed]) (fun x => r.places.length - x.1) (0, _) ⟨Nat.zero_le _, k1⟩ ⟨rfl, rfl, trivial⟩ rfl ⟨fun h => h⟩ ?_
  rintro ⟨k, σ2⟩ g ⟨hk, hle2⟩ ih
  dsimp only at hk hle2
  (repeat (first | refine zS ?_ | refine zR ?_ | refine zQ ?_ | refine zK ?_ | refine zI ?_ | refine zB ?_ | refine zE ?_)); refine mvI ?_; refine fld ?_; refine ld1 (v := .slice _ _ _) ?_; refine lenL ?_; refine ltI ?_; refine LS.done ?_
  (repeat (first | refine zS ?_ | refine zR ?_ | refine zQ ?_ | refine zK ?_ | refine zI ?_ | refine zB ?_ | refine zE ?_))
  by_cases hlt : k < r.places.length
  · refine RS.condT ?_ (h := by simp; omega)
    obtain ⟨b, o, rfl, hrow⟩ := hq.addr (List.ne_nil_of_length_pos (by omega))
    obtain ⟨vs, hcell, hvs, n1, n2, n3, n4⟩ := hrow k hlt
    obtain ⟨p, hp⟩ : ∃ p, p = r.places[k] := ⟨_, rfl⟩
    rw [← hp] at hvs n1 n2 n3 n4
    subst hvs
    have hcell : ∀ j, j < 5 → (Go.JW.hp w).cell b (o + k * 5 + j) = (placeC p)[j]? := hcell
    have hpe0 : placeE p = 0 := hps p (by rw [hp]; exact List.getElem_mem _)
    have hpo := placeE_ok hpe0
    obtain ⟨c1, c2⟩ := hpo.vec
    have hpt := placeT_size hpe0
    have htk : (r.places.take (k + 1)).map placeT = (r.places.take k).map placeT ++ [placeT p] := by rw [List.take_add_one, List.getElem?_eq_getElem hlt, ← hp]; simp
    have hj := hjs k (by omega)
    have sj := B_size (joinB (headW r ++ (r.places.take k).map placeT))
    have se := B_size (vecT p.cpu p.mem)
    have sf := B_size (flagT p.alone)
    have ve := vecT_len p.cpu p.mem
    have vf := flagT_size p.alone
    have t1 : (⟨#[32]⟩ : ByteArray).size = 1 := rfl
    have t2 : (⟨#[62]⟩ : ByteArray).size = 1 := rfl
    have t3 : (⟨#[58]⟩ : ByteArray).size = 1 := rfl
    obtain ⟨J, hJ⟩ : ∃ J, J = B (joinB (headW r ++ (r.places.take k).map placeT)) := ⟨_, rfl⟩
    rw [← hJ] at sj
    have y1 : J.size + (⟨#[32]⟩ : ByteArray).size ≤ 9223372036854775807 := by omega
    have y2 : (J ++ ⟨#[32]⟩).size + p.pod.size ≤ 9223372036854775807 := by simp only [ByteArray.size_append]; omega
    have y3 : (J ++ ⟨#[32]⟩ ++ p.pod).size + (⟨#[62]⟩ : ByteArray).size ≤ 9223372036854775807 := by simp only [ByteArray.size_append]; omega
    have y4 : (J ++ ⟨#[32]⟩ ++ p.pod ++ ⟨#[62]⟩).size + p.node.size ≤ 9223372036854775807 := by simp only [ByteArray.size_append]; omega
    have y5 : (J ++ ⟨#[32]⟩ ++ p.pod ++ ⟨#[62]⟩ ++ p.node).size + (⟨#[58]⟩ : ByteArray).size ≤ 9223372036854775807 := by simp only [ByteArray.size_append]; omega
    have y6 : (J ++ ⟨#[32]⟩ ++ p.pod ++ ⟨#[62]⟩ ++ p.node ++ ⟨#[58]⟩).size + (B (vecT p.cpu p.mem)).size ≤ 9223372036854775807 := by simp only [ByteArray.size_append]; omega
    have y7 : (J ++ ⟨#[32]⟩ ++ p.pod ++ ⟨#[62]⟩ ++ p.node ++ ⟨#[58]⟩ ++ B (vecT p.cpu p.mem)).size + (B (flagT p.alone)).size ≤ 9223372036854775807 := by simp only [ByteArray.size_append]; omega
    have hfin : J ++ ⟨#[32]⟩ ++ p.pod ++ ⟨#[62]⟩ ++ p.node ++ ⟨#[58]⟩ ++ B (vecT p.cpu p.mem) ++ B (flagT p.alone) = B (joinB (headW r ++ (r.places.take (k + 1)).map placeT)) := by
      rw [htk, ← List.append_assoc, joinB_app _ _ (by simp [headW]), hJ, ← B_bs p.pod, ← B_bs p.node, show (⟨#[32]⟩ : ByteArray) = B [32] from rfl, show (⟨#[62]⟩ : ByteArray) = B [62] from rfl, show (⟨#[58]⟩ : ByteArray) = B [58] from rfl]
      simp only [B_add]
      simp [placeT]
    (repeat (first | refine zS ?_ | refine zR ?_ | refine zQ ?_ | refine zK ?_ | refine zI ?_ | refine zB ?_ | refine zE ?_)); refine fld ?_; refine ld1 (v := .slice _ _ _) ?_; refine mvI ?_; refine idx (i := k) ?_; refine ldSA (vs := placeC p) rfl (PH.cells_mono hle2 rfl hcell) ?_; refine alloc_ (fun b5 => ?_); refine st (.agg _) _ ?_; refine LS.done ?_
    rw [← hJ]
    refine RS.to (K' := [plZ b5 p, rcB b1 r.kind r.gang (.slice ap r.peers.length cp) (.slice (some ⟨b, o, none⟩) r.places.length cq) r.node.name r.node.cpu r.node.mem (.slice am r.node.marks.length cm) (.slice at_ r.node.taints.length ct) r.node.closed]) ?_ ⟨fun h => h⟩
    (repeat (first | refine RS.seq ?_ | refine RS.region ?_ | refine RS.skip ?_ | refine RS.inBlock ?_ | refine RS.block ?_ | refine RS.exit ?_)); refine RS.draw [.free, .free, .free, .ex, .free, .free, .free, .ex, .free, .free, .free, .ex, .ex, .free, .free, .ex, .ex, .free, .free] [plZ b5 p] ?_ (by kernel_rfl) (by kernel_rfl) (by infer_instance); refine D.mvS ?_; refine D.addS ?_ (hs := y1); refine D.fld ?_; refine D.ld1 (v := .string p.pod) ?_; refine D.addS ?_ (hs := y2); refine D.addS ?_ (hs := y3); refine D.fld ?_; refine D.ld1 (v := .string p.node) ?_; refine D.addS ?_ (hs := y4); refine D.addS ?_ (hs := y5); refine D.fld ?_; refine D.ldA [.int .i64 p.cpu, .int .i64 p.mem] ?_
    refine D.callP ?_ (hc := fun _ _ w hle _ hw => vecT_x _ _ ⟨by omega, by omega⟩ ⟨by omega, by omega⟩ w)
    refine D.addS ?_ (hs := y6); refine D.fld ?_; refine D.ld1 (v := .bool p.alone) ?_
    refine D.callP ?_ (hc := fun _ _ w hle _ hw => flagT_x _ w)
    refine D.addS ?_ (hs := y7); rw [hfin]; refine D.asS ?_; refine D.done (fun us σ1 hle1 hfs => ?_)
    have k2 := hle1
    refine RS.ow ?_
    (repeat (first | refine zS ?_ | refine zR ?_ | refine zQ ?_ | refine zK ?_ | refine zI ?_ | refine zB ?_ | refine zE ?_)); refine mvI ?_; (first | refine addN ?_ | refine addI ?_); refine asI ?_; refine LS.done ?_; (repeat (first | refine zS ?_ | refine zR ?_ | refine zQ ?_ | refine zK ?_ | refine zI ?_ | refine zB ?_ | refine zE ?_))
    exact ih (k + 1, _) ⟨hlt, PH.le_trans hle2 k2⟩ (by (try dsimp only); omega) ⟨rfl, rfl, trivial⟩ (by repeat (first | with_reducible exact Out.refl _ _ _ | exact Out.hv | refine Out.upd ?_ | refine Out.hvIn ?_)) ⟨fun h => h.tail⟩ rfl
  · refine RS.condF ?_ (h := by simp; omega)
    obtain rfl : k = r.places.length := by omega
    rw [List.take_length, ← textP3 hk3]
    (repeat (first | refine zS ?_ | refine zR ?_ | refine zQ ?_ | refine zK ?_ | refine zI ?_ | refine zB ?_ | refine zE ?_)); refine mvS ?_; refine asS ?_; refine LS.done ?_; (repeat (first | refine zS ?_ | refine zR ?_ | refine zQ ?_ | refine zK ?_ | refine zI ?_ | refine zB ?_ | refine zE ?_)); refine RS.ret1 (v := .string _) Tryz.func22 fun w hw => ?_
    exact ⟨rfl, hw.below⟩
end Go.Proofs.YtaiofgmhlfccgaaGreatDoor
namespace Go.Proofs.YtaiofgmhlfccgaaGreatDoor
open Go.JW Go.RowKit
theorem rec_eq {a b : RecD} : a = b ↔ a.kind = b.kind ∧ a.gang = b.gang ∧ a.peers = b.peers ∧ a.places = b.places ∧ a.node = b.node := by
  obtain ⟨_, _, _, _, _⟩ := a
  obtain ⟨_, _, _, _, _⟩ := b
  simp
theorem same_x (cs cs' : List Value) (a b : RecD) (w : World) (h : Rep.rep (hp w) cs a) (h' : Rep.rep (hp w) cs' b) : Calls Tryz.prog 23 #[.agg (List.toArray cs), .agg (List.toArray cs')] w fun e w' => e = .returned (.bool (decide (a = b))) ∧ Below w.heap.size w w' := by
  obtain ⟨vp, vq, vm, vt, rfl, g1, g2, hpa, hqa, g3, g4, g5, hma, hta⟩ := h
  obtain ⟨a1, c1, rfl⟩ := hpa.form
  obtain ⟨a2, c2, rfl⟩ := hqa.form
  obtain ⟨a3, c3, rfl⟩ := hma.form
  obtain ⟨a4, c4, rfl⟩ := hta.form
  obtain ⟨vp', vq', vm', vt', rfl, g1', g2', hpb, hqb, g3', g4', g5', hmb, htb⟩ := h'
  obtain ⟨o1, d1, rfl⟩ := hpb.form
  obtain ⟨o2, d2, rfl⟩ := hqb.form
  obtain ⟨o3, d3, rfl⟩ := hmb.form
  obtain ⟨o4, d4, rfl⟩ := htb.form
  have hna : Rep.rep (hp w) (nodeC a.node (.slice a3 a.node.marks.length c3) (.slice a4 a.node.taints.length c4)) a.node := ⟨_, _, rfl, g3, g4, g5, hma, hta⟩
  have hnb : Rep.rep (hp w) (nodeC b.node (.slice o3 b.node.marks.length d3) (.slice o4 b.node.taints.length d4)) b.node := ⟨_, _, rfl, g3', g4', g5', hmb, htb⟩
  refine RS.enter Tryz.func23 Tryz.ntmps23 rfl rfl ?_
  (repeat (first | refine zS ?_ | refine zR ?_ | refine zQ ?_ | refine zK ?_ | refine zI ?_ | refine zB ?_ | refine zE ?_)); refine box_ (v := .agg _) (cs := [_, _, _, _, _, _, _, _, _, _]) (fun b2 => ?_); refine box_ (v := .agg _) (cs := [_, _, _, _, _, _, _, _, _, _]) (fun b3 => ?_); refine asB ?_; refine LS.done ?_
  (repeat (first | refine zS ?_ | refine zR ?_ | refine zQ ?_ | refine zK ?_ | refine zI ?_ | refine zB ?_ | refine zE ?_))
  by_cases e1 : a.kind = b.kind
  rotate_left
  · rw [decide_eq_false (fun e => e1 (by rw [e]))]
    refine fld ?_; refine ld1 (v := .int _ _) ?_; refine fld ?_; refine ld1 (v := .int _ _) ?_; refine eqI ?_; rw [decide_eq_false e1]; refine mvB ?_; refine LS.off ?_; refine LS.off ?_; refine LS.off ?_; refine LS.off ?_; refine LS.off ?_; refine pk (v := .bool _) ?_; refine mvB ?_; refine LS.off ?_; refine LS.off ?_; refine LS.off ?_; refine LS.off ?_; refine LS.off ?_; refine pk (v := .bool _) ?_; refine mvB ?_; refine LS.off ?_; refine LS.off ?_; refine LS.off ?_; refine LS.off ?_; refine LS.off ?_; refine pk (v := .bool _) ?_; refine mvB ?_; refine LS.off ?_; refine LS.off ?_; refine LS.off ?_; refine LS.off ?_; refine LS.off ?_; refine pk (v := .bool _) ?_; refine asB ?_; refine LS.done ?_
    (repeat (first | refine zS ?_ | refine zR ?_ | refine zQ ?_ | refine zK ?_ | refine zI ?_ | refine zB ?_ | refine zE ?_)); refine RS.ret1 (v := .bool _) Tryz.func23 fun w hw => ?_
    exact ⟨rfl, hw.below⟩
  by_cases e2 : a.gang = b.gang
  rotate_left
  · rw [decide_eq_false (fun e => e2 (by rw [e]))]
    refine fld ?_; refine ld1 (v := .int _ _) ?_; refine fld ?_; refine ld1 (v := .int _ _) ?_; refine eqI ?_; rw [decide_eq_true e1]; refine mvB ?_; refine LS.on ?_; refine fld ?_; refine LS.on ?_; refine ld1 (v := .int _ _) ?_; refine LS.on ?_; refine fld ?_; refine LS.on ?_; refine ld1 (v := .int _ _) ?_; refine LS.on ?_; refine eqI ?_; rw [decide_eq_false e2]; refine pk (v := .bool _) ?_; refine mvB ?_; refine LS.off ?_; refine LS.off ?_; refine LS.off ?_; refine LS.off ?_; refine LS.off ?_; refine pk (v := .bool _) ?_; refine mvB ?_; refine LS.off ?_; refine LS.off ?_; refine LS.off ?_; refine LS.off ?_; refine LS.off ?_; refine pk (v := .bool _) ?_; refine mvB ?_; refine LS.off ?_; refine LS.off ?_; refine LS.off ?_; refine LS.off ?_; refine LS.off ?_; refine pk (v := .bool _) ?_; refine asB ?_; refine LS.done ?_
    (repeat (first | refine zS ?_ | refine zR ?_ | refine zQ ?_ | refine zK ?_ | refine zI ?_ | refine zB ?_ | refine zE ?_)); refine RS.ret1 (v := .bool _) Tryz.func23 fun w hw => ?_
    exact ⟨rfl, hw.below⟩
  refine fld ?_; refine ld1 (v := .int _ _) ?_; refine fld ?_; refine ld1 (v := .int _ _) ?_; refine eqI ?_; rw [decide_eq_true e1]; refine mvB ?_; refine LS.on ?_; refine fld ?_; refine LS.on ?_; refine ld1 (v := .int _ _) ?_; refine LS.on ?_; refine fld ?_; refine LS.on ?_; refine ld1 (v := .int _ _) ?_; refine LS.on ?_; refine eqI ?_; rw [decide_eq_true e2]; refine pk (v := .bool _) ?_; refine mvB ?_; refine LS.on ?_; refine fld ?_; refine LS.on ?_; refine ld1 (v := .slice _ _ _) ?_; refine LS.on ?_; refine fld ?_; refine LS.on ?_; refine ld1 (v := .slice _ _ _) ?_; refine LS.on ?_
  refine callP ?_ (hc := fun w' hw => ints_b _ _ a.peers b.peers w' (hpa.mono hw.imm) (hpb.mono hw.imm))
  by_cases e3 : a.peers = b.peers
  rotate_left
  · rw [decide_eq_false e3, decide_eq_false (fun e => e3 (by rw [e]))]
    refine pk (v := .bool _) ?_; refine mvB ?_; refine LS.off ?_; refine LS.off ?_; refine LS.off ?_; refine LS.off ?_; refine LS.off ?_; refine pk (v := .bool _) ?_; refine mvB ?_; refine LS.off ?_; refine LS.off ?_; refine LS.off ?_; refine LS.off ?_; refine LS.off ?_; refine pk (v := .bool _) ?_; refine asB ?_; refine LS.done ?_
    (repeat (first | refine zS ?_ | refine zR ?_ | refine zQ ?_ | refine zK ?_ | refine zI ?_ | refine zB ?_ | refine zE ?_)); refine RS.ret1 (v := .bool _) Tryz.func23 fun w hw => ?_
    exact ⟨rfl, hw.below⟩
  rw [decide_eq_true e3]
  refine pk (v := .bool _) ?_; refine mvB ?_; refine LS.on ?_; refine fld ?_; refine LS.on ?_; refine ld1 (v := .slice _ _ _) ?_; refine LS.on ?_; refine fld ?_; refine LS.on ?_; refine ld1 (v := .slice _ _ _) ?_; refine LS.on ?_
  refine callP ?_ (hc := fun w' hw => places_b _ _ a.places b.places w' (hqa.mono hw.imm) (hqb.mono hw.imm))
  by_cases e4 : a.places = b.places
  rotate_left
  · rw [decide_eq_false e4, decide_eq_false (fun e => e4 (by rw [e]))]
    refine pk (v := .bool _) ?_; refine mvB ?_; refine LS.off ?_; refine LS.off ?_; refine LS.off ?_; refine LS.off ?_; refine LS.off ?_; refine pk (v := .bool _) ?_; refine asB ?_; refine LS.done ?_
    (repeat (first | refine zS ?_ | refine zR ?_ | refine zQ ?_ | refine zK ?_ | refine zI ?_ | refine zB ?_ | refine zE ?_)); refine RS.ret1 (v := .bool _) Tryz.func23 fun w hw => ?_
    exact ⟨rfl, hw.below⟩
  rw [decide_eq_true e4]
  refine pk (v := .bool _) ?_; refine mvB ?_; refine LS.on ?_; refine fld ?_; refine LS.on ?_; refine ldA (nodeC a.node (.slice a3 a.node.marks.length c3) (.slice a4 a.node.taints.length c4)) ?_; refine LS.on ?_; refine fld ?_; refine LS.on ?_; refine ldA (nodeC b.node (.slice o3 b.node.marks.length d3) (.slice o4 b.node.taints.length d4)) ?_; refine LS.on ?_
  refine callP ?_ (hc := fun w' hw => nsame_b a.node b.node _ _ _ _ _ _ _ _ w' (Rep.mono hna hw.imm) (Rep.mono hnb hw.imm))
  refine pk (v := .bool _) ?_; refine asB ?_; refine LS.done ?_
  (repeat (first | refine zS ?_ | refine zR ?_ | refine zQ ?_ | refine zK ?_ | refine zI ?_ | refine zB ?_ | refine zE ?_)); refine RS.ret1 (v := .bool _) Tryz.func23 fun w hw => ?_
  exact ⟨by rw [show decide (a = b) = decide (a.node = b.node) from decide_eq_decide.2 ⟨fun h => by rw [h], fun h => rec_eq.2 ⟨e1, e2, e3, e4, h⟩⟩], hw.below⟩
end Go.Proofs.YtaiofgmhlfccgaaGreatDoor
namespace Go.Proofs.YtaiofgmhlfccgaaGreatDoor
open Go.JW Go.RowKit
theorem placesD_x (l : List PlaceD) (v : Value) (w : World) (h : RepL (hp w) v l) (hb : l.length ≤ 100000) : Calls Tryz.prog 42 #[v] w fun e w' => e = .returned (.int .i64 (placesE l)) ∧ Below w.heap.size w w' := by
  obtain ⟨a, cap, rfl⟩ := h.form
  refine RS.enter Tryz.func42 Tryz.ntmps42 rfl rfl ?_
  (repeat (first | refine zS ?_ | refine zR ?_ | refine zQ ?_ | refine zK ?_ | refine zI ?_ | refine zB ?_ | refine zE ?_)); refine asI ?_; refine LS.done ?_
  (repeat (first | refine zS ?_ | refine zR ?_ | refine zQ ?_ | refine zK ?_ | refine zI ?_ | refine zB ?_ | refine zE ?_)); refine mvL ?_; refine lenL ?_; refine ltI ?_; refine mvB ?_
  by_cases hlen : l.length < 1 ∨ 8 < l.length
  · have e : placesE l = 3 := by unfold placesE; rw [if_pos hlen]
    rw [e]
    refine LS.part 9 (fun z => ?_) (fun z => ?_)
    · refine LS.off ?_; refine LS.off ?_; refine LS.off ?_; refine pk (v := .bool _) ?_; refine LS.done ?_
      (repeat (first | refine zS ?_ | refine zR ?_ | refine zQ ?_ | refine zK ?_ | refine zI ?_ | refine zB ?_ | refine zE ?_))
      refine RS.condT ?_
      (repeat (first | refine zS ?_ | refine zR ?_ | refine zQ ?_ | refine zK ?_ | refine zI ?_ | refine zB ?_ | refine zE ?_)); refine asI ?_; refine LS.done ?_; (repeat (first | refine zS ?_ | refine zR ?_ | refine zQ ?_ | refine zK ?_ | refine zI ?_ | refine zB ?_ | refine zE ?_)); refine RS.ret1 (v := .int _ _) Tryz.func42 fun w hw => ?_
      exact ⟨rfl, hw.below⟩
    · refine LS.on ?_; refine mvL ?_; refine LS.on ?_; refine lenL ?_; refine LS.on ?_; refine gtI ?_; refine pk (v := .bool _) ?_; refine LS.done ?_
      have z := of_decide_eq_false z
      (repeat (first | refine zS ?_ | refine zR ?_ | refine zQ ?_ | refine zK ?_ | refine zI ?_ | refine zB ?_ | refine zE ?_))
      refine RS.condT ?_ (h := by simp; omega)
      (repeat (first | refine zS ?_ | refine zR ?_ | refine zQ ?_ | refine zK ?_ | refine zI ?_ | refine zB ?_ | refine zE ?_)); refine asI ?_; refine LS.done ?_; (repeat (first | refine zS ?_ | refine zR ?_ | refine zQ ?_ | refine zK ?_ | refine zI ?_ | refine zB ?_ | refine zE ?_)); refine RS.ret1 (v := .int _ _) Tryz.func42 fun w hw => ?_
      exact ⟨rfl, hw.below⟩
  refine LS.part 9 (fun z => ?_) (fun z => ?_)
  · exact absurd (of_decide_eq_true z) (by omega)
  refine LS.on ?_; refine mvL ?_; refine LS.on ?_; refine lenL ?_; refine LS.on ?_; refine gtI ?_; refine pk (v := .bool _) ?_; refine LS.done ?_
  (repeat (first | refine zS ?_ | refine zR ?_ | refine zQ ?_ | refine zK ?_ | refine zI ?_ | refine zB ?_ | refine zE ?_))
  refine RS.condF ?_ (h := by simp; omega)
  (repeat (first | refine zS ?_ | refine zR ?_ | refine zQ ?_ | refine zK ?_ | refine zI ?_ | refine zB ?_ | refine zE ?_)); refine asI ?_; refine LS.done ?_
  (repeat (first | refine zS ?_ | refine zR ?_ | refine zQ ?_ | refine zK ?_ | refine zI ?_ | refine zB ?_ | refine zE ?_))
  refine RS.loopF (X := Nat) 3 43 (fun x => x ≤ l.length ∧ ∀ i, (hi : i < l.length) → i < x → placeE l[i] = 0) (fun x => [(3, .int .i64 x)]) (fun _ => hp w) (fun _ => []) (fun x => l.length - x) 0 ⟨by omega, fun i _ h => by omega⟩ ⟨rfl, trivial⟩ rfl ⟨fun h => h⟩ ?_
  rintro k g ⟨h1, h2⟩ ih
  (repeat (first | refine zS ?_ | refine zR ?_ | refine zQ ?_ | refine zK ?_ | refine zI ?_ | refine zB ?_ | refine zE ?_)); refine mvI ?_; refine mvL ?_; refine lenL ?_; refine ltI ?_; refine LS.done ?_
  (repeat (first | refine zS ?_ | refine zR ?_ | refine zQ ?_ | refine zK ?_ | refine zI ?_ | refine zB ?_ | refine zE ?_))
  by_cases hlt : k < l.length
  · refine RS.condT ?_ (h := by simp; omega)
    obtain ⟨b, o, rfl, hr⟩ := h.addr (fun e => by simp [e] at hlt)
    obtain ⟨vs, hcell, hvs, n1, n2, n3, n4⟩ := hr k hlt
    obtain ⟨p, hp⟩ : ∃ p, p = l[k] := ⟨_, rfl⟩
    rw [← hp] at hvs n1 n2 n3 n4
    subst hvs
    have hcell : ∀ j, j < 5 → (Go.JW.hp w).cell b (o + k * 5 + j) = (placeC p)[j]? := hcell
    have q0 : (Go.JW.hp w).cell b (o + k * 5 + 0) = some (.string p.pod) := hcell 0 (by decide)
    have q1 : (Go.JW.hp w).cell b (o + k * 5 + 1) = some (.string p.node) := hcell 1 (by decide)
    have q2 : ∀ j, j < 2 → (Go.JW.hp w).cell b (o + k * 5 + 2 + j) = ([.int .i64 p.cpu, .int .i64 p.mem] : List Value)[j]? := fun j hj => by
      have := hcell (2 + j) (by omega)
      rw [← Nat.add_assoc] at this
      rw [this]
      have : j = 0 ∨ j = 1 := by omega
      rcases this with rfl | rfl <;> rfl
    have hbad : placeE p ≠ 0 → placesE l = placeE p := fun hne => by
      have e := placesBad_at hlt (fun i hi => h2 i (by omega) hi) (by rw [← hp]; exact hne)
      rw [← hp] at e
      unfold placesE; rw [if_neg hlen, if_pos (by rw [e]; exact hne), e]
    (repeat (first | refine zS ?_ | refine zR ?_ | refine zQ ?_ | refine zK ?_ | refine zI ?_ | refine zB ?_ | refine zE ?_)); refine mvL ?_; refine mvI ?_; refine idx (i := k) ?_; refine fld ?_; refine ldS q0 ?_
    refine callP ?_ (hc := fun w _ => rname_c _ (by omega) w)
    refine not_ ?_; refine mvB ?_
    refine LS.part 27 (fun z => ?_) (fun z => ?_)
    · refine LS.off ?_; refine LS.off ?_; refine LS.off ?_; refine LS.off ?_; refine LS.off ?_; refine LS.off ?_; refine LS.off ?_; refine pk (v := .bool _) ?_; refine LS.done ?_
      (repeat (first | refine zS ?_ | refine zR ?_ | refine zQ ?_ | refine zK ?_ | refine zI ?_ | refine zB ?_ | refine zE ?_))
      refine RS.condT ?_
      (repeat (first | refine zS ?_ | refine zR ?_ | refine zQ ?_ | refine zK ?_ | refine zI ?_ | refine zB ?_ | refine zE ?_)); refine asI ?_; refine LS.done ?_; (repeat (first | refine zS ?_ | refine zR ?_ | refine zQ ?_ | refine zK ?_ | refine zI ?_ | refine zB ?_ | refine zE ?_)); refine RS.ret1 (v := .int _ _) Tryz.func42 fun w hw => ?_
      have z : isName p.pod = false := by simpa using z
      have e : placeE p = 1 := by unfold placeE; rw [if_pos (.inl z)]
      exact ⟨by rw [hbad (by rw [e]; decide), e], hw.below⟩
    · refine LS.on ?_; refine mvL ?_; refine LS.on ?_; refine mvI ?_; refine LS.on ?_; refine idx (i := k) ?_; refine LS.on ?_; refine fld ?_; refine LS.on ?_; refine ldS q1 ?_; refine LS.on ?_
      refine callP ?_ (hc := fun w _ => rname_c _ (by omega) w)
      refine LS.on ?_; refine not_ ?_; refine pk (v := .bool _) ?_; refine LS.done ?_
      have z : isName p.pod = true := by simpa using z
      (repeat (first | refine zS ?_ | refine zR ?_ | refine zQ ?_ | refine zK ?_ | refine zI ?_ | refine zB ?_ | refine zE ?_))
      refine RS.cond (fun z1 => ?_) (fun z1 => ?_)
      · (repeat (first | refine zS ?_ | refine zR ?_ | refine zQ ?_ | refine zK ?_ | refine zI ?_ | refine zB ?_ | refine zE ?_)); refine asI ?_; refine LS.done ?_; (repeat (first | refine zS ?_ | refine zR ?_ | refine zQ ?_ | refine zK ?_ | refine zI ?_ | refine zB ?_ | refine zE ?_)); refine RS.ret1 (v := .int _ _) Tryz.func42 fun w hw => ?_
        have z1 : isName p.node = false := by simpa using z1
        have e : placeE p = 1 := by unfold placeE; rw [if_pos (.inr z1)]
        exact ⟨by rw [hbad (by rw [e]; decide), e], hw.below⟩
      · have z1 : isName p.node = true := by simpa using z1
        have e0 : placeE p = if sizeOk p.cpu p.mem = false then 2 else 0 := by unfold placeE; rw [if_neg (by rw [z, z1]; simp)]
        (repeat (first | refine zS ?_ | refine zR ?_ | refine zQ ?_ | refine zK ?_ | refine zI ?_ | refine zB ?_ | refine zE ?_)); refine mvL ?_; refine mvI ?_; refine idx (i := k) ?_; refine fld ?_; refine ldSA (vs := [.int .i64 p.cpu, .int .i64 p.mem]) rfl q2 ?_
        refine callP ?_ (hc := fun w _ => rsize_c _ _ w)
        refine not_ ?_; refine LS.done ?_
        (repeat (first | refine zS ?_ | refine zR ?_ | refine zQ ?_ | refine zK ?_ | refine zI ?_ | refine zB ?_ | refine zE ?_))
        refine RS.cond (fun z2 => ?_) (fun z2 => ?_)
        · (repeat (first | refine zS ?_ | refine zR ?_ | refine zQ ?_ | refine zK ?_ | refine zI ?_ | refine zB ?_ | refine zE ?_)); refine asI ?_; refine LS.done ?_; (repeat (first | refine zS ?_ | refine zR ?_ | refine zQ ?_ | refine zK ?_ | refine zI ?_ | refine zB ?_ | refine zE ?_)); refine RS.ret1 (v := .int _ _) Tryz.func42 fun w hw => ?_
          have z2 : sizeOk p.cpu p.mem = false := by simpa using z2
          have e : placeE p = 2 := by rw [e0, if_pos z2]
          exact ⟨by rw [hbad (by rw [e]; decide), e], hw.below⟩
        · have z2 : sizeOk p.cpu p.mem = true := by simpa using z2
          have e : placeE p = 0 := by rw [e0, if_neg (by rw [z2]; decide)]
          (repeat (first | refine zS ?_ | refine zR ?_ | refine zQ ?_ | refine zK ?_ | refine zI ?_ | refine zB ?_ | refine zE ?_)); refine mvI ?_; (first | refine addN ?_ | refine addI ?_); refine asI ?_; refine LS.done ?_; (repeat (first | refine zS ?_ | refine zR ?_ | refine zQ ?_ | refine zK ?_ | refine zI ?_ | refine zB ?_ | refine zE ?_))
          refine ih (k + 1) ⟨hlt, fun i hi hik => ?_⟩ (by omega) ⟨rfl, trivial⟩ (by repeat (first | with_reducible exact Out.refl _ _ _ | exact Out.hv | refine Out.upd ?_ | refine Out.hvIn ?_)) ⟨fun h => h⟩ rfl
          rcases Nat.lt_or_ge i k with h | h
          · exact h2 i hi h
          · obtain rfl : i = k := by omega
            rw [← hp]; exact e
  refine RS.condF ?_ (h := by simp; omega)
  obtain rfl : k = l.length := by omega
  have hz : placesBad l = 0 := placesBad_ok fun i hi => h2 i hi hi
  have he : placesE l = if dupP l = true then 4 else 0 := by unfold placesE; rw [if_neg hlen, if_neg (by rw [hz]; decide)]
  clear ih
  (repeat (first | refine zS ?_ | refine zR ?_ | refine zQ ?_ | refine zK ?_ | refine zI ?_ | refine zB ?_ | refine zE ?_)); refine asI ?_; refine LS.done ?_
  (repeat (first | refine zS ?_ | refine zR ?_ | refine zQ ?_ | refine zK ?_ | refine zI ?_ | refine zB ?_ | refine zE ?_))
  refine RS.loopF (X := Nat × PH) 4 65 (fun x => x.1 ≤ l.length ∧ (∀ i k, k < i → i < x.1 → (hi : i < l.length) → (hk : k < l.length) → ¬ l[i].pod = l[k].pod) ∧ PH.le (hp w) x.2) (fun x => [(4, .int .i64 x.1)]) (fun x => x.2) (fun _ => []) (fun x => l.length - x.1) (0, hp w) ⟨Nat.zero_le _, fun i k _ h => by omega, PH.le_refl _⟩ ⟨rfl, trivial⟩ rfl ⟨fun h => h⟩ ?_
  rintro ⟨i, σ2⟩ g2 ⟨i1, i2, i3⟩ ih
  dsimp only at i1 i2 i3
  (repeat (first | refine zS ?_ | refine zR ?_ | refine zQ ?_ | refine zK ?_ | refine zI ?_ | refine zB ?_ | refine zE ?_)); refine mvI ?_; refine mvL ?_; refine lenL ?_; refine ltI ?_; refine LS.done ?_
  (repeat (first | refine zS ?_ | refine zR ?_ | refine zQ ?_ | refine zK ?_ | refine zI ?_ | refine zB ?_ | refine zE ?_))
  by_cases hlt : i < l.length
  · refine RS.condT ?_ (h := by simp; omega)
    (repeat (first | refine zS ?_ | refine zR ?_ | refine zQ ?_ | refine zK ?_ | refine zI ?_ | refine zB ?_ | refine zE ?_)); refine asI ?_; refine LS.done ?_
    (repeat (first | refine zS ?_ | refine zR ?_ | refine zQ ?_ | refine zK ?_ | refine zI ?_ | refine zB ?_ | refine zE ?_))
    refine RS.loopF (X := Nat × PH) 5 65 (fun y => y.1 ≤ i ∧ (∀ k, k < y.1 → (hk : k < l.length) → ¬ l[i].pod = l[k].pod) ∧ PH.le (hp w) y.2) (fun y => [(5, .int .i64 y.1)]) (fun y => y.2) (fun _ => []) (fun y => i - y.1) (0, σ2) ⟨Nat.zero_le _, fun k h => by omega, i3⟩ ⟨rfl, trivial⟩ rfl ⟨fun h => h⟩ ?_
    rintro ⟨k, σ3⟩ g3 ⟨k1, k2, k3⟩ ih2
    dsimp only at k1 k2 k3
    (repeat (first | refine zS ?_ | refine zR ?_ | refine zQ ?_ | refine zK ?_ | refine zI ?_ | refine zB ?_ | refine zE ?_)); refine mvI ?_; refine mvI ?_; refine ltI ?_; refine LS.done ?_
    (repeat (first | refine zS ?_ | refine zR ?_ | refine zQ ?_ | refine zK ?_ | refine zI ?_ | refine zB ?_ | refine zE ?_))
    by_cases hk : k < i
    · refine RS.condT ?_ (h := by simp; omega)
      have hkl : k < l.length := by omega
      obtain ⟨b, o, rfl, hr⟩ := h.addr (fun e => by simp [e] at hlt)
      have qi : σ3.cell b (o + i * 5 + 0) = some (.string l[i].pod) := PH.cell_mono k3 ((rowPlace hr i hlt).1 0 (by decide))
      have qk : σ3.cell b (o + k * 5 + 0) = some (.string l[k].pod) := PH.cell_mono k3 ((rowPlace hr k hkl).1 0 (by decide))
      (repeat (first | refine RS.seq ?_ | refine RS.region ?_ | refine RS.skip ?_ | refine RS.inBlock ?_ | refine RS.block ?_ | refine RS.exit ?_)); refine RS.draw [.free, .free, .free, .free, .ex, .free, .free, .free, .free, .ex, .free] [] ?_ (by kernel_rfl) (by kernel_rfl) (by infer_instance); refine D.mvL ?_; refine D.mvI ?_; refine D.idx (i := i) ?_; refine D.fld ?_; refine D.ldS qi ?_; refine D.mvL ?_; refine D.mvI ?_; refine D.idx (i := k) ?_; refine D.fld ?_; refine D.ldS qk ?_; refine D.eqS ?_; refine D.done (fun us σ1 hle1 hfs => ?_)
      have k4 := hle1
      refine RS.ow ?_
      (repeat (first | refine zS ?_ | refine zR ?_ | refine zQ ?_ | refine zK ?_ | refine zI ?_ | refine zB ?_ | refine zE ?_))
      refine RS.cond (fun z => ?_) (fun z => ?_)
      · have z := of_decide_eq_true z
        (repeat (first | refine zS ?_ | refine zR ?_ | refine zQ ?_ | refine zK ?_ | refine zI ?_ | refine zB ?_ | refine zE ?_)); refine asI ?_; refine LS.done ?_; (repeat (first | refine zS ?_ | refine zR ?_ | refine zQ ?_ | refine zK ?_ | refine zI ?_ | refine zB ?_ | refine zE ?_)); refine RS.ret1 (v := .int _ _) Tryz.func42 fun w hw => ?_
        exact ⟨by rw [he, if_pos (dup_at hk hlt z)], hw.below⟩
      · have z := of_decide_eq_false z
        (repeat (first | refine zS ?_ | refine zR ?_ | refine zQ ?_ | refine zK ?_ | refine zI ?_ | refine zB ?_ | refine zE ?_)); refine mvI ?_; (first | refine addN ?_ | refine addI ?_); refine asI ?_; refine LS.done ?_; (repeat (first | refine zS ?_ | refine zR ?_ | refine zQ ?_ | refine zK ?_ | refine zI ?_ | refine zB ?_ | refine zE ?_))
        exact ih2 (k + 1, _) ⟨hk, fun j hj hjl => (Nat.lt_or_ge j k).elim (fun h => k2 j h hjl) fun h => by
          have hj : j < k + 1 := hj
          obtain rfl : j = k := by omega
          exact z, PH.le_trans k3 k4⟩ (by (try dsimp only); omega) ⟨rfl, trivial⟩ (by repeat (first | with_reducible exact Out.refl _ _ _ | exact Out.hv | refine Out.upd ?_ | refine Out.hvIn ?_)) ⟨fun h => h⟩ rfl
    · refine RS.condF ?_ (h := by simp; omega)
      obtain rfl : k = i := by omega
      (repeat (first | refine zS ?_ | refine zR ?_ | refine zQ ?_ | refine zK ?_ | refine zI ?_ | refine zB ?_ | refine zE ?_)); refine mvI ?_; (first | refine addN ?_ | refine addI ?_); refine asI ?_; refine LS.done ?_; (repeat (first | refine zS ?_ | refine zR ?_ | refine zQ ?_ | refine zK ?_ | refine zI ?_ | refine zB ?_ | refine zE ?_))
      exact ih (k + 1, σ3) ⟨hlt, fun i' k' h1 h3 hi' hk' => (Nat.lt_or_ge i' k).elim (fun h => i2 i' k' h1 h hi' hk') fun h => by
        have h3 : i' < k + 1 := h3
        obtain rfl : i' = k := by omega
        exact k2 k' h1 hk', k3⟩ (by (try dsimp only); omega) ⟨rfl, trivial⟩ (by repeat (first | with_reducible exact Out.refl _ _ _ | exact Out.hv | refine Out.upd ?_ | refine Out.hvIn ?_)) ⟨fun h => h⟩ rfl
  · refine RS.condF ?_ (h := by simp; omega)
    have hd : dupP l = false := dup_not fun i' k' h1 hi' hk' => i2 i' k' h1 (by omega) hi' hk'
    (repeat (first | refine zS ?_ | refine zR ?_ | refine zQ ?_ | refine zK ?_ | refine zI ?_ | refine zB ?_ | refine zE ?_)); refine asI ?_; refine LS.done ?_; (repeat (first | refine zS ?_ | refine zR ?_ | refine zQ ?_ | refine zK ?_ | refine zI ?_ | refine zB ?_ | refine zE ?_)); refine RS.ret1 (v := .int _ _) Tryz.func42 fun w hw => ?_
    exact ⟨by rw [he, hd]; rfl, hw.below⟩
theorem checkD_x (cs : List Value) (r : RecD) (w : World) (h : Rep.rep (hp w) cs r) (hb : r.places.length ≤ 100000) : Calls Tryz.prog 17 #[.agg cs.toArray] w fun e w' => e = .returned (.int .i64 (checkP r)) ∧ Below w.heap.size w w' := by
  have h0 := h
  obtain ⟨vp, vq, vm, vt, rfl, h1, h2, hp_, hq, h3, h4, h5, hm, ht⟩ := h
  have hnode : Rep.rep (hp w) (nodeC r.node vm vt) r.node := ⟨_, _, rfl, h3, h4, h5, hm, ht⟩
  obtain ⟨ap, cp, rfl⟩ := hp_.form
  obtain ⟨aq, cq, rfl⟩ := hq.form
  obtain ⟨am, cm, rfl⟩ := hm.form
  obtain ⟨at_, ct, rfl⟩ := ht.form
  refine RS.enter Tryz.func17 Tryz.ntmps17 rfl rfl ?_
  (repeat (first | refine zS ?_ | refine zR ?_ | refine zQ ?_ | refine zK ?_ | refine zI ?_ | refine zB ?_ | refine zE ?_)); refine box_ (v := .agg _) (cs := [_, _, _, _, _, _, _, _, _, _]) (fun b1 => ?_); refine asI ?_; refine LS.done ?_
  (repeat (first | refine RS.seq ?_ | refine RS.region ?_ | refine RS.skip ?_ | refine RS.inBlock ?_ | refine RS.block ?_ | refine RS.exit ?_))
  by_cases e1 : r.kind < 1
  · have e : checkP r = 2 := by unfold checkP; rw [if_pos (by simp [e1])]
    refine RS.drawG [(6, some true), (11, some true)] [.free, .ex, .free, .free, .free, .free, .free, .free, .free, .free, .free, .free, .free, .free, .free] [rcB b1 r.kind r.gang (.slice ap r.peers.length cp) (.slice aq r.places.length cq) r.node.name r.node.cpu r.node.mem (.slice am r.node.marks.length cm) (.slice at_ r.node.taints.length ct) r.node.closed] ?_ (by kernel_rfl) (by kernel_rfl) (by kernel_rfl) ⟨fun h => h⟩; simp only [ers, ersO, onOff, glook, nthO, List.map_cons, List.map_nil, Option.bind_some, Option.map_some, Nat.beq, cond_true, cond_false, BEq.beq]; refine D.fld ?_; refine D.ld1 (v := .int .i64 r.kind) ?_; refine D.ltI ?_; rw [decide_eq_true e1]; refine D.mvB ?_; refine D.as_ (v := undef) ?_; refine D.as_ (v := undef) ?_; refine D.as_ (v := undef) ?_; refine D.pk (v := .bool _) ?_; refine D.mvB ?_; refine D.as_ (v := undef) ?_; refine D.as_ (v := undef) ?_; refine D.as_ (v := undef) ?_; refine D.as_ (v := undef) ?_; refine D.as_ (v := undef) ?_; refine D.pk (v := .bool _) ?_; refine D.doneG [(6, some true), (11, some true)] ⟨⟨rfl, rfl⟩, ⟨rfl, rfl⟩, trivial⟩ (fun us σ1 hle1 hfs => ?_)
    refine RS.ow ?_
    (repeat (first | refine zS ?_ | refine zR ?_ | refine zQ ?_ | refine zK ?_ | refine zI ?_ | refine zB ?_ | refine zE ?_))
    refine RS.condT ?_
    (repeat (first | refine zS ?_ | refine zR ?_ | refine zQ ?_ | refine zK ?_ | refine zI ?_ | refine zB ?_ | refine zE ?_)); refine asI ?_; refine LS.done ?_; (repeat (first | refine zS ?_ | refine zR ?_ | refine zQ ?_ | refine zK ?_ | refine zI ?_ | refine zB ?_ | refine zE ?_)); refine RS.ret1 (v := .int _ _) Tryz.func17 fun w hw => ?_
    exact ⟨by rw [e], hw.below⟩
  by_cases e2 : 7 < r.kind
  · have e : checkP r = 2 := by unfold checkP; rw [if_pos (by simp [e2])]
    refine RS.drawG [(6, some false), (11, some true)] [.free, .ex, .free, .free, .free, .ex, .free, .free, .free, .free, .free, .free, .free, .free, .free] [rcB b1 r.kind r.gang (.slice ap r.peers.length cp) (.slice aq r.places.length cq) r.node.name r.node.cpu r.node.mem (.slice am r.node.marks.length cm) (.slice at_ r.node.taints.length ct) r.node.closed] ?_ (by kernel_rfl) (by kernel_rfl) (by kernel_rfl) ⟨fun h => h⟩; simp only [ers, ersO, onOff, glook, nthO, List.map_cons, List.map_nil, Option.bind_some, Option.map_some, Nat.beq, cond_true, cond_false, BEq.beq]; refine D.fld ?_; refine D.ld1 (v := .int .i64 r.kind) ?_; refine D.ltI ?_; rw [decide_eq_false e1]; refine D.mvB ?_; refine D.fld ?_; refine D.ld1 (v := .int .i64 r.kind) ?_; refine D.gtI ?_; rw [decide_eq_true e2]; refine D.pk (v := .bool _) ?_; refine D.mvB ?_; refine D.as_ (v := undef) ?_; refine D.as_ (v := undef) ?_; refine D.as_ (v := undef) ?_; refine D.as_ (v := undef) ?_; refine D.as_ (v := undef) ?_; refine D.pk (v := .bool _) ?_; refine D.doneG [(6, some false), (11, some true)] ⟨⟨rfl, rfl⟩, ⟨rfl, rfl⟩, trivial⟩ (fun us σ1 hle1 hfs => ?_)
    refine RS.ow ?_
    (repeat (first | refine zS ?_ | refine zR ?_ | refine zQ ?_ | refine zK ?_ | refine zI ?_ | refine zB ?_ | refine zE ?_))
    refine RS.condT ?_
    (repeat (first | refine zS ?_ | refine zR ?_ | refine zQ ?_ | refine zK ?_ | refine zI ?_ | refine zB ?_ | refine zE ?_)); refine asI ?_; refine LS.done ?_; (repeat (first | refine zS ?_ | refine zR ?_ | refine zQ ?_ | refine zK ?_ | refine zI ?_ | refine zB ?_ | refine zE ?_)); refine RS.ret1 (v := .int _ _) Tryz.func17 fun w hw => ?_
    exact ⟨by rw [e], hw.below⟩
  refine RS.drawG [(6, some false), (11, some false)] [.free, .ex, .free, .free, .free, .ex, .free, .free, .free, .ex, .ex, .ex, .ex, .free, .free] [rcB b1 r.kind r.gang (.slice ap r.peers.length cp) (.slice aq r.places.length cq) r.node.name r.node.cpu r.node.mem (.slice am r.node.marks.length cm) (.slice at_ r.node.taints.length ct) r.node.closed] ?_ (by kernel_rfl) (by kernel_rfl) (by kernel_rfl) ⟨fun h => h⟩; simp only [ers, ersO, onOff, glook, nthO, List.map_cons, List.map_nil, Option.bind_some, Option.map_some, Nat.beq, cond_true, cond_false, BEq.beq]; refine D.fld ?_; refine D.ld1 (v := .int .i64 r.kind) ?_; refine D.ltI ?_; rw [decide_eq_false e1]; refine D.mvB ?_; refine D.fld ?_; refine D.ld1 (v := .int .i64 r.kind) ?_; refine D.gtI ?_; rw [decide_eq_false e2]; refine D.pk (v := .bool _) ?_; refine D.mvB ?_; refine D.ldA (recC r (.slice ap r.peers.length cp) (.slice aq r.places.length cq) (.slice am r.node.marks.length cm) (.slice at_ r.node.taints.length ct)) ?_; refine D.ldA (recC r (.slice ap r.peers.length cp) (.slice aq r.places.length cq) (.slice am r.node.marks.length cm) (.slice at_ r.node.taints.length ct)) ?_
  refine D.callP ?_ (hc := fun _ _ w _ _ _ => kept_x r ap aq am at_ cp cq cm ct w)
  skip
  refine D.callP ?_ (hc := fun _ _ w hle _ hw => same_x _ _ r (keptD r) w (Rep.mono h0 (PH.le_trans hle hw.imm)) (kept_rep (Rep.mono h0 (PH.le_trans hle hw.imm))))
  refine D.not_ ?_; refine D.pk (v := .bool _) ?_; refine D.doneG [(6, some false), (11, some false)] ⟨⟨rfl, rfl⟩, ⟨rfl, rfl⟩, trivial⟩ (fun us σ1 hle1 hfs => ?_)
  have k1 := hle1
  refine RS.ow ?_
  (repeat (first | refine zS ?_ | refine zR ?_ | refine zQ ?_ | refine zK ?_ | refine zI ?_ | refine zB ?_ | refine zE ?_))
  have hkm := kept_more (r := r) (by omega) (by omega)
  refine RS.cond (fun hA => ?_) (fun hA => ?_)
  · have hA : moreP r = true := by rw [hkm] at hA; simpa using hA
    have e : checkP r = 2 := by unfold checkP; rw [if_pos (by rw [hA]; simp)]
    (repeat (first | refine zS ?_ | refine zR ?_ | refine zQ ?_ | refine zK ?_ | refine zI ?_ | refine zB ?_ | refine zE ?_)); refine asI ?_; refine LS.done ?_; (repeat (first | refine zS ?_ | refine zR ?_ | refine zQ ?_ | refine zK ?_ | refine zI ?_ | refine zB ?_ | refine zE ?_)); refine RS.ret1 (v := .int _ _) Tryz.func17 fun w hw => ?_
    exact ⟨by rw [e], hw.below⟩
  have hA : moreP r = false := by rw [hkm] at hA; simpa using hA
  have hB : checkP r = if r.kind = 1 then nodeErr r.node else if r.kind = 2 then (if isName r.node.name = false then 1 else 0) else if r.gang < 1 ∨ 999999 < r.gang ∨ (peeredP r.kind = true ∧ risingP r.peers = false) then 2 else if r.kind = 3 then placesE r.places else 0 := by
    unfold checkP; rw [if_neg (by rw [hA]; simp; omega)]
  have hnode := Rep.mono hnode k1
  have hp_ := hp_.mono k1
  have hq := hq.mono k1
  (repeat (first | refine zS ?_ | refine zR ?_ | refine zQ ?_ | refine zK ?_ | refine zI ?_ | refine zB ?_ | refine zE ?_)); refine fld ?_; refine ld1 (v := .int _ _) ?_; refine LS.done ?_
  (repeat (first | refine zS ?_ | refine zR ?_ | refine zQ ?_ | refine zK ?_ | refine zI ?_ | refine zB ?_ | refine zE ?_)); refine eqI ?_; refine asB ?_; refine LS.done ?_
  (repeat (first | refine zS ?_ | refine zR ?_ | refine zQ ?_ | refine zK ?_ | refine zI ?_ | refine zB ?_ | refine zE ?_))
  refine RS.cond (fun z => ?_) (fun z => ?_)
  · have z := of_decide_eq_true z
    (repeat (first | refine zS ?_ | refine zR ?_ | refine zQ ?_ | refine zK ?_ | refine zI ?_ | refine zB ?_ | refine zE ?_)); refine fld ?_; refine ldA (nodeC r.node (.slice am r.node.marks.length cm) (.slice at_ r.node.taints.length ct)) ?_
    refine callP ?_ (hc := fun w' hw => rnode_c _ r.node w' (Rep.mono hnode hw.imm))
    refine asI ?_; refine LS.done ?_
    (repeat (first | refine zS ?_ | refine zR ?_ | refine zQ ?_ | refine zK ?_ | refine zI ?_ | refine zB ?_ | refine zE ?_)); refine RS.ret1 (v := .int _ _) Tryz.func17 fun w hw => ?_
    exact ⟨by rw [hB, if_pos z], hw.below⟩
  have z := of_decide_eq_false z
  rw [if_neg z] at hB
  (repeat (first | refine zS ?_ | refine zR ?_ | refine zQ ?_ | refine zK ?_ | refine zI ?_ | refine zB ?_ | refine zE ?_)); refine eqI ?_; refine asB ?_; refine LS.done ?_
  (repeat (first | refine zS ?_ | refine zR ?_ | refine zQ ?_ | refine zK ?_ | refine zI ?_ | refine zB ?_ | refine zE ?_))
  refine RS.cond (fun y => ?_) (fun y => ?_)
  · have y := of_decide_eq_true y
    rw [if_pos y] at hB
    (repeat (first | refine zS ?_ | refine zR ?_ | refine zQ ?_ | refine zK ?_ | refine zI ?_ | refine zB ?_ | refine zE ?_)); refine fld ?_; refine fld ?_; refine ld1 (v := .string _) ?_
    refine callP ?_ (hc := fun w' hw => rname_c _ (by omega) w')
    refine not_ ?_; refine LS.done ?_
    (repeat (first | refine zS ?_ | refine zR ?_ | refine zQ ?_ | refine zK ?_ | refine zI ?_ | refine zB ?_ | refine zE ?_))
    refine RS.cond (fun x => ?_) (fun x => ?_)
    · (repeat (first | refine zS ?_ | refine zR ?_ | refine zQ ?_ | refine zK ?_ | refine zI ?_ | refine zB ?_ | refine zE ?_)); refine asI ?_; refine LS.done ?_; (repeat (first | refine zS ?_ | refine zR ?_ | refine zQ ?_ | refine zK ?_ | refine zI ?_ | refine zB ?_ | refine zE ?_)); refine RS.ret1 (v := .int _ _) Tryz.func17 fun w hw => ?_
      exact ⟨by rw [hB, if_pos (by simpa using x)], hw.below⟩
    · (repeat (first | refine zS ?_ | refine zR ?_ | refine zQ ?_ | refine zK ?_ | refine zI ?_ | refine zB ?_ | refine zE ?_)); refine asI ?_; refine LS.done ?_; (repeat (first | refine zS ?_ | refine zR ?_ | refine zQ ?_ | refine zK ?_ | refine zI ?_ | refine zB ?_ | refine zE ?_)); refine RS.ret1 (v := .int _ _) Tryz.func17 fun w hw => ?_
      exact ⟨by rw [hB, if_neg (by simpa using x)], hw.below⟩
  have y := of_decide_eq_false y
  rw [if_neg y] at hB
  (repeat (first | refine zS ?_ | refine zR ?_ | refine zQ ?_ | refine zK ?_ | refine zI ?_ | refine zB ?_ | refine zE ?_)); refine fld ?_; refine ld1 (v := .int _ _) ?_; refine ltI ?_; refine mvB ?_
  refine LS.part 35 (fun x => ?_) (fun x => ?_)
  · have x := of_decide_eq_true x
    rw [if_pos (.inl x)] at hB
    refine LS.off ?_; refine LS.off ?_; refine LS.off ?_; refine pk (v := .bool _) ?_; refine mvB ?_; refine LS.off ?_; refine LS.off ?_; refine LS.off ?_; refine LS.off ?_; refine LS.offU ?_; refine LS.offU ?_; refine LS.offU ?_; refine LS.off ?_; refine LS.off ?_; refine LS.offU ?_; refine LS.offU ?_; refine LS.offU ?_; refine LS.offU ?_; refine LS.off ?_; refine pk (v := .bool _) ?_; refine LS.done ?_
    (repeat (first | refine zS ?_ | refine zR ?_ | refine zQ ?_ | refine zK ?_ | refine zI ?_ | refine zB ?_ | refine zE ?_))
    refine RS.condT ?_
    (repeat (first | refine zS ?_ | refine zR ?_ | refine zQ ?_ | refine zK ?_ | refine zI ?_ | refine zB ?_ | refine zE ?_)); refine asI ?_; refine LS.done ?_; (repeat (first | refine zS ?_ | refine zR ?_ | refine zQ ?_ | refine zK ?_ | refine zI ?_ | refine zB ?_ | refine zE ?_)); refine RS.ret1 (v := .int _ _) Tryz.func17 fun w hw => ?_
    exact ⟨by rw [hB], hw.below⟩
  have x := of_decide_eq_false x
  refine LS.on ?_; refine fld ?_; refine LS.on ?_; refine ld1 (v := .int _ _) ?_; refine LS.on ?_; refine gtI ?_; refine pk (v := .bool _) ?_; refine mvB ?_
  refine LS.part 40 (fun u => ?_) (fun u => ?_)
  · have u := of_decide_eq_true u
    rw [if_pos (.inr (.inl u))] at hB
    refine LS.off ?_; refine LS.off ?_; refine LS.off ?_; refine LS.off ?_; refine LS.offU ?_; refine LS.offU ?_; refine LS.offU ?_; refine LS.off ?_; refine LS.off ?_; refine LS.offU ?_; refine LS.offU ?_; refine LS.offU ?_; refine LS.offU ?_; refine LS.off ?_; refine pk (v := .bool _) ?_; refine LS.done ?_
    (repeat (first | refine zS ?_ | refine zR ?_ | refine zQ ?_ | refine zK ?_ | refine zI ?_ | refine zB ?_ | refine zE ?_))
    refine RS.condT ?_
    (repeat (first | refine zS ?_ | refine zR ?_ | refine zQ ?_ | refine zK ?_ | refine zI ?_ | refine zB ?_ | refine zE ?_)); refine asI ?_; refine LS.done ?_; (repeat (first | refine zS ?_ | refine zR ?_ | refine zQ ?_ | refine zK ?_ | refine zI ?_ | refine zB ?_ | refine zE ?_)); refine RS.ret1 (v := .int _ _) Tryz.func17 fun w hw => ?_
    exact ⟨by rw [hB], hw.below⟩
  have u := of_decide_eq_false u
  refine LS.on ?_; refine fld ?_; refine LS.on ?_; refine ld1 (v := .int _ _) ?_; refine LS.on ?_; refine eqI ?_; refine LS.on ?_; refine mvB ?_
  refine LS.part 44 (fun k3 => ?_) (fun k3 => ?_)
  · have k3 := of_decide_eq_true k3
    have hpe : peeredP r.kind = true := by simp [peeredP, k3]
    refine LS.off ?_; refine LS.off ?_; refine LS.off ?_; refine LS.on ?_; refine pk (v := .bool _) ?_; refine LS.on ?_; refine mvB ?_; refine LS.on ?_; refine fld ?_; refine LS.on ?_; refine ld1 (v := .slice _ _ _) ?_; refine LS.on ?_
    refine callP ?_ (hc := fun w' hw => peers_x r.peers _ w' (hp_.mono hw.imm))
    refine LS.on ?_; refine not_ ?_; refine LS.on ?_; refine pk (v := .bool _) ?_; refine pk (v := .bool _) ?_; refine LS.done ?_
    (repeat (first | refine zS ?_ | refine zR ?_ | refine zQ ?_ | refine zK ?_ | refine zI ?_ | refine zB ?_ | refine zE ?_))
    refine RS.cond (fun q => ?_) (fun q => ?_)
    · rw [if_pos (.inr (.inr ⟨hpe, by simpa using q⟩))] at hB
      (repeat (first | refine zS ?_ | refine zR ?_ | refine zQ ?_ | refine zK ?_ | refine zI ?_ | refine zB ?_ | refine zE ?_)); refine asI ?_; refine LS.done ?_; (repeat (first | refine zS ?_ | refine zR ?_ | refine zQ ?_ | refine zK ?_ | refine zI ?_ | refine zB ?_ | refine zE ?_)); refine RS.ret1 (v := .int _ _) Tryz.func17 fun w hw => ?_
      exact ⟨by rw [hB], hw.below⟩
    · have hG : ¬ (r.gang < 1 ∨ 999999 < r.gang ∨ (peeredP r.kind = true ∧ risingP r.peers = false)) := by
        rintro (h | h | ⟨_, h⟩)
        · exact x h
        · exact u h
        · rw [h] at q; cases q
      rw [if_neg hG] at hB
      (repeat (first | refine zS ?_ | refine zR ?_ | refine zQ ?_ | refine zK ?_ | refine zI ?_ | refine zB ?_ | refine zE ?_)); refine fld ?_; refine ld1 (v := .int _ _) ?_; refine eqI ?_; refine LS.done ?_
      (repeat (first | refine zS ?_ | refine zR ?_ | refine zQ ?_ | refine zK ?_ | refine zI ?_ | refine zB ?_ | refine zE ?_))
      refine RS.cond (fun v => ?_) (fun v => ?_)
      · have v := of_decide_eq_true v
        (repeat (first | refine zS ?_ | refine zR ?_ | refine zQ ?_ | refine zK ?_ | refine zI ?_ | refine zB ?_ | refine zE ?_)); refine fld ?_; refine ld1 (v := .slice _ _ _) ?_
        refine callP ?_ (hc := fun w' hw => placesD_x r.places _ w' (hq.mono hw.imm) hb)
        refine asI ?_; refine LS.done ?_
        (repeat (first | refine zS ?_ | refine zR ?_ | refine zQ ?_ | refine zK ?_ | refine zI ?_ | refine zB ?_ | refine zE ?_)); refine RS.ret1 (v := .int _ _) Tryz.func17 fun w hw => ?_
        exact ⟨by rw [hB, if_pos v], hw.below⟩
      · have v := of_decide_eq_false v
        (repeat (first | refine zS ?_ | refine zR ?_ | refine zQ ?_ | refine zK ?_ | refine zI ?_ | refine zB ?_ | refine zE ?_)); refine asI ?_; refine LS.done ?_; (repeat (first | refine zS ?_ | refine zR ?_ | refine zQ ?_ | refine zK ?_ | refine zI ?_ | refine zB ?_ | refine zE ?_)); refine RS.ret1 (v := .int _ _) Tryz.func17 fun w hw => ?_
        exact ⟨by rw [hB, if_neg v], hw.below⟩
  have k3 := of_decide_eq_false k3
  refine LS.on ?_; refine fld ?_; refine LS.on ?_; refine ld1 (v := .int _ _) ?_; refine LS.on ?_; refine eqI ?_; refine LS.on ?_; refine pk (v := .bool _) ?_; refine LS.on ?_; refine mvB ?_
  refine LS.part 49 (fun k7 => ?_) (fun k7 => ?_)
  · have k7 := of_decide_eq_true k7
    have hpe : peeredP r.kind = true := by simp [peeredP, k7]
    refine LS.on ?_; refine fld ?_; refine LS.on ?_; refine ld1 (v := .slice _ _ _) ?_; refine LS.on ?_
    refine callP ?_ (hc := fun w' hw => peers_x r.peers _ w' (hp_.mono hw.imm))
    refine LS.on ?_; refine not_ ?_; refine LS.on ?_; refine pk (v := .bool _) ?_; refine pk (v := .bool _) ?_; refine LS.done ?_
    (repeat (first | refine zS ?_ | refine zR ?_ | refine zQ ?_ | refine zK ?_ | refine zI ?_ | refine zB ?_ | refine zE ?_))
    refine RS.cond (fun q => ?_) (fun q => ?_)
    · rw [if_pos (.inr (.inr ⟨hpe, by simpa using q⟩))] at hB
      (repeat (first | refine zS ?_ | refine zR ?_ | refine zQ ?_ | refine zK ?_ | refine zI ?_ | refine zB ?_ | refine zE ?_)); refine asI ?_; refine LS.done ?_; (repeat (first | refine zS ?_ | refine zR ?_ | refine zQ ?_ | refine zK ?_ | refine zI ?_ | refine zB ?_ | refine zE ?_)); refine RS.ret1 (v := .int _ _) Tryz.func17 fun w hw => ?_
      exact ⟨by rw [hB], hw.below⟩
    · have hG : ¬ (r.gang < 1 ∨ 999999 < r.gang ∨ (peeredP r.kind = true ∧ risingP r.peers = false)) := by
        rintro (h | h | ⟨_, h⟩)
        · exact x h
        · exact u h
        · rw [h] at q; cases q
      rw [if_neg hG] at hB
      (repeat (first | refine zS ?_ | refine zR ?_ | refine zQ ?_ | refine zK ?_ | refine zI ?_ | refine zB ?_ | refine zE ?_)); refine fld ?_; refine ld1 (v := .int _ _) ?_; refine eqI ?_; refine LS.done ?_
      (repeat (first | refine zS ?_ | refine zR ?_ | refine zQ ?_ | refine zK ?_ | refine zI ?_ | refine zB ?_ | refine zE ?_))
      refine RS.cond (fun v => ?_) (fun v => ?_)
      · have v := of_decide_eq_true v
        (repeat (first | refine zS ?_ | refine zR ?_ | refine zQ ?_ | refine zK ?_ | refine zI ?_ | refine zB ?_ | refine zE ?_)); refine fld ?_; refine ld1 (v := .slice _ _ _) ?_
        refine callP ?_ (hc := fun w' hw => placesD_x r.places _ w' (hq.mono hw.imm) hb)
        refine asI ?_; refine LS.done ?_
        (repeat (first | refine zS ?_ | refine zR ?_ | refine zQ ?_ | refine zK ?_ | refine zI ?_ | refine zB ?_ | refine zE ?_)); refine RS.ret1 (v := .int _ _) Tryz.func17 fun w hw => ?_
        exact ⟨by rw [hB, if_pos v], hw.below⟩
      · have v := of_decide_eq_false v
        (repeat (first | refine zS ?_ | refine zR ?_ | refine zQ ?_ | refine zK ?_ | refine zI ?_ | refine zB ?_ | refine zE ?_)); refine asI ?_; refine LS.done ?_; (repeat (first | refine zS ?_ | refine zR ?_ | refine zQ ?_ | refine zK ?_ | refine zI ?_ | refine zB ?_ | refine zE ?_)); refine RS.ret1 (v := .int _ _) Tryz.func17 fun w hw => ?_
        exact ⟨by rw [hB, if_neg v], hw.below⟩
  have k7 := of_decide_eq_false k7
  have hpe : peeredP r.kind = false := by simp [peeredP, k3, k7]
  have hG : ¬ (r.gang < 1 ∨ 999999 < r.gang ∨ (peeredP r.kind = true ∧ risingP r.peers = false)) := by
    rintro (h | h | ⟨h, _⟩)
    · exact x h
    · exact u h
    · rw [hpe] at h; cases h
  rw [if_neg hG] at hB
  refine LS.off ?_; refine LS.off ?_; refine LS.off ?_; refine LS.off ?_; refine LS.on ?_; refine pk (v := .bool _) ?_; refine pk (v := .bool _) ?_; refine LS.done ?_
  (repeat (first | refine zS ?_ | refine zR ?_ | refine zQ ?_ | refine zK ?_ | refine zI ?_ | refine zB ?_ | refine zE ?_))
  refine RS.condF ?_
  (repeat (first | refine zS ?_ | refine zR ?_ | refine zQ ?_ | refine zK ?_ | refine zI ?_ | refine zB ?_ | refine zE ?_)); refine fld ?_; refine ld1 (v := .int _ _) ?_; refine eqI ?_; refine LS.done ?_
  (repeat (first | refine zS ?_ | refine zR ?_ | refine zQ ?_ | refine zK ?_ | refine zI ?_ | refine zB ?_ | refine zE ?_))
  refine RS.cond (fun v => ?_) (fun v => ?_)
  · have v := of_decide_eq_true v
    (repeat (first | refine zS ?_ | refine zR ?_ | refine zQ ?_ | refine zK ?_ | refine zI ?_ | refine zB ?_ | refine zE ?_)); refine fld ?_; refine ld1 (v := .slice _ _ _) ?_
    refine callP ?_ (hc := fun w' hw => placesD_x r.places _ w' (hq.mono hw.imm) hb)
    refine asI ?_; refine LS.done ?_
    (repeat (first | refine zS ?_ | refine zR ?_ | refine zQ ?_ | refine zK ?_ | refine zI ?_ | refine zB ?_ | refine zE ?_)); refine RS.ret1 (v := .int _ _) Tryz.func17 fun w hw => ?_
    exact ⟨by rw [hB, if_pos v], hw.below⟩
  · have v := of_decide_eq_false v
    (repeat (first | refine zS ?_ | refine zR ?_ | refine zQ ?_ | refine zK ?_ | refine zI ?_ | refine zB ?_ | refine zE ?_)); refine asI ?_; refine LS.done ?_; (repeat (first | refine zS ?_ | refine zR ?_ | refine zQ ?_ | refine zK ?_ | refine zI ?_ | refine zB ?_ | refine zE ?_)); refine RS.ret1 (v := .int _ _) Tryz.func17 fun w hw => ?_
    exact ⟨by rw [hB, if_neg v], hw.below⟩
end Go.Proofs.YtaiofgmhlfccgaaGreatDoor
namespace Go.Proofs.YtaiofgmhlfccgaaGreatDoor
open Go.JW Go.RowKit
section
variable {w0 : World} {M : Nat → Prop} {σ : PH} {K : List HP}
theorem parseD_x (s : Bs) (hs : s.length ≤ 90000) (w : World) (hw : Sat w0 M σ K w) :
    Calls Tryz.prog 24 #[.string (B s)] w fun e w' => ∃ v σ', PH.le σ σ' ∧ ParseA s v σ' ∧ e = .returned v ∧ Sat w0 M σ' K w' := by
  obtain ⟨hws, hwn⟩ := words_small hs
  have hz : I64 0 := ⟨by decide, by decide⟩
  refine RS.enterK Tryz.func24 Tryz.ntmps24 rfl rfl hw ?_
  (repeat (first | refine zS ?_ | refine zR ?_ | refine zQ ?_ | refine zK ?_ | refine zI ?_ | refine zB ?_ | refine zE ?_)); refine alloc_ (fun b2 => ?_); refine asI ?_; refine LS.done ?_
  (repeat (first | refine zS ?_ | refine zR ?_ | refine zQ ?_ | refine zK ?_ | refine zI ?_ | refine zB ?_ | refine zE ?_)); refine mvS ?_
  refine callQ (fun v σ' => RepL σ' v ((wordsP s).map B)) (rcB b2 0 0 nilV nilV ⟨#[]⟩ 0 0 nilV nilV false :: K) (fun v9 σ1 hle1 hq1 => ?_) (hc := fun w' hw => words_x s hs w' hw)
  obtain ⟨a9, c9, rfl⟩ := hq1.form
  skip
  refine callQ (ReadA (wordsP s)) (rcB b2 0 0 nilV nilV ⟨#[]⟩ 0 0 nilV nilV false :: K) (fun v σ2 hle2 hq2 => ?_) (hc := fun w' hw => read_x (wordsP s) _ hq1 hws hwn w' hw)
  obtain ⟨cs, is, rr, rfl, his, hrep, hrr⟩ := hq2
  have hrep0 := hrep
  obtain ⟨vp, vq, vm, vt, rfl, h1, h2, hp_, hq, h3, h4, h5, hm, ht⟩ := hrep
  obtain ⟨ap, cp, rfl⟩ := hp_.form
  obtain ⟨aq, cq, rfl⟩ := hq.form
  obtain ⟨am, cm, rfl⟩ := hm.form
  obtain ⟨at_, ct, rfl⟩ := ht.form
  refine mvT ?_; refine extr (v := _) ?_; refine extr (v := .bool _) ?_; refine alloc_ (fun b4 => ?_); refine st (.agg _) _ ?_; refine asB ?_; refine LS.done ?_
  (repeat (first | refine zS ?_ | refine zR ?_ | refine zQ ?_ | refine zK ?_ | refine zI ?_ | refine zB ?_ | refine zE ?_)); refine mvB ?_; refine not_ ?_; refine LS.done ?_
  cases hO : readO (wordsP s) with
  | none =>
    rw [hO] at his
    subst his
    have hP : parseP s = (rec0, 8) := by unfold parseP; rw [hO]
    (repeat (first | refine zS ?_ | refine zR ?_ | refine zQ ?_ | refine zK ?_ | refine zI ?_ | refine zB ?_ | refine zE ?_))
    refine RS.condT ?_
    (repeat (first | refine zS ?_ | refine zR ?_ | refine zQ ?_ | refine zK ?_ | refine zI ?_ | refine zB ?_ | refine zE ?_)); refine bld (vals := []) [_, _, _, _, _, _, _, _, _, _] ?_; refine st (.agg _) _ ?_; refine asI ?_; refine LS.done ?_
    (repeat (first | refine zS ?_ | refine zR ?_ | refine zQ ?_ | refine zK ?_ | refine zI ?_ | refine zB ?_ | refine zE ?_))
    refine RS.retCT (ty := 30) (v := .int .i64 8) Tryz.func24 (recC rec0 nilV nilV nilV nilV) fun w hw => ?_
    exact ⟨_, σ2, PH.le_trans hle1 hle2, ⟨_, by rw [hP], by rw [hP]; exact rec0_rep σ2 0 hz⟩, rfl, hw.weak fun F h => h.tail.tail⟩
  | some r =>
    rw [hO] at his
    subst his
    obtain rfl := hrr r hO
    have hsm := read_small hO hws hwn
    (repeat (first | refine zS ?_ | refine zR ?_ | refine zQ ?_ | refine zK ?_ | refine zI ?_ | refine zB ?_ | refine zE ?_))
    refine RS.condF ?_
    (repeat (first | refine zS ?_ | refine zR ?_ | refine zQ ?_ | refine zK ?_ | refine zI ?_ | refine zB ?_ | refine zE ?_)); refine ldA (recC rr (.slice ap rr.peers.length cp) (.slice aq rr.places.length cq) (.slice am rr.node.marks.length cm) (.slice at_ rr.node.taints.length ct)) ?_
    refine callP ?_ (hc := fun w' hw => checkD_x _ rr w' (Rep.mono hrep0 hw.imm) hsm.2.2.1)
    refine asI ?_; refine LS.done ?_
    (repeat (first | refine zS ?_ | refine zR ?_ | refine zQ ?_ | refine zK ?_ | refine zI ?_ | refine zB ?_ | refine zE ?_)); refine mvI ?_; refine neI ?_; refine LS.done ?_
    (repeat (first | refine zS ?_ | refine zR ?_ | refine zQ ?_ | refine zK ?_ | refine zI ?_ | refine zB ?_ | refine zE ?_))
    refine RS.cond (fun z => ?_) (fun z => ?_)
    · have z : ¬ checkP rr = 0 := by simpa using z
      have hP : parseP s = (rec0, checkP rr) := by unfold parseP; rw [hO]; simp only; rw [if_neg z]
      (repeat (first | refine zS ?_ | refine zR ?_ | refine zQ ?_ | refine zK ?_ | refine zI ?_ | refine zB ?_ | refine zE ?_)); refine bld (vals := []) [_, _, _, _, _, _, _, _, _, _] ?_; refine mvI ?_; refine st (.agg _) _ ?_; refine asI ?_; refine LS.done ?_
      (repeat (first | refine zS ?_ | refine zR ?_ | refine zQ ?_ | refine zK ?_ | refine zI ?_ | refine zB ?_ | refine zE ?_))
      refine RS.retCT (ty := 30) (v := .int .i64 (checkP rr)) Tryz.func24 (recC rec0 nilV nilV nilV nilV) fun w hw => ?_
      exact ⟨_, σ2, PH.le_trans hle1 hle2, ⟨_, by rw [hP], by rw [hP]; exact rec0_rep σ2 0 hz⟩, rfl, hw.weak fun F h => h.tail.tail⟩
    · have z : checkP rr = 0 := by simpa using z
      have hP : parseP s = (rr, 0) := by unfold parseP; rw [hO]; simp only; rw [if_pos z]
      (repeat (first | refine zS ?_ | refine zR ?_ | refine zQ ?_ | refine zK ?_ | refine zI ?_ | refine zB ?_ | refine zE ?_)); refine ldA [_, _, _, _, _, _, _, _, _, _] ?_; refine st (.agg _) _ ?_; refine asI ?_; refine LS.done ?_
      (repeat (first | refine zS ?_ | refine zR ?_ | refine zQ ?_ | refine zK ?_ | refine zI ?_ | refine zB ?_ | refine zE ?_))
      refine RS.retCT (ty := 30) (v := .int .i64 0) Tryz.func24 (recC rr (.slice ap rr.peers.length cp) (.slice aq rr.places.length cq) (.slice am rr.node.marks.length cm) (.slice at_ rr.node.taints.length ct)) fun w hw => ?_
      exact ⟨_, σ2, PH.le_trans hle1 hle2, ⟨_, by rw [hP], by rw [hP]; exact hrep0⟩, rfl, hw.weak fun F h => h.tail.tail⟩
end
end Go.Proofs.YtaiofgmhlfccgaaGreatDoor
namespace Go.Proofs.YtaiofgmhlfccgaaGreatDoor
open Go.JW Go.RowKit

def letter (p : ByteArray) (at_ : Int) : ByteArray := p ++ (List.foldl (fun (r : ByteArray) (n : Int) => r.push (UInt8.ofNat n.toNat)) ByteArray.empty [IntKind.u8.wrap (97 + at_)])
theorem letter_size (p : ByteArray) (a : Int) : (letter p a).size = p.size + 1 := by
  simp only [letter, ByteArray.size_append, List.foldl]; rw [ByteArray.size_push]; rfl

def nodeOf (a n : Int) : NodeD :=
  { name := nameOf a, cpu := n % 12, mem := n.tdiv 12 % 12, marks := setOf (n.tdiv 144), taints := if n.tdiv 23 % 3 = 0 then setOf (n.tdiv 31) else [], closed := decide (n.tdiv 17 % 9 = 0) }
theorem nameOf_size (a : Int) : (nameOf a).size ≤ 16 := by
  unfold nameOf
  rcases Nat.lt_or_ge (a % 8).toNat 8 with h | h
  · have : ∀ i : Fin 8, (names8.getD i.val ⟨#[]⟩).size ≤ 16 := by decide
    exact this ⟨_, h⟩
  · have := wmod a 8 (by omega); omega
theorem lnode_c (a n : Int) (hn : I64 n) (w : World) : Calls Tryz.prog 29 #[.int .i64 a, .int .i64 n] w fun e w' =>
    ∃ v, e = .returned v ∧ Below w.heap.size w w' ∧ ∃ cs, v = .agg (List.toArray cs) ∧ Rep.rep (since w w') cs (nodeOf a n) := by
  obtain ⟨a1, a2⟩ := wmod n 12 (by omega)
  obtain ⟨b1, b2⟩ := wmod (n.tdiv 12) 12 (by omega)
  refine RS.enter Tryz.func29 Tryz.ntmps29 rfl rfl ?_
  (repeat (first | refine zS ?_ | refine zR ?_ | refine zQ ?_ | refine zK ?_ | refine zI ?_ | refine zB ?_ | refine zE ?_)); refine alloc_ (fun b4 => ?_); refine LS.done ?_
  (repeat (first | refine zS ?_ | refine zR ?_ | refine zQ ?_ | refine zK ?_ | refine zI ?_ | refine zB ?_ | refine zE ?_)); refine mvI ?_
  refine callP ?_ (hc := fun w _ => lname_c _ w)
  refine mvI ?_
  refine callP ?_ (hc := fun w _ => w3_c _ _ (by omega) (by omega) w)
  refine mvI ?_; refine quoN ?_
  refine callP ?_ (hc := fun w _ => w3_c _ _ (by omega) (by omega) w)
  refine bld (vals := [(0, .int _ _), (1, .int _ _)]) [_, _] ?_; refine mvI ?_; refine quoN ?_
  refine callT (fun v τ => RepL τ v (setOf (n.tdiv 144))) (fun v τ1 σ2 hq1 hN1 hle2 hτ1 => ?_) (fun w _ => lset_c _ w)
  obtain ⟨a1', c1', rfl⟩ := hq1.form
  refine mvI ?_; refine quoN ?_
  refine callP ?_ (hc := fun w _ => w3_c _ _ (by omega) (by omega) w)
  refine eqI ?_; refine bld (vals := [(0, .string _), (1, .agg (List.toArray [_, _])), (2, .slice _ _ _), (4, .bool _)]) [_, _, _, _, _, _] ?_; refine alloc_ (fun b5 => ?_); refine st (.agg _) _ ?_; refine LS.done ?_
  (repeat (first | refine zS ?_ | refine zR ?_ | refine zQ ?_ | refine zK ?_ | refine zI ?_ | refine zB ?_ | refine zE ?_)); refine mvI ?_; refine quoN ?_
  refine callP ?_ (hc := fun w _ => w3_c _ _ (by omega) (by omega) w)
  refine eqI ?_; refine LS.done ?_; (repeat (first | refine zS ?_ | refine zR ?_ | refine zQ ?_ | refine zK ?_ | refine zI ?_ | refine zB ?_ | refine zE ?_))
  refine RS.cond (fun e => ?_) (fun e => ?_)
  all_goals simp only [decide_eq_true_eq, decide_eq_false_iff_not] at e
  · (repeat (first | refine zS ?_ | refine zR ?_ | refine zQ ?_ | refine zK ?_ | refine zI ?_ | refine zB ?_ | refine zE ?_)); refine mvI ?_; refine quoN ?_
    refine callT (fun v τ => RepL τ v (setOf (n.tdiv 31))) (fun v τ2 σ3 hq2 hN2 hle3 hτ2 => ?_) (fun w _ => lset_c _ w)
    obtain ⟨a2', c2', rfl⟩ := hq2.form
    refine fld ?_; refine st (.slice _ _ _) _ ?_; refine LS.done ?_
    (repeat (first | refine zS ?_ | refine zR ?_ | refine zQ ?_ | refine zK ?_ | refine zI ?_ | refine zB ?_ | refine zE ?_)); refine ldA [_, _, _, _, _, _] ?_; refine st (.agg _) _ ?_; refine LS.done ?_; (repeat (first | refine zS ?_ | refine zR ?_ | refine zQ ?_ | refine zK ?_ | refine zI ?_ | refine zB ?_ | refine zE ?_)); refine RS.retC (ty := 28) Tryz.func29 [_, _, _, _, _, _] fun w hw => ?_
    refine ⟨_, rfl, hw.below, _, rfl, _, _, rfl, by show (nameOf a).size ≤ _; have := nameOf_size a; omega, by show I64 (n % 12); omega, by show I64 (n.tdiv 12 % 12); omega, ?_, ?_⟩
    · exact hq1.mono (hN1.le_since (PH.le_trans hτ1 hle3) hw)
    · show RepL _ _ (if n.tdiv 23 % 3 = 0 then setOf (n.tdiv 31) else []); rw [if_pos e]; exact hq2.mono (hN2.le_since hτ2 hw)
  · (repeat (first | refine zS ?_ | refine zR ?_ | refine zQ ?_ | refine zK ?_ | refine zI ?_ | refine zB ?_ | refine zE ?_))
    (repeat (first | refine zS ?_ | refine zR ?_ | refine zQ ?_ | refine zK ?_ | refine zI ?_ | refine zB ?_ | refine zE ?_)); refine ldA [_, _, _, _, _, _] ?_; refine st (.agg _) _ ?_; refine LS.done ?_; (repeat (first | refine zS ?_ | refine zR ?_ | refine zQ ?_ | refine zK ?_ | refine zI ?_ | refine zB ?_ | refine zE ?_)); refine RS.retC (ty := 28) Tryz.func29 [_, _, _, _, _, _] fun w hw => ?_
    refine ⟨_, rfl, hw.below, _, rfl, _, _, rfl, by show (nameOf a).size ≤ _; have := nameOf_size a; omega, by show I64 (n % 12); omega, by show I64 (n.tdiv 12 % 12); omega, ?_, ?_⟩
    · exact hq1.mono (hN1.le_since hτ1 hw)
    · show RepL _ _ (if n.tdiv 23 % 3 = 0 then setOf (n.tdiv 31) else []); rw [if_neg e]; exact RepL.nil _ _ _
end Go.Proofs.YtaiofgmhlfccgaaGreatDoor
namespace Go.Proofs.YtaiofgmhlfccgaaGreatDoor
open Go.JW Go.RowKit
theorem isSet_ofN (n : Int) : isSet (setOf n) = true := by
  simp only [setOf, setN]
  by_cases h0 : bitOf n 0 = 1 <;> by_cases h1 : bitOf n 1 = 1 <;> by_cases h2 : bitOf n 2 = 1 <;> by_cases h3 : bitOf n 3 = 1 <;> simp only [h0, h1, h2, h3, if_true, if_false] <;> decide +kernel
theorem isSet_orN (c : Prop) [Decidable c] (n : Int) : isSet (if c then setOf n else []) = true := by
  split
  · exact isSet_ofN n
  · decide
theorem isName_ofN (a : Int) : isName (nameOf a) = true := by
  obtain ⟨h1, h2⟩ := wmod a 8 (by omega)
  have h : (a % 8).toNat < 8 := by omega
  have : ∀ i : Fin 8, isName (names8.getD i.val ⟨#[]⟩) = true := by decide +kernel
  exact this ⟨_, h⟩
theorem node_okN (a n : Int) : nodeErr (nodeOf a n) = 0 := by
  obtain ⟨a1, a2⟩ := wmod n 12 (by omega)
  obtain ⟨b1, b2⟩ := wmod (n.tdiv 12) 12 (by omega)
  have h : sizeOk (n % 12) (n.tdiv 12 % 12) = true := by simp only [sizeOk, size1, Bool.and_eq_true, decide_eq_true_eq]; omega
  simp only [nodeErr, nodeOf, isName_ofN, h, isSet_ofN, isSet_orN]; rfl
def peersTo (n : Int) : Nat → List Int
  | 0 => []
  | k + 1 => if bitOf n (k + 1) = 1 ∨ (k + 1 = 4 ∧ peersTo n k = []) then peersTo n k ++ [((k + 1 : Nat) : Int)] else peersTo n k
def peersOf (n : Int) : List Int := peersTo n 4
theorem peersTo_len (n : Int) : ∀ k, (peersTo n k).length ≤ k := by
  intro k
  induction k with
  | zero => exact Nat.le_refl _
  | succ k ih => 
    simp only [peersTo]
    split
    · simp; omega
    · omega
theorem peers_okN (n : Int) : risingP (peersOf n) = true := by
  simp only [peersOf, peersTo]
  by_cases h1 : bitOf n (0 + 1) = 1 <;> by_cases h2 : bitOf n (1 + 1) = 1 <;> by_cases h3 : bitOf n (1 + 1 + 1) = 1 <;> by_cases h4 : bitOf n (2 + 1 + 1) = 1 <;> simp [h1, h2, h3, h4] <;> decide
theorem pnames_ok : ∀ i : Fin 8, isName (letter ⟨#[112]⟩ (i.val : Int)) = true := by decide +kernel
theorem pnames_inj : ∀ i j : Fin 8, letter ⟨#[112]⟩ (i.val : Int) = letter ⟨#[112]⟩ (j.val : Int) → i = j := by decide +kernel
def placeK (i : Nat) (k : Int) : PlaceD := ⟨letter ⟨#[112]⟩ (i : Int), nameOf k, k.tdiv 8 % 1099511627777, k % 9, decide (k.tdiv 3 % 3 = 0)⟩
def kAtN (ns : List Int) (i : Nat) : Int := if i < ns.length then ns.getD i 0 else i
def placeAt (ns : List Int) (i : Nat) : PlaceD := placeK i (kAtN ns i)
def placesN (ns : List Int) (m : Nat) : List PlaceD := (List.range m).map (placeAt ns)
def manyN (ns : List Int) : Nat := max 1 (min 8 ns.length)
def makeP (kind gang : Int) (ns : List Int) (name : Int) : RecD :=
  let k := 1 + kind % 7
  let g := 1 + gang % 999999
  if k = 1 then { rec0 with kind := k, node := nodeOf name (if ns.length = 0 then 5 else ns.getD 0 0) }
  else if k = 2 then { rec0 with kind := k, node := { node0 with name := nameOf name } }
  else if k = 3 then { rec0 with kind := k, gang := g, peers := peersOf name, places := placesN ns (manyN ns) }
  else if k = 7 then { rec0 with kind := k, gang := g, peers := peersOf name }
  else { rec0 with kind := k, gang := g }
theorem placeAt_ok (ns : List Int) (i : Nat) (h : i < 8) : placeE (placeAt ns i) = 0 := by
  obtain ⟨k, hk⟩ : ∃ k : Int, k = kAtN ns i := ⟨_, rfl⟩
  obtain ⟨a1, a2⟩ := wmod (k.tdiv 8) 1099511627777 (by omega)
  obtain ⟨b1, b2⟩ := wmod k 9 (by omega)
  have h1 : sizeOk (k.tdiv 8 % 1099511627777) (k % 9) = true := by simp only [sizeOk, size1, Bool.and_eq_true, decide_eq_true_eq]; omega
  have h2 := pnames_ok ⟨i, h⟩
  unfold placeE placeAt placeK
  simp only [← hk]
  rw [if_neg (by rw [h2, isName_ofN]; simp), if_neg (by rw [h1]; simp)]
theorem manyN_in (ns : List Int) : 1 ≤ manyN ns ∧ manyN ns ≤ 8 := by unfold manyN; omega
theorem placesN_ok (ns : List Int) (m : Nat) (h : 1 ≤ m ∧ m ≤ 8) : placesE (placesN ns m) = 0 := by
  have hl : (placesN ns m).length = m := by simp [placesN]
  unfold placesE
  rw [if_neg (by rw [hl]; omega), placesBad_ok fun i hi => by
    rw [hl] at hi
    simp only [placesN, List.getElem_map, List.getElem_range]
    exact placeAt_ok ns i (by omega)]
  rw [if_neg (by decide), dup_not fun i k hki hi hk => by
    rw [hl] at hi hk
    simp only [placesN, List.getElem_map, List.getElem_range]
    intro e
    have := pnames_inj ⟨i, by omega⟩ ⟨k, by omega⟩ e
    simp only [Fin.mk.injEq] at this
    omega]
  decide
theorem make_ok (kind gang : Int) (ns : List Int) (name : Int) : checkP (makeP kind gang ns name) = 0 := by
  obtain ⟨a1, a2⟩ := wmod kind 7 (by omega)
  obtain ⟨b1, b2⟩ := wmod gang 999999 (by omega)
  have hn := node_okN name (if ns = [] then 5 else ns[0]?.getD 0)
  have hnm := isName_ofN name
  have hp := peers_okN name
  have hl := placesN_ok ns _ (manyN_in ns)
  obtain ⟨k, hk⟩ : ∃ k, k = 1 + kind % 7 := ⟨_, rfl⟩
  unfold makeP
  simp only [← hk]
  have h7 : k = 1 ∨ k = 2 ∨ k = 3 ∨ k = 4 ∨ k = 5 ∨ k = 6 ∨ k = 7 := by omega
  have e0 : (⟨#[]⟩ : ByteArray).size = 0 := rfl
  have hg1 : ¬ (1 + gang % 999999 < 1) := by omega
  have hg2 : ¬ (999999 < 1 + gang % 999999) := by omega
  rcases h7 with rfl | rfl | rfl | rfl | rfl | rfl | rfl <;> simp [checkP, moreP, gangsP, peeredP, bareP, rec0, node0, hn, hnm, hp, hl, hg1, hg2, e0]
end Go.Proofs.YtaiofgmhlfccgaaGreatDoor
namespace Go.Proofs.YtaiofgmhlfccgaaGreatDoor
open Go.JW Go.RowKit
theorem peers4_c (n : Int) (w : World) : Calls Tryz.prog 31 #[.int .i64 n] w fun e w' => ∃ v, e = .returned v ∧ Below w.heap.size w w' ∧ RepL (since w w') v (peersOf n) := by
  refine RS.enter Tryz.func31 Tryz.ntmps31 rfl rfl ?_
  (repeat (first | refine zS ?_ | refine zR ?_ | refine zQ ?_ | refine zK ?_ | refine zI ?_ | refine zB ?_ | refine zE ?_)); refine asL ?_; refine LS.done ?_
  (repeat (first | refine zS ?_ | refine zR ?_ | refine zQ ?_ | refine zK ?_ | refine zI ?_ | refine zB ?_ | refine zE ?_)); refine asL ?_; refine LS.done ?_
  (repeat (first | refine zS ?_ | refine zR ?_ | refine zQ ?_ | refine zK ?_ | refine zI ?_ | refine zB ?_ | refine zE ?_)); refine asI ?_; refine LS.done ?_
  (repeat (first | refine zS ?_ | refine zR ?_ | refine zQ ?_ | refine zK ?_ | refine zI ?_ | refine zB ?_ | refine zE ?_))
  refine RS.nilD w.heap.size Int 3 ?_
  refine RS.loopF (X := Nat × Value) 3 28 (fun x => x.1 ≤ 4) (fun x => [(3, x.2), (4, .int .i64 ((x.1 + 1 : Nat) : Int))]) (fun _ => hp w) (fun x => [rowD w.heap.size 3 x.2 (peersTo n x.1)]) (fun x => 4 - x.1) (0, nilV) (by simp) ⟨rfl, rfl, trivial⟩ rfl ⟨fun h => h⟩ ?_
  rintro ⟨k, v⟩ g hk ih
  dsimp only at hk
  have hln := peersTo_len n k
  refine RS.formD (l := peersTo n k) v (fun a c ev _ => ?_); subst ev
  (repeat (first | refine zS ?_ | refine zR ?_ | refine zQ ?_ | refine zK ?_ | refine zI ?_ | refine zB ?_ | refine zE ?_)); refine mvI ?_; refine leI ?_; refine LS.done ?_
  (repeat (first | refine zS ?_ | refine zR ?_ | refine zQ ?_ | refine zK ?_ | refine zI ?_ | refine zB ?_ | refine zE ?_))
  by_cases hlt : k < 4
  · refine RS.condT ?_ (h := by simp; omega)
    have hwi : ((k + 1 : Nat) : Int) + 1 = ((k + 1 + 1 : Nat) : Int) := by omega
    have hI : I64 ((k + 1 : Nat) : Int) := by constructor <;> omega
    have hcell : ∀ τ : PH, CellsL τ [Value.int .i64 ((k + 1 : Nat) : Int)] [((k + 1 : Nat) : Int)] := fun τ => CellsL.one_ (show Rep.rep τ [Value.int .i64 ((k + 1 : Nat) : Int)] ((k + 1 : Nat) : Int) from ⟨rfl, hI⟩)
    (repeat (first | refine zS ?_ | refine zR ?_ | refine zQ ?_ | refine zK ?_ | refine zI ?_ | refine zB ?_ | refine zE ?_)); refine mvI ?_; refine mvI ?_; refine cvU ?_; refine shrI ?_
    refine callP ?_ (hc := fun w _ => w4_c _ _ (by omega) (by omega) w)
    refine eqI ?_; refine mvB ?_
    refine LS.cut 5 24 [(23, .bool (decide (bitOf n (k + 1) = 1 ∨ (k + 1 = 4 ∧ peersTo n k = []))))] (fun gg => ?_) (fun J => ?_)
    rotate_left
    · refine LS.part 15 (fun z => ?_) (fun z => ?_)
      · refine LS.off ?_; refine LS.off ?_; refine LS.off ?_; refine LS.offU ?_; refine LS.offU ?_; refine LS.offU ?_; refine LS.off ?_; refine pk (v := .bool _) ?_; refine LS.done ?_
        exact J ⟨boolV (by symm; exact decide_eq_true (.inl (of_decide_eq_true z))), trivial⟩ (by repeat (first | with_reducible exact Out.refl _ _ _ | exact Out.hv | refine Out.upd ?_ | refine Out.hvIn ?_))
      · have z := of_decide_eq_false z
        refine LS.on ?_; refine mvI ?_; refine LS.on ?_; refine eqI ?_; refine LS.on ?_; refine mvB ?_
        refine LS.part 18 (fun y => ?_) (fun y => ?_)
        · have y := of_decide_eq_true y
          refine LS.on ?_; refine mvL ?_; refine LS.on ?_; refine lenL ?_; refine LS.on ?_; refine eqI ?_; refine LS.on ?_; refine pk (v := .bool _) ?_; refine pk (v := .bool _) ?_; refine LS.done ?_
          exact J ⟨boolV (by
            rw [decide_eq_decide]
            constructor
            · intro h; exact .inr ⟨by omega, List.eq_nil_of_length_eq_zero (by omega)⟩
            · rintro (h | ⟨_, h⟩)
              · exact absurd h z
              · rw [h]; rfl), trivial⟩ (by repeat (first | with_reducible exact Out.refl _ _ _ | exact Out.hv | refine Out.upd ?_ | refine Out.hvIn ?_))
        · have y := of_decide_eq_false y
          refine LS.off ?_; refine LS.off ?_; refine LS.off ?_; refine LS.on ?_; refine pk (v := .bool _) ?_; refine pk (v := .bool _) ?_; refine LS.done ?_
          exact J ⟨boolV (by
            symm; apply decide_eq_false
            rintro (h | ⟨h, _⟩)
            · exact absurd h z
            · omega), trivial⟩ (by repeat (first | with_reducible exact Out.refl _ _ _ | exact Out.hv | refine Out.upd ?_ | refine Out.hvIn ?_))
    (repeat (first | refine zS ?_ | refine zR ?_ | refine zQ ?_ | refine zK ?_ | refine zI ?_ | refine zB ?_ | refine zE ?_))
    refine RS.cond (fun z => ?_) (fun z => ?_)
    · have z := of_decide_eq_true z
      (repeat (first | refine zS ?_ | refine zR ?_ | refine zQ ?_ | refine zK ?_ | refine zI ?_ | refine zB ?_ | refine zE ?_)); refine mvL ?_; refine mvI ?_; refine bldS [.int .i64 ((k + 1 : Nat) : Int)] [.int .i64 ((k + 1 : Nat) : Int)] (fun b26 => ?_); refine appD (v := .slice a (peersTo n k).length c) (l' := [((k + 1 : Nat) : Int)]) (vy := .slice (some ⟨b26, 0, none⟩) 1 1) (fun w' hw => ⟨_, srcB hw TSlice.eq, hcell _⟩) (fun v27 => ?_); refine as_ (v := v27) ?_; refine LS.done ?_
      (repeat (first | refine zS ?_ | refine zR ?_ | refine zQ ?_ | refine zK ?_ | refine zI ?_ | refine zB ?_ | refine zE ?_)); refine mvI ?_; (first | refine addN ?_ | refine addI ?_); refine asI ?_; refine LS.done ?_; (repeat (first | refine zS ?_ | refine zR ?_ | refine zQ ?_ | refine zK ?_ | refine zI ?_ | refine zB ?_ | refine zE ?_))
      exact ih (k + 1, v27) hlt (by (try dsimp only); omega) ⟨rfl, intV hwi, trivial⟩ (by repeat (first | with_reducible exact Out.refl _ _ _ | exact Out.hv | refine Out.upd ?_ | refine Out.hvIn ?_)) ⟨fun h => by simp only [peersTo]; rw [if_pos z]; exact h.tail⟩ rfl
    · have z := of_decide_eq_false z
      (repeat (first | refine zS ?_ | refine zR ?_ | refine zQ ?_ | refine zK ?_ | refine zI ?_ | refine zB ?_ | refine zE ?_)); refine mvI ?_; (first | refine addN ?_ | refine addI ?_); refine asI ?_; refine LS.done ?_; (repeat (first | refine zS ?_ | refine zR ?_ | refine zQ ?_ | refine zK ?_ | refine zI ?_ | refine zB ?_ | refine zE ?_))
      exact ih (k + 1, _) hlt (by (try dsimp only); omega) ⟨rfl, intV hwi, trivial⟩ (by repeat (first | with_reducible exact Out.refl _ _ _ | exact Out.hv | refine Out.upd ?_ | refine Out.hvIn ?_)) ⟨fun h => by simp only [peersTo]; rw [if_neg z]; exact h⟩ rfl
  · refine RS.condF ?_ (h := by simp; omega)
    obtain rfl : k = 4 := by omega
    (repeat (first | refine zS ?_ | refine zR ?_ | refine zQ ?_ | refine zK ?_ | refine zI ?_ | refine zB ?_ | refine zE ?_)); refine mvL ?_; refine asL ?_; refine LS.done ?_; (repeat (first | refine zS ?_ | refine zR ?_ | refine zQ ?_ | refine zK ?_ | refine zI ?_ | refine zB ?_ | refine zE ?_)); refine RS.ret1 (v := .slice _ _ _) Tryz.func31 fun w hw => ?_
    exact ⟨_, rfl, hw.below, hw.rowNewD (l := peersTo n 4) (Nat.le_refl _) (by omega)⟩
theorem placeK_rep (τ : PH) (i : Nat) (k : Int) : Rep.rep τ (placeC (placeK i k)) (placeK i k) := by
  obtain ⟨a1, a2⟩ := wmod (k.tdiv 8) 1099511627777 (by omega)
  obtain ⟨b1, b2⟩ := wmod k 9 (by omega)
  refine ⟨rfl, ?_, ?_, ?_, ?_⟩
  · show (letter _ _).size ≤ _; rw [letter_size]; decide
  · show (nameOf k).size ≤ _; have := nameOf_size k; omega
  · show I64 (k.tdiv 8 % 1099511627777); omega
  · show I64 (k % 9); omega
theorem placesN_succ (ns : List Int) (i : Nat) : placesN ns (i + 1) = placesN ns i ++ [placeAt ns i] := by unfold placesN; rw [List.range_succ, List.map_append]; rfl
theorem placesN_len (ns : List Int) (i : Nat) : (placesN ns i).length = i := by simp [placesN]
abbrev mkTy : TypeId := 40
theorem make_c (kind gang name : Int) (ns : List Int) (vn : Value) (w : World) (hr : RepL (hp w) vn ns) : Calls Tryz.prog 15 #[.int .i64 kind, .int .i64 gang, vn, .int .i64 name] w fun e w' =>
    ∃ v, e = .returned v ∧ Below w.heap.size w w' ∧ ∃ cs, v = .agg (List.toArray cs) ∧ Rep.rep (since w w') cs (makeP kind gang ns name) := by
  obtain ⟨an, cn, rfl⟩ := hr.form
  have hlen : ns.length ≤ 140737488355328 := hr.1
  obtain ⟨a1, a2⟩ := wmod kind 7 (by omega)
  obtain ⟨b1, b2⟩ := wmod gang 999999 (by omega)
  have z : I64 0 := ⟨by decide, by decide⟩
  have hgI : I64 (1 + gang % 999999) := ⟨by omega, by omega⟩
  have hwk : IntKind.i64.wrap (1 + kind % 7) = 1 + kind % 7 := wrapEq (by omega) (by omega)
  have hwg : IntKind.i64.wrap (1 + gang % 999999) = 1 + gang % 999999 := wrapEq (by omega) (by omega)
  have hm : manyN ns = max 1 (min 8 ns.length) := rfl
  refine RS.enter Tryz.func15 Tryz.ntmps15 rfl rfl ?_
  (repeat (first | refine zS ?_ | refine zR ?_ | refine zQ ?_ | refine zK ?_ | refine zI ?_ | refine zB ?_ | refine zE ?_)); refine alloc_ (fun b8 => ?_); refine LS.done ?_
  (repeat (first | refine zS ?_ | refine zR ?_ | refine zQ ?_ | refine zK ?_ | refine zI ?_ | refine zB ?_ | refine zE ?_)); refine mvI ?_
  refine callP ?_ (hc := fun w _ => w4_c _ _ (by omega) (by omega) w)
  (first | refine addN ?_ | refine addI ?_); refine mvI ?_
  refine callP ?_ (hc := fun w _ => w4_c _ _ (by omega) (by omega) w)
  (first | refine addN ?_ | refine addI ?_); refine bld (vals := [(0, .int _ _), (1, .int _ _)]) [_, _, _, _, _, _, _, _, _, _] ?_; refine alloc_ (fun b9 => ?_); refine st (.agg _) _ ?_; refine LS.done ?_
  (repeat (first | refine zS ?_ | refine zR ?_ | refine zQ ?_ | refine zK ?_ | refine zI ?_ | refine zB ?_ | refine zE ?_)); refine asI ?_; refine LS.done ?_
  (repeat (first | refine zS ?_ | refine zR ?_ | refine zQ ?_ | refine zK ?_ | refine zI ?_ | refine zB ?_ | refine zE ?_)); refine mvL ?_; refine lenL ?_; refine gtI ?_; refine LS.done ?_
  obtain ⟨k, hk⟩ : ∃ k, k = 1 + kind % 7 := ⟨_, rfl⟩
  have hk7 : k = 1 ∨ k = 2 ∨ k = 3 ∨ k = 4 ∨ k = 5 ∨ k = 6 ∨ k = 7 := by omega
  have hkI : I64 k := ⟨by omega, by omega⟩
  unfold makeP
  simp only [← hk]
  obtain ⟨n0, hn0⟩ : ∃ n0 : Int, n0 = if ns.length = 0 then 5 else ns.getD 0 0 := ⟨_, rfl⟩
  rw [← hn0]
  repeat refine RS.seq ?_
  refine RS.cut (X := Unit) 10 26 (fun _ => True) (fun _ => [(10, .int .i64 n0)]) (fun _ => hp w) (fun _ => [rcB b9 k (1 + gang % 999999) nilV nilV ⟨#[]⟩ 0 0 nilV nilV false, rcB b8 0 0 nilV nilV ⟨#[]⟩ 0 0 nilV nilV false]) ?_ (fun J => ?_)
  rotate_left
  · refine RS.cond (fun c => ?_) (fun c => ?_)
    · have c := of_decide_eq_true c
      obtain ⟨b, o, rfl, hrow⟩ := hr.addr (fun h => by simp [h] at c)
      obtain ⟨hcell, h64⟩ := hrow.int 0 (by omega)
      have e0 : ns[0]'(by omega) = n0 := by rw [hn0, if_neg (by omega)]; simp [List.getD_eq_getElem?_getD, show 0 < ns.length by omega]
      rw [e0] at hcell
      (repeat (first | refine zS ?_ | refine zR ?_ | refine zQ ?_ | refine zK ?_ | refine zI ?_ | refine zB ?_ | refine zE ?_)); refine mvL ?_; refine idx (i := 0) ?_ (hi := by omega); refine ldS hcell ?_; refine asI ?_; refine LS.done ?_
      exact J () trivial ⟨rfl, trivial⟩ (by repeat (first | with_reducible exact Out.refl _ _ _ | exact Out.hv | refine Out.upd ?_ | refine Out.hvIn ?_)) ⟨fun h => h⟩ rfl
    · have c := of_decide_eq_false c
      have e0 : n0 = 5 := by rw [hn0, if_pos (by omega)]
      refine RS.skip ?_
      exact J () trivial ⟨by rw [e0]; rfl, trivial⟩ (by repeat (first | with_reducible exact Out.refl _ _ _ | exact Out.hv | refine Out.upd ?_ | refine Out.hvIn ?_)) ⟨fun h => h⟩ rfl
  rintro _ g _
  have hn64 : I64 n0 := by
    rw [hn0]; split
    · exact ⟨by decide, by decide⟩
    · rename_i h0
      obtain ⟨b, o, e, hrow⟩ := hr.addr (fun h => by simp [h] at h0)
      obtain ⟨_, h64⟩ := hrow.int 0 (by omega)
      simpa [List.getD_eq_getElem?_getD, show 0 < ns.length by omega] using h64
  (repeat (first | refine zS ?_ | refine zR ?_ | refine zQ ?_ | refine zK ?_ | refine zI ?_ | refine zB ?_ | refine zE ?_)); refine fld ?_; refine ld1 (v := .int _ _) ?_; refine LS.done ?_
  (repeat (first | refine zS ?_ | refine zR ?_ | refine zQ ?_ | refine zK ?_ | refine zI ?_ | refine zB ?_ | refine zE ?_)); refine eqI ?_; refine asB ?_; refine LS.done ?_
  (repeat (first | refine zS ?_ | refine zR ?_ | refine zQ ?_ | refine zK ?_ | refine zI ?_ | refine zB ?_ | refine zE ?_))
  rcases hk7 with rfl | rfl | rfl | rfl | rfl | rfl | rfl
  · refine RS.condT ?_
    (repeat (first | refine zS ?_ | refine zR ?_ | refine zQ ?_ | refine zK ?_ | refine zI ?_ | refine zB ?_ | refine zE ?_)); refine mvI ?_; refine mvI ?_
    refine callT (fun v τ => ∃ cs, v = .agg (List.toArray cs) ∧ Rep.rep τ cs (nodeOf name n0)) (fun v τ1 σ1 hq hN hle hτ => ?_) (fun w _ => lnode_c name n0 hn64 w)
    obtain ⟨cs, rfl, vm, vt, rfl, m1, m2, m3, hm1, ht1⟩ := hq
    obtain ⟨am, cm, rfl⟩ := hm1.form
    obtain ⟨at_, ct, rfl⟩ := ht1.form
    refine fld ?_; refine st (.int _ _) _ ?_; refine fld ?_; refine st (.agg _) _ ?_; refine LS.done ?_
    (repeat (first | refine zS ?_ | refine zR ?_ | refine zQ ?_ | refine zK ?_ | refine zI ?_ | refine zB ?_ | refine zE ?_))
    (repeat (first | refine zS ?_ | refine zR ?_ | refine zQ ?_ | refine zK ?_ | refine zI ?_ | refine zB ?_ | refine zE ?_)); refine ldA [_, _, _, _, _, _, _, _, _, _] ?_; refine st (.agg _) _ ?_; refine LS.done ?_
    (repeat (first | refine zS ?_ | refine zR ?_ | refine zQ ?_ | refine zK ?_ | refine zI ?_ | refine zB ?_ | refine zE ?_)); refine RS.retC (ty := 30) Tryz.func15 [_, _, _, _, _, _, _, _, _, _] fun w hw => ?_
    exact ⟨_, rfl, hw.below, _, rfl, _, _, _, _, rfl, hkI, z, RepL.nil _ _ _, RepL.nil _ _ _, m1, m2, m3, hm1.mono (hN.le_since hτ hw), ht1.mono (hN.le_since hτ hw)⟩
  · refine RS.condF ?_
    (repeat (first | refine zS ?_ | refine zR ?_ | refine zQ ?_ | refine zK ?_ | refine zI ?_ | refine zB ?_ | refine zE ?_)); refine eqI ?_; refine asB ?_; refine LS.done ?_
    (repeat (first | refine zS ?_ | refine zR ?_ | refine zQ ?_ | refine zK ?_ | refine zI ?_ | refine zB ?_ | refine zE ?_))
    refine RS.condT ?_
    (repeat (first | refine zS ?_ | refine zR ?_ | refine zQ ?_ | refine zK ?_ | refine zI ?_ | refine zB ?_ | refine zE ?_)); refine mvI ?_
    refine callP ?_ (hc := fun w _ => lname_c _ w)
    refine fld ?_; refine st (.int _ _) _ ?_; refine fld ?_; refine fld ?_; refine st (.string _) _ ?_; refine LS.done ?_
    (repeat (first | refine zS ?_ | refine zR ?_ | refine zQ ?_ | refine zK ?_ | refine zI ?_ | refine zB ?_ | refine zE ?_))
    (repeat (first | refine zS ?_ | refine zR ?_ | refine zQ ?_ | refine zK ?_ | refine zI ?_ | refine zB ?_ | refine zE ?_)); refine ldA [_, _, _, _, _, _, _, _, _, _] ?_; refine st (.agg _) _ ?_; refine LS.done ?_
    (repeat (first | refine zS ?_ | refine zR ?_ | refine zQ ?_ | refine zK ?_ | refine zI ?_ | refine zB ?_ | refine zE ?_)); refine RS.retC (ty := 30) Tryz.func15 [_, _, _, _, _, _, _, _, _, _] fun w hw => ?_
    exact ⟨_, rfl, hw.below, _, rfl, _, _, _, _, rfl, hkI, z, RepL.nil _ _ _, RepL.nil _ _ _, by show (nameOf name).size ≤ _; have := nameOf_size name; omega, z, z, RepL.nil _ _ _, RepL.nil _ _ _⟩
  · refine RS.condF ?_
    (repeat (first | refine zS ?_ | refine zR ?_ | refine zQ ?_ | refine zK ?_ | refine zI ?_ | refine zB ?_ | refine zE ?_)); refine eqI ?_; refine asB ?_; refine LS.done ?_
    (repeat (first | refine zS ?_ | refine zR ?_ | refine zQ ?_ | refine zK ?_ | refine zI ?_ | refine zB ?_ | refine zE ?_))
    refine RS.condF ?_
    (repeat (first | refine zS ?_ | refine zR ?_ | refine zQ ?_ | refine zK ?_ | refine zI ?_ | refine zB ?_ | refine zE ?_)); refine eqI ?_; refine asB ?_; refine LS.done ?_
    (repeat (first | refine zS ?_ | refine zR ?_ | refine zQ ?_ | refine zK ?_ | refine zI ?_ | refine zB ?_ | refine zE ?_))
    refine RS.condT ?_
    (repeat (first | refine zS ?_ | refine zR ?_ | refine zQ ?_ | refine zK ?_ | refine zI ?_ | refine zB ?_ | refine zE ?_)); refine mvI ?_
    refine callT (fun v τ => RepL τ v (peersOf name)) (fun v τ1 σ1 hq hN hle hτ => ?_) (fun w _ => peers4_c name w)
    obtain ⟨ap, cp, rfl⟩ := hq.form
    have k1 := hle
    refine fld ?_; refine st (.slice _ _ _) _ ?_; refine LS.done ?_
    (repeat (first | refine zS ?_ | refine zR ?_ | refine zQ ?_ | refine zK ?_ | refine zI ?_ | refine zB ?_ | refine zE ?_)); refine asI ?_; refine LS.done ?_
    (repeat (first | refine zS ?_ | refine zR ?_ | refine zQ ?_ | refine zK ?_ | refine zI ?_ | refine zB ?_ | refine zE ?_))
    refine RS.nilD w.heap.size PlaceD mkTy ?_
    refine RS.loopF (X := Nat × Value × PH) 11 94 (fun x => x.1 ≤ manyN ns ∧ PH.le σ1 x.2.2) (fun x => [(11, .int .i64 x.1)]) (fun x => x.2.2)
      (fun x => [rowD w.heap.size mkTy x.2.1 (placesN ns x.1), rcB b9 3 (1 + gang % 999999) (.slice ap (peersOf name).length cp) x.2.1 ⟨#[]⟩ 0 0 nilV nilV false, rcB b8 0 0 nilV nilV ⟨#[]⟩ 0 0 nilV nilV false]) (fun x => manyN ns - x.1) (0, nilV, σ1) ⟨Nat.zero_le _, PH.le_refl _⟩ ⟨rfl, trivial⟩ rfl ⟨fun h => h⟩ ?_
    rintro ⟨i, vq, σ2⟩ g2 ⟨hi, hle⟩ ih
    dsimp only at hi hle
    have hpl := placesN_len ns i
    (repeat (first | refine zS ?_ | refine zR ?_ | refine zQ ?_ | refine zK ?_ | refine zI ?_ | refine zB ?_ | refine zE ?_)); refine mvI ?_; refine ltI ?_; refine mvB ?_
    refine LS.cut 47 59 [(58, .bool (decide (i < manyN ns)))] (fun gg => ?_) (fun J => ?_)
    rotate_left
    · refine LS.part 49 (fun z1 => ?_) (fun z1 => ?_)
      · have z1 := of_decide_eq_true z1
        refine LS.on ?_; refine mvI ?_; refine LS.on ?_; refine mvL ?_; refine LS.on ?_; refine lenL ?_; refine LS.on ?_; refine ltI ?_; refine pk (v := .bool _) ?_; refine mvB ?_
        refine LS.part 55 (fun z2 => ?_) (fun z2 => ?_)
        · have z2 := of_decide_eq_true z2
          refine LS.off ?_; refine LS.off ?_; refine pk (v := .bool _) ?_; refine LS.done ?_
          exact J ⟨boolV (by symm; apply decide_eq_true; omega), trivial⟩ (by repeat (first | with_reducible exact Out.refl _ _ _ | exact Out.hv | refine Out.upd ?_ | refine Out.hvIn ?_))
        · have z2 := of_decide_eq_false z2
          refine LS.on ?_; refine mvI ?_; refine LS.on ?_; refine eqI ?_; refine pk (v := .bool _) ?_; refine LS.done ?_
          exact J ⟨boolV (by rw [decide_eq_decide]; omega), trivial⟩ (by repeat (first | with_reducible exact Out.refl _ _ _ | exact Out.hv | refine Out.upd ?_ | refine Out.hvIn ?_))
      · have z1 := of_decide_eq_false z1
        refine LS.off ?_; refine LS.off ?_; refine LS.off ?_; refine LS.off ?_; refine pk (v := .bool _) ?_; refine mvB ?_; refine LS.on ?_; refine mvI ?_; refine LS.on ?_; refine eqI ?_; refine pk (v := .bool _) ?_; refine LS.done ?_
        exact J ⟨boolV (by rw [decide_eq_decide]; omega), trivial⟩ (by repeat (first | with_reducible exact Out.refl _ _ _ | exact Out.hv | refine Out.upd ?_ | refine Out.hvIn ?_))
    (repeat (first | refine zS ?_ | refine zR ?_ | refine zQ ?_ | refine zK ?_ | refine zI ?_ | refine zB ?_ | refine zE ?_))
    refine RS.cond (fun c => ?_) (fun c => ?_)
    · have c := of_decide_eq_true c
      have hi8 : i < 8 := by omega
      have hp1 : (⟨#[112]⟩ : ByteArray).size = 1 := rfl
      have hf1 : (List.foldl (fun (r : ByteArray) (n : Int) => r.push (UInt8.ofNat n.toNat)) ByteArray.empty [IntKind.u8.wrap (97 + (i : Int))]).size = 1 := by simp only [List.foldl]; rw [ByteArray.size_push]; rfl
      (repeat (first | refine zS ?_ | refine zR ?_ | refine zQ ?_ | refine zK ?_ | refine zI ?_ | refine zB ?_ | refine zE ?_)); refine mvI ?_; refine asI ?_; refine LS.done ?_
      (repeat (first | refine zS ?_ | refine zR ?_ | refine zQ ?_ | refine zK ?_ | refine zI ?_ | refine zB ?_ | refine zE ?_)); refine mvI ?_; refine mvL ?_; refine lenL ?_; refine ltI ?_; refine LS.done ?_
      (repeat (first | refine zS ?_ | refine zR ?_ | refine zQ ?_ | refine zK ?_ | refine zI ?_ | refine zB ?_ | refine zE ?_))
      by_cases hin : i < ns.length
      · refine RS.condT ?_ (h := by simp; omega)
        obtain ⟨b, o, rfl, hrow⟩ := hr.addr (List.ne_nil_of_length_pos (by omega))
        obtain ⟨hcell, h64⟩ := (hrow.mono (PH.le_trans k1 hle)).int i hin
        have e0 : ns[i] = ns.getD i 0 := by simp [List.getD_eq_getElem?_getD, hin]
        rw [e0] at hcell h64
        (repeat (first | refine zS ?_ | refine zR ?_ | refine zQ ?_ | refine zK ?_ | refine zI ?_ | refine zB ?_ | refine zE ?_)); refine mvL ?_; refine mvI ?_; refine idx (i := i) ?_; refine ldS hcell ?_; refine asI ?_; refine LS.done ?_
        have hkk : ns.getD i 0 = kAtN ns i := by unfold kAtN; first | rw [if_pos hin] | rw [if_neg hin]
        (repeat (first | refine RS.seq ?_ | refine RS.region ?_ | refine RS.skip ?_ | refine RS.inBlock ?_ | refine RS.block ?_ | refine RS.exit ?_)); refine RS.draw [.free, .ex, .free, .free, .free, .ex, .ex, .free, .free, .ex, .free, .free, .ex, .free, .ex, .free, .free, .free, .ex, .free, .free, .ex, .eff, .free, .st] [rcB b9 3 (1 + gang % 999999) (.slice ap (peersOf name).length cp) vq ⟨#[]⟩ 0 0 nilV nilV false] ?_ (by kernel_rfl) (by kernel_rfl) (by infer_instance); refine D.fld ?_; refine D.ld1 (v := vq) ?_; refine D.mvI ?_; (first | refine D.addN ?_ | refine D.addI ?_); refine D.cvI ?_
        refine D.bldL [.int .u8 _] [.int .u8 _] ?_
        refine D.b2s (c0 := 1) [IntKind.u8.wrap (97 + (i : Int))] 75 ?_ (fun us σ' _ ⟨⟨b, h1, h2⟩, _⟩ => ⟨b, h1, fun j hj => by simp [PH.cell, h2]⟩); refine D.addS ?_; refine D.mvI ?_
        refine D.callP ?_ (hc := fun _ _ w _ _ _ => lname_c _ w)
        refine D.mvI ?_; refine D.quoN ?_
        refine D.callP ?_ (hc := fun _ _ w _ _ _ => w4_c _ _ (by omega) (by omega) w)
        refine D.mvI ?_
        refine D.callP ?_ (hc := fun _ _ w _ _ _ => w4_c _ _ (by omega) (by omega) w)
        refine D.bld (vals := [(0, .int _ _), (1, .int _ _)]) [_, _] ?_; refine D.mvI ?_; refine D.quoN ?_
        refine D.callP ?_ (hc := fun _ _ w _ _ _ => w4_c _ _ (by omega) (by omega) w)
        refine D.eqI ?_; refine D.bld (vals := [(0, .string _), (1, .string _), (2, .agg (List.toArray [_, _])), (3, .bool _)]) [_, _, _, _, _] ?_; refine D.litT w.heap.size [placeK i (ns.getD i 0)] (vs := fun us => [.agg (List.toArray (placeC (placeK i (ns.getD i 0))))]) ?_ (fun us σ' _ _ => ⟨placeK_rep _ i (ns.getD i 0), trivial⟩); refine D.appD vq [placeK i (ns.getD i 0)] (vy := fun us => us 91) ?_ (fun us σ' _ ⟨h1, _⟩ => ⟨_, h1, PH.le_refl _⟩); refine D.fld ?_
        refine D.stU 92 (fun us => recC { rec0 with kind := 3, gang := 1 + gang % 999999 } (.slice ap (peersOf name).length cp) (us 92) nilV nilV) ?_
        refine D.done (fun us σ3 hle3 hfs => ?_)
        have k3 := hle3
        refine RS.ow ?_
        (repeat (first | refine zS ?_ | refine zR ?_ | refine zQ ?_ | refine zK ?_ | refine zI ?_ | refine zB ?_ | refine zE ?_)); refine mvI ?_; (first | refine addN ?_ | refine addI ?_); refine asI ?_; refine LS.done ?_; (repeat (first | refine zS ?_ | refine zR ?_ | refine zQ ?_ | refine zK ?_ | refine zI ?_ | refine zB ?_ | refine zE ?_))
        have hsu : placesN ns i ++ [placeK i (ns.getD i 0)] = placesN ns (i + 1) := by rw [placesN_succ]; unfold placeAt; rw [← hkk]
        exact ih (i + 1, us 92, _) ⟨by (try dsimp only); omega, PH.le_trans hle k3⟩ (by (try dsimp only); omega) ⟨rfl, trivial⟩ (by repeat (first | with_reducible exact Out.refl _ _ _ | exact Out.hv | refine Out.upd ?_ | refine Out.hvIn ?_)) ⟨fun h => by simp only [← hsu]; exact h⟩ rfl
      · refine RS.condF ?_ (h := by simp; omega)
        have hkk : (i : Int) = kAtN ns i := by unfold kAtN; first | rw [if_pos hin] | rw [if_neg hin]
        (repeat (first | refine RS.seq ?_ | refine RS.region ?_ | refine RS.skip ?_ | refine RS.inBlock ?_ | refine RS.block ?_ | refine RS.exit ?_)); refine RS.draw [.free, .ex, .free, .free, .free, .ex, .ex, .free, .free, .ex, .free, .free, .ex, .free, .ex, .free, .free, .free, .ex, .free, .free, .ex, .eff, .free, .st] [rcB b9 3 (1 + gang % 999999) (.slice ap (peersOf name).length cp) vq ⟨#[]⟩ 0 0 nilV nilV false] ?_ (by kernel_rfl) (by kernel_rfl) (by infer_instance); refine D.fld ?_; refine D.ld1 (v := vq) ?_; refine D.mvI ?_; (first | refine D.addN ?_ | refine D.addI ?_); refine D.cvI ?_
        refine D.bldL [.int .u8 _] [.int .u8 _] ?_
        refine D.b2s (c0 := 1) [IntKind.u8.wrap (97 + (i : Int))] 75 ?_ (fun us σ' _ ⟨⟨b, h1, h2⟩, _⟩ => ⟨b, h1, fun j hj => by simp [PH.cell, h2]⟩); refine D.addS ?_; refine D.mvI ?_
        refine D.callP ?_ (hc := fun _ _ w _ _ _ => lname_c _ w)
        refine D.mvI ?_; refine D.quoN ?_
        refine D.callP ?_ (hc := fun _ _ w _ _ _ => w4_c _ _ (by omega) (by omega) w)
        refine D.mvI ?_
        refine D.callP ?_ (hc := fun _ _ w _ _ _ => w4_c _ _ (by omega) (by omega) w)
        refine D.bld (vals := [(0, .int _ _), (1, .int _ _)]) [_, _] ?_; refine D.mvI ?_; refine D.quoN ?_
        refine D.callP ?_ (hc := fun _ _ w _ _ _ => w4_c _ _ (by omega) (by omega) w)
        refine D.eqI ?_; refine D.bld (vals := [(0, .string _), (1, .string _), (2, .agg (List.toArray [_, _])), (3, .bool _)]) [_, _, _, _, _] ?_; refine D.litT w.heap.size [placeK i ((i : Int))] (vs := fun us => [.agg (List.toArray (placeC (placeK i ((i : Int)))))]) ?_ (fun us σ' _ _ => ⟨placeK_rep _ i ((i : Int)), trivial⟩); refine D.appD vq [placeK i ((i : Int))] (vy := fun us => us 91) ?_ (fun us σ' _ ⟨h1, _⟩ => ⟨_, h1, PH.le_refl _⟩); refine D.fld ?_
        refine D.stU 92 (fun us => recC { rec0 with kind := 3, gang := 1 + gang % 999999 } (.slice ap (peersOf name).length cp) (us 92) nilV nilV) ?_
        refine D.done (fun us σ3 hle3 hfs => ?_)
        have k3 := hle3
        refine RS.ow ?_
        (repeat (first | refine zS ?_ | refine zR ?_ | refine zQ ?_ | refine zK ?_ | refine zI ?_ | refine zB ?_ | refine zE ?_)); refine mvI ?_; (first | refine addN ?_ | refine addI ?_); refine asI ?_; refine LS.done ?_; (repeat (first | refine zS ?_ | refine zR ?_ | refine zQ ?_ | refine zK ?_ | refine zI ?_ | refine zB ?_ | refine zE ?_))
        have hsu : placesN ns i ++ [placeK i ((i : Int))] = placesN ns (i + 1) := by rw [placesN_succ]; unfold placeAt; rw [← hkk]
        exact ih (i + 1, us 92, _) ⟨by (try dsimp only); omega, PH.le_trans hle k3⟩ (by (try dsimp only); omega) ⟨rfl, trivial⟩ (by repeat (first | with_reducible exact Out.refl _ _ _ | exact Out.hv | refine Out.upd ?_ | refine Out.hvIn ?_)) ⟨fun h => by simp only [← hsu]; exact h⟩ rfl
    · have c := of_decide_eq_false c
      obtain rfl : i = manyN ns := by omega
      have hm8 := manyN_in ns
      refine RS.exit ?_
      refine RS.formD (l := placesN ns (manyN ns)) vq (fun a7 c7 e7 _ => ?_); subst e7
      (repeat (first | refine zS ?_ | refine zR ?_ | refine zQ ?_ | refine zK ?_ | refine zI ?_ | refine zB ?_ | refine zE ?_))
      (repeat (first | refine zS ?_ | refine zR ?_ | refine zQ ?_ | refine zK ?_ | refine zI ?_ | refine zB ?_ | refine zE ?_)); refine ldA [_, _, _, _, _, _, _, _, _, _] ?_; refine st (.agg _) _ ?_; refine LS.done ?_
      (repeat (first | refine zS ?_ | refine zR ?_ | refine zQ ?_ | refine zK ?_ | refine zI ?_ | refine zB ?_ | refine zE ?_)); refine RS.retC (ty := 30) Tryz.func15 [_, _, _, _, _, _, _, _, _, _] fun w hw => ?_
      exact ⟨_, rfl, hw.below, _, rfl, _, _, _, _, rfl, hkI, hgI, hq.mono (hN.le_since (PH.le_trans hτ hle) hw), hw.rowNewD (l := placesN ns (manyN ns)) (Nat.le_refl _) (by omega), Nat.zero_le _, z, z, RepL.nil _ _ _, RepL.nil _ _ _⟩
  · refine RS.condF ?_
    (repeat (first | refine zS ?_ | refine zR ?_ | refine zQ ?_ | refine zK ?_ | refine zI ?_ | refine zB ?_ | refine zE ?_)); refine eqI ?_; refine asB ?_; refine LS.done ?_
    (repeat (first | refine zS ?_ | refine zR ?_ | refine zQ ?_ | refine zK ?_ | refine zI ?_ | refine zB ?_ | refine zE ?_))
    refine RS.condF ?_
    (repeat (first | refine zS ?_ | refine zR ?_ | refine zQ ?_ | refine zK ?_ | refine zI ?_ | refine zB ?_ | refine zE ?_)); refine eqI ?_; refine asB ?_; refine LS.done ?_
    (repeat (first | refine zS ?_ | refine zR ?_ | refine zQ ?_ | refine zK ?_ | refine zI ?_ | refine zB ?_ | refine zE ?_))
    refine RS.condF ?_
    (repeat (first | refine zS ?_ | refine zR ?_ | refine zQ ?_ | refine zK ?_ | refine zI ?_ | refine zB ?_ | refine zE ?_)); refine eqI ?_; refine asB ?_; refine LS.done ?_
    (repeat (first | refine zS ?_ | refine zR ?_ | refine zQ ?_ | refine zK ?_ | refine zI ?_ | refine zB ?_ | refine zE ?_))
    refine RS.condF ?_
    (repeat (first | refine zS ?_ | refine zR ?_ | refine zQ ?_ | refine zK ?_ | refine zI ?_ | refine zB ?_ | refine zE ?_))
    (repeat (first | refine zS ?_ | refine zR ?_ | refine zQ ?_ | refine zK ?_ | refine zI ?_ | refine zB ?_ | refine zE ?_)); refine ldA [_, _, _, _, _, _, _, _, _, _] ?_; refine st (.agg _) _ ?_; refine LS.done ?_
    (repeat (first | refine zS ?_ | refine zR ?_ | refine zQ ?_ | refine zK ?_ | refine zI ?_ | refine zB ?_ | refine zE ?_)); refine RS.retC (ty := 30) Tryz.func15 [_, _, _, _, _, _, _, _, _, _] fun w hw => ?_
    exact ⟨_, rfl, hw.below, _, rfl, _, _, _, _, rfl, hkI, hgI, RepL.nil _ _ _, RepL.nil _ _ _, Nat.zero_le _, z, z, RepL.nil _ _ _, RepL.nil _ _ _⟩
  · refine RS.condF ?_
    (repeat (first | refine zS ?_ | refine zR ?_ | refine zQ ?_ | refine zK ?_ | refine zI ?_ | refine zB ?_ | refine zE ?_)); refine eqI ?_; refine asB ?_; refine LS.done ?_
    (repeat (first | refine zS ?_ | refine zR ?_ | refine zQ ?_ | refine zK ?_ | refine zI ?_ | refine zB ?_ | refine zE ?_))
    refine RS.condF ?_
    (repeat (first | refine zS ?_ | refine zR ?_ | refine zQ ?_ | refine zK ?_ | refine zI ?_ | refine zB ?_ | refine zE ?_)); refine eqI ?_; refine asB ?_; refine LS.done ?_
    (repeat (first | refine zS ?_ | refine zR ?_ | refine zQ ?_ | refine zK ?_ | refine zI ?_ | refine zB ?_ | refine zE ?_))
    refine RS.condF ?_
    (repeat (first | refine zS ?_ | refine zR ?_ | refine zQ ?_ | refine zK ?_ | refine zI ?_ | refine zB ?_ | refine zE ?_)); refine eqI ?_; refine asB ?_; refine LS.done ?_
    (repeat (first | refine zS ?_ | refine zR ?_ | refine zQ ?_ | refine zK ?_ | refine zI ?_ | refine zB ?_ | refine zE ?_))
    refine RS.condF ?_
    (repeat (first | refine zS ?_ | refine zR ?_ | refine zQ ?_ | refine zK ?_ | refine zI ?_ | refine zB ?_ | refine zE ?_))
    (repeat (first | refine zS ?_ | refine zR ?_ | refine zQ ?_ | refine zK ?_ | refine zI ?_ | refine zB ?_ | refine zE ?_)); refine ldA [_, _, _, _, _, _, _, _, _, _] ?_; refine st (.agg _) _ ?_; refine LS.done ?_
    (repeat (first | refine zS ?_ | refine zR ?_ | refine zQ ?_ | refine zK ?_ | refine zI ?_ | refine zB ?_ | refine zE ?_)); refine RS.retC (ty := 30) Tryz.func15 [_, _, _, _, _, _, _, _, _, _] fun w hw => ?_
    exact ⟨_, rfl, hw.below, _, rfl, _, _, _, _, rfl, hkI, hgI, RepL.nil _ _ _, RepL.nil _ _ _, Nat.zero_le _, z, z, RepL.nil _ _ _, RepL.nil _ _ _⟩
  · refine RS.condF ?_
    (repeat (first | refine zS ?_ | refine zR ?_ | refine zQ ?_ | refine zK ?_ | refine zI ?_ | refine zB ?_ | refine zE ?_)); refine eqI ?_; refine asB ?_; refine LS.done ?_
    (repeat (first | refine zS ?_ | refine zR ?_ | refine zQ ?_ | refine zK ?_ | refine zI ?_ | refine zB ?_ | refine zE ?_))
    refine RS.condF ?_
    (repeat (first | refine zS ?_ | refine zR ?_ | refine zQ ?_ | refine zK ?_ | refine zI ?_ | refine zB ?_ | refine zE ?_)); refine eqI ?_; refine asB ?_; refine LS.done ?_
    (repeat (first | refine zS ?_ | refine zR ?_ | refine zQ ?_ | refine zK ?_ | refine zI ?_ | refine zB ?_ | refine zE ?_))
    refine RS.condF ?_
    (repeat (first | refine zS ?_ | refine zR ?_ | refine zQ ?_ | refine zK ?_ | refine zI ?_ | refine zB ?_ | refine zE ?_)); refine eqI ?_; refine asB ?_; refine LS.done ?_
    (repeat (first | refine zS ?_ | refine zR ?_ | refine zQ ?_ | refine zK ?_ | refine zI ?_ | refine zB ?_ | refine zE ?_))
    refine RS.condF ?_
    (repeat (first | refine zS ?_ | refine zR ?_ | refine zQ ?_ | refine zK ?_ | refine zI ?_ | refine zB ?_ | refine zE ?_))
    (repeat (first | refine zS ?_ | refine zR ?_ | refine zQ ?_ | refine zK ?_ | refine zI ?_ | refine zB ?_ | refine zE ?_)); refine ldA [_, _, _, _, _, _, _, _, _, _] ?_; refine st (.agg _) _ ?_; refine LS.done ?_
    (repeat (first | refine zS ?_ | refine zR ?_ | refine zQ ?_ | refine zK ?_ | refine zI ?_ | refine zB ?_ | refine zE ?_)); refine RS.retC (ty := 30) Tryz.func15 [_, _, _, _, _, _, _, _, _, _] fun w hw => ?_
    exact ⟨_, rfl, hw.below, _, rfl, _, _, _, _, rfl, hkI, hgI, RepL.nil _ _ _, RepL.nil _ _ _, Nat.zero_le _, z, z, RepL.nil _ _ _, RepL.nil _ _ _⟩
  · refine RS.condF ?_
    (repeat (first | refine zS ?_ | refine zR ?_ | refine zQ ?_ | refine zK ?_ | refine zI ?_ | refine zB ?_ | refine zE ?_)); refine eqI ?_; refine asB ?_; refine LS.done ?_
    (repeat (first | refine zS ?_ | refine zR ?_ | refine zQ ?_ | refine zK ?_ | refine zI ?_ | refine zB ?_ | refine zE ?_))
    refine RS.condF ?_
    (repeat (first | refine zS ?_ | refine zR ?_ | refine zQ ?_ | refine zK ?_ | refine zI ?_ | refine zB ?_ | refine zE ?_)); refine eqI ?_; refine asB ?_; refine LS.done ?_
    (repeat (first | refine zS ?_ | refine zR ?_ | refine zQ ?_ | refine zK ?_ | refine zI ?_ | refine zB ?_ | refine zE ?_))
    refine RS.condF ?_
    (repeat (first | refine zS ?_ | refine zR ?_ | refine zQ ?_ | refine zK ?_ | refine zI ?_ | refine zB ?_ | refine zE ?_)); refine eqI ?_; refine asB ?_; refine LS.done ?_
    (repeat (first | refine zS ?_ | refine zR ?_ | refine zQ ?_ | refine zK ?_ | refine zI ?_ | refine zB ?_ | refine zE ?_))
    refine RS.condT ?_
    (repeat (first | refine zS ?_ | refine zR ?_ | refine zQ ?_ | refine zK ?_ | refine zI ?_ | refine zB ?_ | refine zE ?_)); refine mvI ?_
    refine callT (fun v τ => RepL τ v (peersOf name)) (fun v τ1 σ1 hq hN hle hτ => ?_) (fun w _ => peers4_c name w)
    obtain ⟨ap, cp, rfl⟩ := hq.form
    refine fld ?_; refine st (.slice _ _ _) _ ?_; refine LS.done ?_
    (repeat (first | refine zS ?_ | refine zR ?_ | refine zQ ?_ | refine zK ?_ | refine zI ?_ | refine zB ?_ | refine zE ?_))
    (repeat (first | refine zS ?_ | refine zR ?_ | refine zQ ?_ | refine zK ?_ | refine zI ?_ | refine zB ?_ | refine zE ?_)); refine ldA [_, _, _, _, _, _, _, _, _, _] ?_; refine st (.agg _) _ ?_; refine LS.done ?_
    (repeat (first | refine zS ?_ | refine zR ?_ | refine zQ ?_ | refine zK ?_ | refine zI ?_ | refine zB ?_ | refine zE ?_)); refine RS.retC (ty := 30) Tryz.func15 [_, _, _, _, _, _, _, _, _, _] fun w hw => ?_
    exact ⟨_, rfl, hw.below, _, rfl, _, _, _, _, rfl, hkI, hgI, hq.mono (hN.le_since hτ hw), RepL.nil _ _ _, Nat.zero_le _, z, z, RepL.nil _ _ _, RepL.nil _ _ _⟩
end Go.Proofs.YtaiofgmhlfccgaaGreatDoor
namespace Go.Proofs.YtaiofgmhlfccgaaGreatDoor
open Go.JW Go.RowKit
def rec7 : RecD := { rec0 with kind := 4, gang := 7 }
theorem rec7_ok : checkP rec7 = 0 := by decide +kernel
theorem rec7_text : textP rec7 = [99, 111, 109, 109, 105, 116, 32, 55] := by decide +kernel
theorem parse7 : parseP [99, 111, 109, 109, 105, 116, 32, 55] = (rec7, 0) := by rw [← rec7_text]; exact parse_text rec7_ok
theorem parse_nil : parseP [] = (rec0, 8) := by unfold parseP; rw [show readO (wordsP []) = none from rfl]
theorem rec7_rep (σ : PH) : Rep.rep σ (recC rec7 nilV nilV nilV nilV) rec7 :=
  have z : I64 0 := ⟨by decide, by decide⟩
  ⟨_, _, _, _, rfl, ⟨by decide, by decide⟩, ⟨by decide, by decide⟩, RepL.nil _ _ _, RepL.nil _ _ _, Nat.zero_le _, z, z, RepL.nil _ _ _, RepL.nil _ _ _⟩
theorem known_s {w0 : World} {M : Nat → Prop} {σ : PH} {K : List HP} (hL : LibAt σ) (w : World) (hw : Sat w0 M σ K w) :
    Calls Tryz.prog 13 #[] w fun e w' => ∃ v σ', PH.le σ σ' ∧ v = .bool true ∧ e = .returned v ∧ Sat w0 M σ' K w' := by
  refine RS.enterK Tryz.func13 Tryz.ntmps13 rfl rfl hw ?_
  (repeat (first | refine zS ?_ | refine zR ?_ | refine zQ ?_ | refine zK ?_ | refine zI ?_ | refine zB ?_ | refine zE ?_)); refine asB ?_; refine LS.done ?_
  (repeat (first | refine zS ?_ | refine zR ?_ | refine zQ ?_ | refine zK ?_ | refine zI ?_ | refine zB ?_ | refine zE ?_)); skip
  refine callQ (ParseA []) K (fun v σ1 hle1 hq => ?_) (hc := fun w' hw => parse_s [] (by simp) hL w' hw)
  obtain ⟨cs, rfl, hrep⟩ := hq
  rw [parse_nil] at hrep ⊢
  obtain ⟨vp, vq, vm, vt, rfl, _, _, hp_, hq, _, _, _, hm, ht⟩ := hrep
  obtain ⟨ap, cp, rfl⟩ := hp_.form
  obtain ⟨aq, cq, rfl⟩ := hq.form
  obtain ⟨am, cm, rfl⟩ := hm.form
  obtain ⟨at_, ct, rfl⟩ := ht.form
  have k1 := hle1
  refine mvT ?_; refine extr (v := _) ?_; refine extr (v := .int _ _) ?_; refine alloc_ (fun b1 => ?_); refine st (.agg _) _ ?_; refine asI ?_; refine LS.done ?_
  (repeat (first | refine zS ?_ | refine zR ?_ | refine zQ ?_ | refine zK ?_ | refine zI ?_ | refine zB ?_ | refine zE ?_)); skip
  refine callQ (ParseA [99, 111, 109, 109, 105, 116, 32, 55]) (rcB b1 0 0 (.slice ap 0 cp) (.slice aq 0 cq) ⟨#[]⟩ 0 0 (.slice am 0 cm) (.slice at_ 0 ct) false :: K) (fun v σ2 hle2 hq => ?_) (hc := fun w' hw => parse_s [99, 111, 109, 109, 105, 116, 32, 55] (by decide) (hL.mono k1) w' hw)
  obtain ⟨cs, rfl, hrep⟩ := hq
  rw [parse7] at hrep ⊢
  obtain ⟨vp, vq, vm, vt, rfl, _, _, hp_, hq, _, _, _, hm, ht⟩ := hrep
  obtain ⟨ap2, cp2, rfl⟩ := hp_.form
  obtain ⟨aq2, cq2, rfl⟩ := hq.form
  obtain ⟨am2, cm2, rfl⟩ := hm.form
  obtain ⟨at2, ct2, rfl⟩ := ht.form
  have k2 := hle2
  refine mvT ?_; refine extr (v := _) ?_; refine extr (v := .int _ _) ?_; refine alloc_ (fun b3 => ?_); refine st (.agg _) _ ?_; refine asI ?_; refine LS.done ?_
  (repeat (first | refine zS ?_ | refine zR ?_ | refine zQ ?_ | refine zK ?_ | refine zI ?_ | refine zB ?_ | refine zE ?_)); refine mvI ?_; refine eqI ?_; refine mvB ?_; refine LS.on ?_; refine mvI ?_; refine LS.on ?_; refine eqI ?_; refine pk (v := .bool _) ?_; refine mvB ?_; refine LS.on ?_; refine fld ?_; refine LS.on ?_; refine ld1 (v := .int _ _) ?_; refine LS.on ?_; refine eqI ?_; refine pk (v := .bool _) ?_; refine mvB ?_; refine LS.on ?_; refine fld ?_; refine LS.on ?_; refine ld1 (v := .int _ _) ?_; refine LS.on ?_; refine eqI ?_; refine pk (v := .bool _) ?_; refine mvB ?_; refine LS.on ?_; refine bld (vals := [(0, .int _ _), (1, .int _ _)]) [_, _, _, _, _, _, _, _, _, _] ?_; refine LS.on ?_
  refine callP ?_ (hc := fun w' hw => text_w (recC rec7 nilV nilV nilV nilV) rec7 w' (rec7_rep _) rec7_ok (hL.mono (PH.le_trans k1 (PH.le_trans k2 hw.imm))))
  rw [rec7_text]
  refine LS.on ?_; refine eqS ?_; rw [decide_eq_true (show B [99, 111, 109, 109, 105, 116, 32, 55] = ⟨#[99, 111, 109, 109, 105, 116, 32, 55]⟩ from rfl)]; refine pk (v := .bool _) ?_; refine asB ?_; refine LS.done ?_
  (repeat (first | refine zS ?_ | refine zR ?_ | refine zQ ?_ | refine zK ?_ | refine zI ?_ | refine zB ?_ | refine zE ?_)); refine RS.ret1 (v := .bool _) Tryz.func13 fun w hw => ?_
  exact ⟨_, σ2, PH.le_trans k1 k2, rfl, rfl, hw.weak fun F h => h.tail.tail⟩
end Go.Proofs.YtaiofgmhlfccgaaGreatDoor
namespace Go.Proofs.YtaiofgmhlfccgaaGreatDoor
open Go.JW Go.RowKit
structure Fm where
  a1 : Option Addr
  a2 : Option Addr
  a3 : Option Addr
  a4 : Option Addr
  c1 : Nat
  c2 : Nat
  c3 : Nat
  c4 : Nat
abbrev rcV (R : RecD) (f : Fm) : List Value := recC R (.slice f.a1 R.peers.length f.c1) (.slice f.a2 R.places.length f.c2) (.slice f.a3 R.node.marks.length f.c3) (.slice f.a4 R.node.taints.length f.c4)
abbrev rcW (b : Nat) (R : RecD) (f : Fm) : HP := rcB b R.kind R.gang (.slice f.a1 R.peers.length f.c1) (.slice f.a2 R.places.length f.c2) R.node.name R.node.cpu R.node.mem (.slice f.a3 R.node.marks.length f.c3) (.slice f.a4 R.node.taints.length f.c4) R.node.closed
theorem rep_form {σ : PH} {cs : List Value} {R : RecD} (h : Rep.rep σ cs R) : ∃ f, cs = rcV R f := by
  obtain ⟨vp, vq, vm, vt, rfl, _, _, hp_, hq, _, _, _, hm, ht⟩ := h
  obtain ⟨a1, c1, rfl⟩ := hp_.form
  obtain ⟨a2, c2, rfl⟩ := hq.form
  obtain ⟨a3, c3, rfl⟩ := hm.form
  obtain ⟨a4, c4, rfl⟩ := ht.form
  exact ⟨⟨a1, a2, a3, a4, c1, c2, c3, c4⟩, rfl⟩
theorem text_small {R : RecD} (h : checkP R = 0) : (textP R).length ≤ 90000 := by have := textP_size h; omega
theorem back_c (kind : Int) (_ : I64 kind) (gang : Int) (_ : I64 gang) (ns : List Int) (name : Int) (_ : I64 name) (vn : Value) (w : World) (lib : LibAt (hp w)) (hr : RepL (hp w) vn ns) :
    Calls Tryz.prog 4 #[.int .i64 kind, .int .i64 gang, vn, .int .i64 name] w fun e w' => e = .returned (.bool true) ∧ Below w.heap.size w w' := by
  have hrf := hr.form
  obtain ⟨an, cn, rfl⟩ := hrf
  obtain ⟨R, hR⟩ : ∃ R, R = makeP kind gang ns name := ⟨_, rfl⟩
  have hok : checkP R = 0 := by rw [hR]; exact make_ok _ _ _ _
  refine RS.enter Tryz.func4 Tryz.ntmps4 rfl rfl ?_
  (repeat (first | refine zS ?_ | refine zR ?_ | refine zQ ?_ | refine zK ?_ | refine zI ?_ | refine zB ?_ | refine zE ?_)); refine asB ?_; refine LS.done ?_
  (repeat (first | refine zS ?_ | refine zR ?_ | refine zQ ?_ | refine zK ?_ | refine zI ?_ | refine zB ?_ | refine zE ?_)); skip
  refine callQ (fun v _ => v = .bool true) [] (fun v σ1 k1 hq => ?_) (hc := fun w' hw => known_s lib w' hw)
  subst hq
  refine not_ ?_; refine LS.done ?_
  (repeat (first | refine zS ?_ | refine zR ?_ | refine zQ ?_ | refine zK ?_ | refine zI ?_ | refine zB ?_ | refine zE ?_))
  refine RS.condF ?_
  (repeat (first | refine zS ?_ | refine zR ?_ | refine zQ ?_ | refine zK ?_ | refine zI ?_ | refine zB ?_ | refine zE ?_)); refine mvI ?_; refine mvI ?_; refine mvL ?_; refine mvI ?_
  refine callT (fun v τ => ∃ cs, v = .agg (List.toArray cs) ∧ Rep.rep τ cs R) (fun v τ2 σ2 hq hN k2 hτ => ?_) (fun w' hw => by rw [hR]; exact make_c kind gang name ns _ w' (hr.mono (PH.le_trans k1 hw.imm)))
  obtain ⟨cs, rfl, hrep⟩ := hq
  have hrep := Rep.mono hrep hτ
  obtain ⟨f, rfl⟩ := rep_form hrep
  refine alloc_ (fun b9 => ?_); refine st (.agg _) _ ?_; refine LS.done ?_
  refine RS.to (K' := [rcW b9 R f]) ?_ ⟨fun h => h⟩
  (repeat (first | refine zS ?_ | refine zR ?_ | refine zQ ?_ | refine zK ?_ | refine zI ?_ | refine zB ?_ | refine zE ?_)); refine ldA (rcV R f) ?_
  refine callP ?_ (hc := fun w' hw => text_w _ R w' (Rep.mono hrep hw.imm) hok (lib.mono (PH.le_trans k1 (PH.le_trans k2 hw.imm))))
  refine asS ?_; refine LS.done ?_
  (repeat (first | refine zS ?_ | refine zR ?_ | refine zQ ?_ | refine zK ?_ | refine zI ?_ | refine zB ?_ | refine zE ?_)); refine mvS ?_
  refine callQ (ParseA (textP R)) [rcW b9 R f] (fun v σ3 k3 hq => ?_) (hc := fun w' hw => parse_s (textP R) (text_small hok) (lib.mono (PH.le_trans k1 k2)) w' hw)
  obtain ⟨cs, rfl, hrep3⟩ := hq
  rw [parse_text hok] at hrep3 ⊢
  obtain ⟨f3, rfl⟩ := rep_form hrep3
  refine mvT ?_; refine extr (v := _) ?_; refine extr (v := .int _ _) ?_; refine alloc_ (fun b11 => ?_); refine st (.agg _) _ ?_; refine asI ?_; refine LS.done ?_
  refine RS.to (K' := [rcW b11 R f3, rcW b9 R f]) ?_ ⟨fun h => h⟩
  (repeat (first | refine zS ?_ | refine zR ?_ | refine zQ ?_ | refine zK ?_ | refine zI ?_ | refine zB ?_ | refine zE ?_)); refine mvS ?_; refine ldA (rcV R f) ?_
  refine callP ?_ (hc := fun w' hw => textD_x _ R w' (Rep.mono hrep (PH.le_trans k3 hw.imm)) hok)
  refine eqS ?_; rw [decide_eq_true (show B (textP R) = B (textP R) from rfl)]; refine mvB ?_; refine LS.on ?_; refine mvI ?_; refine LS.on ?_; refine eqI ?_; refine pk (v := .bool _) ?_; refine mvB ?_; refine LS.on ?_; refine ldA (rcV R f3) ?_; refine LS.on ?_; refine ldA (rcV R f) ?_; refine LS.on ?_
  refine callP ?_ (hc := fun w' hw => same_x _ _ R R w' (Rep.mono hrep3 hw.imm) (Rep.mono hrep (PH.le_trans k3 hw.imm)))
  rw [decide_eq_true (show R = R from rfl)]
  refine pk (v := .bool _) ?_; refine asB ?_; refine LS.done ?_
  (repeat (first | refine zS ?_ | refine zR ?_ | refine zQ ?_ | refine zK ?_ | refine zI ?_ | refine zB ?_ | refine zE ?_)); refine RS.ret1 (v := .bool _) Tryz.func4 fun w hw => ?_
  exact ⟨rfl, hw.below⟩
end Go.Proofs.YtaiofgmhlfccgaaGreatDoor
namespace Go.JW
open Go.Proofs.YtaiofgmhlfccgaaGreatDoor
section
variable {P : Program} {f : FuncId} {R : Ending → World → Prop} {k : List Item} {n : Nat} {fr : Nat → Value} {w0 : World} {M : Nat → Prop} {σ : PH} {Kf : Us → List HP}
variable {H : HS} {O : List (Nat × Obj)} {Kb : List HP} {E : List Nat} {tags : List Tag} {rest : List Oper} {d : Nat} {ty : TypeId} {pos : String} {aft : Array Edge} {x y z : Operand} {t t' : TypeId}
theorem D.slcFromT (l : Nat) {u : Bs} {lo : Operand} {kk : IntKind} {j : Int} {sg : Bool} [ht : TStr P t]
    (h : LD P f R k n w0 M σ Kb rest tags ⟨upd fr d (.string (B (u.drop l))), H, O, Kf, E, sg⟩)
    (hl : l ≤ u.length) (hx : ∀ us, ev n (fill fr H us) x = .string (B u) := by intro _; rfl) (hlo : ∀ us, ev n (fill fr H us) lo = .int kk j := by intro _; rfl) (hj : j = (l : Int) := by first | rfl | omega) :
    LD P f R k n w0 M σ Kb (⟨some d, .slice t x (some lo) none none, ty, pos, aft, none⟩ :: rest) (.free :: tags) ⟨fr, H, O, Kf, E, sg⟩ := by
  subst hj
  refine D.free (v := .string (B (u.drop l))) h (fun us w => ?_)
  have := run_sliceT (P := P) (t := t) w (s := B u) (lo := some (.int kk l)) (hi := none) (l := l) (h := (B u).size) (m := (B u).size) ht.eq (by rw [B_size]; simp [Instr.sliceBounds, run_sliceBound, hl])
  rw [B_drop] at this
  simp only [execOp, hx us, Option.map_some, Option.map_none, hlo us, Sem.run_bind, this, Result.andThen_ok]
  rfl
theorem D.slcUptoT (hh : Nat) {u : Bs} {hi : Operand} {kk : IntKind} {j : Int} {sg : Bool} [ht : TStr P t]
    (h : LD P f R k n w0 M σ Kb rest tags ⟨upd fr d (.string (B (u.take hh))), H, O, Kf, E, sg⟩)
    (hl : hh ≤ u.length) (hx : ∀ us, ev n (fill fr H us) x = .string (B u) := by intro _; rfl) (hhi : ∀ us, ev n (fill fr H us) hi = .int kk j := by intro _; rfl) (hj : j = (hh : Int) := by first | rfl | omega) :
    LD P f R k n w0 M σ Kb (⟨some d, .slice t x none (some hi) none, ty, pos, aft, none⟩ :: rest) (.free :: tags) ⟨fr, H, O, Kf, E, sg⟩ := by
  subst hj
  refine D.free (v := .string (B (u.take hh))) h (fun us w => ?_)
  have := run_sliceT (P := P) (t := t) w (s := B u) (lo := none) (hi := some (.int kk hh)) (l := 0) (h := hh) (m := (B u).size) ht.eq (by rw [B_size]; simp [Instr.sliceBounds, run_sliceBound, hl])
  rw [B_take] at this
  simp only [execOp, hx us, Option.map_some, Option.map_none, hhi us, Sem.run_bind, this, Result.andThen_ok]
  rfl
theorem D.mvFT (T : Value → PH → Prop) (hT : MonoT T) (h : LD P f R k n w0 M σ Kb rest tags ⟨fr, (d, T) :: H, O, Kf, E, false⟩)
    (ho : ∀ us σ', PH.le σ σ' → Facts H (readsTmp ⟨some d, .move x, ty, pos, aft, none⟩) us σ' → T (ev n (fill fr H us) x) σ') :
    LD P f R k n w0 M σ Kb (⟨some d, .move x, ty, pos, aft, none⟩ :: rest) (.ex :: tags) ⟨fr, H, O, Kf, E, false⟩ :=
  D.gr T hT h fun us σ' w hle hf hw => .inl ⟨_, w, by simp [execOp], RowKit.Below.refl _ _, hT _ _ _ (ho us σ' hle hf) (grow_le hw)⟩
theorem D.exFT {i : Nat} (T : Value → PH → Prop) (hT : MonoT T) (h : LD P f R k n w0 M σ Kb rest tags ⟨fr, (d, T) :: H, O, Kf, E, false⟩)
    (ho : ∀ us σ', PH.le σ σ' → Facts H (readsTmp ⟨some d, .extract x i, ty, pos, aft, none⟩) us σ' → ∃ l v, ev n (fill fr H us) x = .tuple (List.toArray l) ∧ nth l i = some v ∧ T v σ') :
    LD P f R k n w0 M σ Kb (⟨some d, .extract x i, ty, pos, aft, none⟩ :: rest) (.ex :: tags) ⟨fr, H, O, Kf, E, false⟩ :=
  D.gr T hT h fun us σ' w hle hf hw => by
    obtain ⟨l, v, h1, h2, h3⟩ := ho us σ' hle hf
    rw [nth_eq] at h2
    exact .inl ⟨v, w, by simp [execOp, h1, Instr.extract, h2], RowKit.Below.refl _ _, hT _ _ _ h3 (grow_le hw)⟩
theorem D.exVF {i : Nat} {sg : Bool} (v : Value) (h : LD P f R k n w0 M σ Kb rest tags ⟨upd fr d v, H, O, Kf, E, sg⟩)
    (ho : ∀ us σ', PH.le σ σ' → Facts H (readsTmp ⟨some d, .extract x i, ty, pos, aft, none⟩) us σ' → ∃ l, ev n (fill fr H us) x = .tuple (List.toArray l) ∧ nth l i = some v) :
    LD P f R k n w0 M σ Kb (⟨some d, .extract x i, ty, pos, aft, none⟩ :: rest) (.free :: tags) ⟨fr, H, O, Kf, E, sg⟩ :=
  D.freeF h fun us σ' w h1 h2 hf => by
    obtain ⟨l, e1, e2⟩ := ho us σ' h1 hf
    rw [nth_eq] at e2
    simp [execOp, e1, Instr.extract, e2]
end
end Go.JW
namespace Go.Proofs.YtaiofgmhlfccgaaGreatDoor
open Go.JW Go.RowKit
def TRec (r : RecD) : Value → PH → Prop := fun v σ => ∃ cs, v = .agg (List.toArray cs) ∧ Rep.rep σ cs r
theorem TRec.mono (r : RecD) : MonoT (TRec r) := fun _ _ _ ⟨cs, h1, h2⟩ hs => ⟨cs, h1, Rep.mono h2 hs⟩
theorem ParseA.mono (s : Bs) : MonoT (ParseA s) := fun _ _ _ ⟨cs, h1, h2⟩ hs => ⟨cs, h1, Rep.mono h2 hs⟩
end Go.Proofs.YtaiofgmhlfccgaaGreatDoor
namespace Go.JW
open Go.Proofs.YtaiofgmhlfccgaaGreatDoor
def rowY (u : Bs) (z : Nat) : Array Value := (u.map fun c => Value.int .u8 c.toNat).toArray ++ Array.replicate z (.int .u8 0)
theorem rowY_size (u : Bs) (z : Nat) : (rowY u z).size = u.length + z := by simp [rowY]
theorem rowY_at {u : Bs} {z i : Nat} {c : UInt8} (h : u[i]? = some c) : (rowY u z)[i]? = some (.int .u8 c.toNat) := by
  obtain ⟨hi, e⟩ := List.getElem?_eq_some_iff.1 h
  unfold rowY
  rw [Array.getElem?_append_left (by simpa using hi)]
  simp [h]
theorem rowY_set {u : Bs} {z i : Nat} (c : UInt8) (h : i < u.length) : (rowY u z).setIfInBounds i (.int .u8 c.toNat) = rowY (u.set i c) z := by
  apply Array.ext_getElem?
  intro j
  rw [Array.getElem?_setIfInBounds]
  by_cases hj : i = j
  · subst hj
    rw [if_pos rfl, if_pos (by rw [rowY_size]; omega)]
    exact (rowY_at (by simp [h])).symm
  · rw [if_neg hj]
    unfold rowY
    by_cases hl : j < u.length
    · rw [Array.getElem?_append_left (by simpa using hl), Array.getElem?_append_left (by simpa using hl)]
      simp [hj]
    · rw [Array.getElem?_append_right (by simp; omega), Array.getElem?_append_right (by simp; omega)]
      simp
abbrev byB (b : Nat) (e : TypeId) (u : Bs) (z : Nat) : HP := blk b (.cells (rowY u z) e (u.length + z, u.length + z + 1))
theorem fold_bytes (u : Bs) : (u.map fun c => (c.toNat : Int)).foldl (fun (r : ByteArray) (n : Int) => r.push (UInt8.ofNat n.toNat)) ByteArray.empty = B u := by
  rw [Go.foldl_push_byteCells]
  simp [B, ByteArray.empty, ByteArray.emptyWithCapacity]
  rfl
section
variable {P : Program} {q : Bool} {ops : Array Oper} {f : FuncId} {R : Ending → World → Prop} {k : List Item} {n : Nat} {fr : Nat → Value} {w0 : World} {M : Nat → Prop} {σ : PH} {K K' : List HP}
variable {rest : List Oper} {d : Nat} {ty : TypeId} {pos : String} {aft : Array Edge} {x y z : Operand} {t t' : TypeId}
theorem s2b {e : TypeId} {u : Bs} [hs : TStr P t] [ht : TSlice P t' e] [he : TInt P e .u8]
    (h : ∀ b z, LS P false ops f R k rest n (upd fr d (.slice (some ⟨b, 0, none⟩) u.length (u.length + z))) w0 M σ (byB b e u z :: K)) (hx : ev n fr x = .string (B u) := by rfl) :
    LS P false ops f R k (⟨some d, .convert t t' x, ty, pos, aft, none⟩ :: rest) n fr w0 M σ K :=
  LS.valW rfl rfl fun w hw => by
    have hrun := run_bytes_of_string (P := P) w t t' e (B u) hs.eq ht.eq he.eq
    rw [B_size] at hrun
    have hge := grownCap_ge w u.length 0 e
    obtain ⟨z, hz⟩ : ∃ z, grownCap w u.length 0 e = u.length + z := ⟨grownCap w u.length 0 e - u.length, by omega⟩
    have hrow : bytesRow (B u) (u.length + z) = rowY u z := by
      unfold bytesRow rowY
      rw [B_size, Nat.add_sub_cancel_left]
      simp [B]
    rw [hz, hrow, rowY_size] at hrun
    exact ⟨_, _, σ, _, by simp only [execOp, hx]; rw [Sem.run_bind, hrun]; rfl, hw.drew.alloc _, h _ z⟩
theorem ldY {b o : Nat} {e : TypeId} {u : Bs} {zz : Nat} {put : HP → List HP} (i : Nat) (c : UInt8) [ht : TOne P t] (h : LS P q ops f R k rest n (upd fr d (.int .u8 c.toNat)) w0 M σ K) (hc : u[i]? = some c)
    (hx : ev n fr x = .pointer (some ⟨b, o, none⟩) := by rfl) (hf : FindB b K (.cells (rowY u zz) e (u.length + zz, u.length + zz + 1)) put K' := by infer_instance) (ho : o = i := by omega) :
    LS P q ops f R k (⟨some d, .load t x, ty, pos, aft, none⟩ :: rest) n fr w0 M σ K :=
  LS.val rfl rfl (fun w hw => by
    have ho := ho.symm; subst ho
    have hb := hw.get (i := hf)
    have hcell : w.cell? ⟨b, i, none⟩ = some (.int .u8 c.toNat) := by simp [World.cell?, hb, rowY_at hc]
    have := run_loadVar1 (P := P) (w := w) (b := b) ht.agg i hcell
    simp [execOp, hx, Instr.loadAt, Instr.sureAddr, this]) h
theorem b2sY {b m : Nat} {e : TypeId} {u : Bs} {zz c : Nat} {put : HP → List HP} [ht : TSlice P t e] [he : TInt P e .u8] [hd : TStr P t'] (h : LS P q ops f R k rest n (upd fr d (.string (B u))) w0 M σ K)
    (hx : ev n fr x = .slice (some ⟨b, 0, none⟩) m c := by rfl) (hf : FindB b K (.cells (rowY u zz) e (u.length + zz, u.length + zz + 1)) put K' := by infer_instance) (hm : m = u.length := by simp) :
    LS P q ops f R k (⟨some d, .convert t t' x, ty, pos, aft, none⟩ :: rest) n fr w0 M σ K :=
  LS.val rfl rfl (fun w hw => by
    subst hm
    have hb := hw.get (i := hf)
    have h3 : (loadCells ⟨b, 0, none⟩ u.length).run P w = .ok ((u.map fun c => (c.toNat : Int)).map (Value.int .u8)).toArray w := by
      have := run_loadFrom (P := P) (w := w) (b := b) (fun j => w.cell? ⟨b, j, none⟩) (fun j v h => h) u.length 0 0 #[] ((u.map fun c => (c.toNat : Int)).map (Value.int .u8)) (by simp) (fun j hj => by
        obtain ⟨cc, hcc⟩ : ∃ cc, u[j]? = some cc := ⟨u[j], List.getElem?_eq_getElem hj⟩
        have e1 : w.cell? ⟨b, j, none⟩ = some (.int .u8 cc.toNat) := by simp [World.cell?, hb, rowY_at hcc]
        simp only [Nat.zero_add]
        rw [e1]
        simp [hcc])
      simpa [loadCells] using this
    have := run_bytesToString (P := P) w ⟨b, 0, none⟩ u.length c (u.map fun c => (c.toNat : Int)) h3
    rw [fold_bytes] at this
    simp only [execOp, hx]
    rw [Sem.run_bind, run_convert_bytes_string w t t' e _ _ _ ht.eq he.eq hd.eq, this]
    rfl) h
theorem stY {b o : Nat} {e : TypeId} {u : Bs} {zz : Nat} {put : HP → List HP} (i : Nat) (c : UInt8) [hs : TSz P t 1]
    (h : LS P false ops f R k rest n fr w0 M σ (put (byB b e (u.set i c) zz))) (hi : i < u.length) (hx : ev n fr x = .pointer (some ⟨b, o, none⟩) := by rfl) (hy : ev n fr y = .int .u8 c.toNat := by rfl)
    (hf : FindB b K (.cells (rowY u zz) e (u.length + zz, u.length + zz + 1)) put K' := by infer_instance) (ho : o = i := by omega) :
    LS P false ops f R k (⟨none, .store t x y, ty, pos, aft, none⟩ :: rest) n fr w0 M σ K := by
  have ho := ho.symm; subst ho
  refine LS.skipW rfl rfl fun w hw => ?_
  have hb := hw.get (i := hf)
  have hcell : w.cell? ⟨b, i, none⟩ = some ((rowY u zz)[i]'(by rw [rowY_size]; omega)) := by
    simp [World.cell?, hb, show i < (rowY u zz).size by rw [rowY_size]; omega]
  have hfr : w.frozen? ⟨b, i, none⟩ = false := by simp [World.frozen?, hb]; omega
  have hset : w.setCell ⟨b, i, none⟩ (.int .u8 c.toNat) = { w with heap := w.heap.setIfInBounds b (.cells (rowY (u.set i c) zz) e (u.length + zz, u.length + zz + 1)) } := by
    unfold World.setCell
    congr 1
    apply Array.ext_getElem?
    intro j
    rw [Array.getElem?_modify, Array.getElem?_setIfInBounds]
    have hbs : b < w.heap.size := (Array.getElem?_eq_some_iff.1 hb).1
    by_cases hj : b = j
    · subst hj
      rw [if_pos rfl, if_pos rfl, if_pos hbs, hb]
      simp [rowY_set c hi]
    · rw [if_neg hj, if_neg hj]
  have hone : (Value.int .u8 c.toNat).oneCell' = true := rfl
  have hst : (storeVar t ⟨b, i, none⟩ (.int .u8 c.toNat)).run P w = .ok () { w with heap := w.heap.setIfInBounds b (.cells (rowY (u.set i c) zz) e (u.length + zz, u.length + zz + 1)) } := by
    have e0 : (⟨b, i, none⟩ : Addr).add 0 = ⟨b, i, none⟩ := add_off b i 0
    simp only [storeVar, Sem.run_bind, run_sz w hs.eq, Result.andThen_ok]
    simp [Value.cells, storeCells, e0, run_store P w _ _ _ hone, hcell, hfr, hset]
  have hp2 := hw.put (i := hf) (.cells (rowY (u.set i c) zz) e (u.length + zz, u.length + zz + 1))
  have el : (u.set i c).length = u.length := List.length_set ..
  refine ⟨{ w with heap := w.heap.setIfInBounds b (.cells (rowY (u.set i c) zz) e (u.length + zz, u.length + zz + 1)) }, σ, put (byB b e (u.set i c) zz), by simp [execOp, hx, hy, Instr.storeAt, Instr.sureAddr, hst], ?_, h⟩
  unfold byB
  rw [el]
  exact hp2
end
section
variable {P : Program} {f : FuncId} {R : Ending → World → Prop} {k : List Item} {n : Nat} {fr : Nat → Value} {w0 : World} {M : Nat → Prop} {σ : PH} {Kf : Us → List HP}
variable {H : HS} {O : List (Nat × Obj)} {Kb Kb' : List HP} {E : List Nat} {tags : List Tag} {rest : List Oper} {d : Nat} {ty : TypeId} {pos : String} {aft : Array Edge} {x y z : Operand} {t t' : TypeId}
theorem D.b2sY {b m : Nat} {e : TypeId} {u : Bs} {zz c : Nat} {put : HP → List HP} [ht : TSlice P t e] [he : TInt P e .u8] [hd : TStr P t'] (h : LD P f R k n w0 M σ Kb rest tags ⟨upd fr d (.string (B u)), H, O, Kf, E, false⟩)
    (hx : ∀ us, ev n (fill fr H us) x = .slice (some ⟨b, 0, none⟩) m c := by intro _; rfl) (hf : FindB b Kb (.cells (rowY u zz) e (u.length + zz, u.length + zz + 1)) put Kb' := by infer_instance) (hm : m = u.length := by simp) :
    LD P f R k n w0 M σ Kb (⟨some d, .convert t t' x, ty, pos, aft, none⟩ :: rest) (.ex :: tags) ⟨fr, H, O, Kf, E, false⟩ :=
  D.ex h fun us σ' w hle hfs hw => by
    subst hm
    have hb := hw.get (i := hf)
    have h3 : (loadCells ⟨b, 0, none⟩ u.length).run P w = .ok ((u.map fun c => (c.toNat : Int)).map (Value.int .u8)).toArray w := by
      have := run_loadFrom (P := P) (w := w) (b := b) (fun j => w.cell? ⟨b, j, none⟩) (fun j v h => h) u.length 0 0 #[] ((u.map fun c => (c.toNat : Int)).map (Value.int .u8)) (by simp) (fun j hj => by
        obtain ⟨cc, hcc⟩ : ∃ cc, u[j]? = some cc := ⟨u[j], List.getElem?_eq_getElem hj⟩
        have e1 : w.cell? ⟨b, j, none⟩ = some (.int .u8 cc.toNat) := by simp [World.cell?, hb, rowY_at hcc]
        simp only [Nat.zero_add]
        rw [e1]
        simp [hcc])
      simpa [loadCells] using this
    have := run_bytesToString (P := P) w ⟨b, 0, none⟩ u.length c (u.map fun c => (c.toNat : Int)) h3
    rw [fold_bytes] at this
    simp only [execOp, hx us]
    rw [Sem.run_bind, run_convert_bytes_string w t t' e _ _ _ ht.eq he.eq hd.eq, this]
    rfl
end
end Go.JW
namespace Go.Proofs.YtaiofgmhlfccgaaGreatDoor
open Go.JW Go.RowKit
def addY (c : UInt8) (y : Int) : UInt8 := UInt8.ofNat (IntKind.u8.wrap ((c.toNat : Int) + y)).toNat
theorem addY_eq (c : UInt8) (y : Int) : IntKind.u8.wrap ((c.toNat : Int) + y) = (((addY c y).toNat : Nat) : Int) := by
  have h : 0 ≤ IntKind.u8.wrap ((c.toNat : Int) + y) ∧ IntKind.u8.wrap ((c.toNat : Int) + y) < 256 := by
    rw [show IntKind.u8.wrap ((c.toNat : Int) + y) = ((c.toNat : Int) + y) % 256 by simp [IntKind.wrap, IntKind.signed, IntKind.bits]]
    omega
  unfold addY
  rw [UInt8.toNat_ofNat']
  omega
theorem small_ok {r : RecD} (h : checkP r = 0) : SmallR r := by
  have h1 := read_text (okr_of h)
  have h2 := textW_size h
  exact read_small h1.1 (fun x hx => by have := h2.1 x hx; omega) (by omega)
end Go.Proofs.YtaiofgmhlfccgaaGreatDoor
namespace Go.JW
def TAtP (e : TypeId) (off : Nat) (cs : List Value) : Value → PH → Prop := fun v σ => ∃ b, v = .pointer (some ⟨b, off, none⟩) ∧ σ b = some (.cells cs.toArray e (0, 0))
theorem TAtP.mono (e : TypeId) (off : Nat) (cs : List Value) : MonoT (TAtP e off cs) := fun _ _ _ ⟨b, h1, h2⟩ hs => ⟨b, h1, hs _ _ h2⟩
section
variable {P : Program} {f : FuncId} {R : Ending → World → Prop} {k : List Item} {n : Nat} {fr : Nat → Value} {w0 : World} {M : Nat → Prop} {σ : PH} {Kf : Us → List HP}
variable {H : HS} {O : List (Nat × Obj)} {Kb : List HP} {E : List Nat} {tags : List Tag} {rest : List Oper} {d : Nat} {ty : TypeId} {pos : String} {aft : Array Edge} {x y z : Operand} {t t' : TypeId}
theorem D.idxT {e : TypeId} {len i : Nat} {cs : List Value} {kk : IntKind} {j : Int} [ht : TSlice P t e] [hs : TSz P e 1] (h : LD P f R k n w0 M σ Kb rest tags ⟨fr, (d, TAtP e i cs) :: H, O, Kf, E, false⟩)
    (ho : ∀ us σ', PH.le σ σ' → Facts H (readsTmp ⟨some d, .indexAddr t x y, ty, pos, aft, none⟩) us σ' → TLit e len cs (ev n (fill fr H us) x) σ')
    (hy : ∀ us, ev n (fill fr H us) y = .int kk j := by intro _; rfl) (hj : j = (i : Int) := by first | rfl | omega) (hi : i < len := by omega) :
    LD P f R k n w0 M σ Kb (⟨some d, .indexAddr t x y, ty, pos, aft, none⟩ :: rest) (.ex :: tags) ⟨fr, H, O, Kf, E, false⟩ :=
  D.gr (TAtP e i cs) (TAtP.mono e i cs) h fun us σ' w hle hf hw => by
    subst hj
    obtain ⟨b, h1, h2⟩ := ho us σ' hle hf
    exact .inl ⟨.pointer (some ⟨b, 0 + i * 1, none⟩), w, by simp [execOp, h1, hy us, Instr.indexAt, asIntOf, run_underlying ht.eq, hi, run_sz w hs.eq, add_off], RowKit.Below.refl _ _, ⟨b, by simp, (grow_le hw) _ _ h2⟩⟩
theorem D.ldT {e : TypeId} {i : Nat} {cs : List Value} (v : Value) [ht : TOne P t] (h : LD P f R k n w0 M σ Kb rest tags ⟨upd fr d v, H, O, Kf, E, false⟩)
    (ho : ∀ us σ', PH.le σ σ' → Facts H (readsTmp ⟨some d, .load t x, ty, pos, aft, none⟩) us σ' → TAtP e i cs (ev n (fill fr H us) x) σ') (hv : cs[i]? = some v) :
    LD P f R k n w0 M σ Kb (⟨some d, .load t x, ty, pos, aft, none⟩ :: rest) (.ex :: tags) ⟨fr, H, O, Kf, E, false⟩ :=
  D.ex h fun us σ' w hle hf hw => by
    obtain ⟨b, h1, h2⟩ := ho us σ' hle hf
    have hc : σ'.cell b i = some v := by simp [PH.cell, h2, hv]
    have := run_loadVar1 (P := P) (w := w) (b := b) ht.agg i (hw.cell hc)
    simp [execOp, h1, Instr.loadAt, Instr.sureAddr, this]
end
end Go.JW
namespace Go.Proofs.YtaiofgmhlfccgaaGreatDoor
open Go.JW Go.RowKit
noncomputable def laid7 : List (String × DataW Unit) := Rows.lineChecksRow.laid
theorem tabAt_of {W : World} {g : Nat} {name : String} {k : IntKind} {zs : List Int} (h : Lib.TabIs Tryz.prog W name k zs) (hg : Tryz.prog.globalNamed name = some g) : TabAt (hp W) g (zs.map fun z => Value.int k z).toArray := by
  unfold Lib.TabIs World.var? at h
  rw [hg, Option.bind_some] at h
  split at h
  · rename_i cs T r hb
    injection h with h
    subst h
    exact ⟨T, r, hb⟩
  · cases h
theorem gSpc : Tryz.prog.globalNamed "strings.asciiSpace" = some 0 := by kernel_rfl
theorem gPow : Tryz.prog.globalNamed "internal/strconv.uint64pow10" = some 2 := by kernel_rfl
theorem tSpc : (Tryz.prog.globals[0]?).map (·.type) = some 90 := by kernel_rfl
theorem tPow : (Tryz.prog.globals[2]?).map (·.type) = some 185 := by kernel_rfl
theorem cSpc : Tryz.prog.cellsOf 90 = 256 := by kernel_rfl
theorem cPow : Tryz.prog.cellsOf 185 = 20 := by kernel_rfl
theorem cU8 : Tryz.prog.cellsOf 5 = 1 := by kernel_rfl
theorem cU64 : Tryz.prog.cellsOf 154 = 1 := by kernel_rfl
theorem all_plain : laid7.filter (fun x => x.2.handleName?.isNone) = laid7 := by kernel_rfl
theorem plain7 {W : World} (h : laidMetH Tryz.prog laid7 W) : laidMet Tryz.prog laid7 W := by
  have h1 := (laidMetH_iff.1 h).1
  rwa [all_plain] at h1
theorem only_pow : laid7.filter (fun x => x.1 == "internal/strconv.uint64pow10") = [("internal/strconv.uint64pow10", Lib.tabData .u64 Lib.pow10Tab)] := by kernel_rfl
theorem only_spc : laid7.filter (fun x => x.1 == "strings.asciiSpace") = [("strings.asciiSpace", Lib.tabData .u8 Lib.asciiSpaceTab)] := by kernel_rfl
theorem lib_of {W : World} (h : laidMetH Tryz.prog laid7 W) (hs : W.ShapedOpen Tryz.prog) : LibAt (hp W) := by
  have h := plain7 h
  have h1 := h.filter fun x => x.1 == "internal/strconv.uint64pow10"
  have h2 := h.filter fun x => x.1 == "strings.asciiSpace"
  rw [only_pow] at h1
  rw [only_spc] at h2
  obtain ⟨m, hm⟩ := cell_of_shapedOpen_int (P := Tryz.prog) (g := 3) (k := .i64) hs (of_decide_eq_true (by kernel_rfl)) (t := 3) (zero := #[.int .i64 0]) (by kernel_rfl) rfl (by kernel_rfl) (by kernel_rfl) TInt.eq
  exact ⟨tabAt_of (Lib.tabIs_of_head (rest := []) gSpc tSpc Tryz.underlying90 Tryz.underlying5 cU8 cSpc h2) gSpc,
    tabAt_of (Lib.tabIs_of_head (rest := []) gPow tPow Tryz.underlying185 Tryz.underlying154 cU64 cPow h1) gPow, m, PH.cell_world.trans hm⟩
theorem laid_met7 (os : Os) (args : Array Value) : laidMet Tryz.prog laid7 ((World.laidAll Tryz.prog os laid7).forCall (fun _ _ => 0) ⟨#[], args, []⟩).memory := laidMet_laidAll args (by kernel_rfl) (by kernel_rfl)
theorem shaped7 (os : Os) (args : Array Value) : ((World.laidAll Tryz.prog os laid7).forCall (fun _ _ => 0) ⟨#[], args, []⟩).Shaped Tryz.prog := World.shaped_of_ZipB (by kernel_rfl) (by kernel_rfl)
theorem witness7 {H : Type} {enc : TypeId × Value → H} {f : FuncId} {fn : Func} {s : OpenSpec} {conds : List PathCond} {apart : Bool} (os : Os) (args : Array Value)
    (hok : Input.okWideB Tryz.prog ((World.laidAll Tryz.prog os laid7).forCall (fun _ _ => 0) ⟨#[], args, []⟩) f ⟨#[], args, []⟩ = true)
    (hrow : s.preRow enc Tryz.prog fn conds apart laid7 ((World.laidAll Tryz.prog os laid7).forCall (fun _ _ => 0) ⟨#[], args, []⟩).memory args) :
    ∃ (w : World) (tape : Tape) (i : Input), w.os = os ∧ (w.forCall tape i).Shaped Tryz.prog ∧ i.vars = [] ∧ Input.okWide Tryz.prog (w.forCall tape i) .any w.heap.size f i ∧
      s.preRow enc Tryz.prog fn conds apart laid7 (w.forCall tape i).memory i.args ∧ ({} : Assume).holds Tryz.prog (lone (Frame.enter Tryz.prog f i.args .normal) [] (w.forCall tape i)) :=
  ⟨World.laidAll Tryz.prog os laid7, fun _ _ => 0, ⟨#[], args, []⟩, World.laidAll_os _ _ _, shaped7 os args, (Input.okWide_of_okWideB (base := 0) hok).1, (Input.okWide_of_okWideB hok).2, hrow, by
    simp only [Assume.holds]
    exact ⟨by simp, by simp, fun _ => Modest.zero, by simp, by simp⟩⟩
end Go.Proofs.YtaiofgmhlfccgaaGreatDoor
namespace Go.JW

abbrev Sized (l : List Nat) : Prop := ∀ n ∈ l, n ≤ 140737488351232
class OpenT (P : Program) (t : TypeId) (α : Type) [Rep α] : Prop where
  open_ : ∀ {H : Type} {enc : TypeId × Value → H} {w : World} {base : Nat} {sp : Nat → Bool} {held : Bool} {fuel : Nat} {cs : List Value} {x : DataW H × List MemPlace},
    DataW.trod enc P w base sp held fuel t cs = some x → Sized (x.1.weights P t) → ∃ a : α, Rep.rep (hp w) cs a
section
variable {P : Program} {t e : TypeId}
theorem wfI64 {n : Int} (h : (Lit.int .i64 n).wf = true) : I64 n := by
  simp only [Lit.wf, Bool.and_eq_true, decide_eq_true_eq] at h
  exact h
instance OpenT.int [ht : TInt P t .i64] : OpenT P t Int where
  open_ h _ := by
    obtain ⟨n, rfl, _, hw⟩ := DataW.trod_int ht.eq h
    exact ⟨n, rfl, wfI64 hw⟩
instance OpenT.bool [ht : TBool P t] : OpenT P t Bool where
  open_ h _ := by
    obtain ⟨n, rfl, _⟩ := DataW.trod_bool ht.eq h
    exact ⟨n, rfl⟩
instance OpenT.str [ht : TStr P t] : OpenT P t ByteArray where
  open_ h hs := by
    obtain ⟨s, rfl, rfl, hw⟩ := DataW.trod_string ht.eq h
    refine ⟨s, rfl, ?_⟩
    have h1 : s.data.toList.length ≤ 140737488351232 := hs _ (by rw [DataW.weights]; exact List.mem_singleton.2 rfl)
    have e : s.data.toList.length = s.size := Array.length_toList
    omega
theorem mem_weightsAll {H : Type} {d : DataW H} : ∀ {ds : List (DataW H)}, d ∈ ds → ∀ n ∈ d.weights P e, n ∈ DataW.weightsAll P e ds := by
  intro ds
  induction ds with
  | nil => intro h; cases h
  | cons x ds ih =>
    intro h n hn
    rw [DataW.weightsAll, List.mem_append]
    rcases List.mem_cons.1 h with h | h
    · subst h; exact .inl hn
    · exact .inr (ih h n hn)
theorem cellsOf_sz {s : Nat} (h : szOf P t = some s) : P.cellsOf t = s := by unfold szOf at h; unfold Program.cellsOf; rw [h]; rfl
theorem OpenT.slice {α : Type} [Rep α] {s by_ : Nat} [ht : TSlice P t e] [it : OpenT P e α] [hs0 : TSz P e s] [hb0 : TBytes P e by_] (hz0 : Nat.beq s (Rep.sz α) = true := by rfl) (hpos : 0 < Rep.sz α := by decide) (hby : 0 < by_ := by decide) : OpenT P t (List α) where
  open_ := by
    have hz : P.cellsOf e = Rep.sz α := (cellsOf_sz hs0.eq).trans (Nat.eq_of_beq_eq_true hz0)
    have hb : 0 < P.bytesOf e := by unfold Program.bytesOf; rw [hb0.eq]; exact hby
    intro H enc w base sp held fuel cs x h hs
    rcases DataW.trod_slice ht.eq h with ⟨rfl, _⟩ | ⟨a, len, cap, elems, rest, n, _, rfl, hx, hbase, hl, hm, hlen, hel, _⟩
    · exact ⟨[], _, rfl, RepL.nil _ _ _⟩
    · subst hx
      rw [DataW.weights, ht.eq] at hs
      simp only [List.length_map] at hs
      have hw0 : (elems.length + rest.length) * P.bytesOf e ≤ 140737488351232 := hs _ (by simp)
      have hlen47 : len ≤ 140737488355328 := by
        have : len * 1 ≤ (elems.length + rest.length) * P.bytesOf e := Nat.mul_le_mul (by omega) hb
        omega
      have each : ∀ i, i < len → ∃ (vs : List Value) (d : α), (∀ j, j < Rep.sz α → w.cell? ((a.add (i * Rep.sz α)).add j) = vs[j]?) ∧ vs.length = Rep.sz α ∧ Rep.rep (hp w) vs d := by
        intro i hi
        have h1 := hel i hi
        rw [hz] at h1
        have hi' : i < elems.length := by omega
        rw [List.getElem?_eq_getElem hi', Option.bind_eq_some_iff] at h1
        obtain ⟨vs, h2, h3⟩ := h1
        obtain ⟨_, h4, h5⟩ := World.cells?_some h2
        obtain ⟨d, hd⟩ := it.open_ h3 (fun m hm => hs m (by
          simp only [List.mem_cons, List.mem_append]
          right; left
          exact mem_weightsAll (List.mem_map.2 ⟨elems[i], List.getElem_mem _, rfl⟩) m hm))
        exact ⟨vs, d, h5, h4, hd⟩
      have key : ∀ m, m ≤ len → ∃ l : List α, l.length = m ∧ ∀ i (h : i < l.length), ∃ vs : List Value, (∀ j, j < Rep.sz α → w.cell? ((a.add (i * Rep.sz α)).add j) = vs[j]?) ∧ vs.length = Rep.sz α ∧ Rep.rep (hp w) vs l[i] := by
        intro m
        induction m with
        | zero => intro _; exact ⟨[], rfl, fun i h => by simp at h⟩
        | succ m ih =>
          intro hm'
          obtain ⟨l, h1, h2⟩ := ih (by omega)
          obtain ⟨vs, d, g1, g2, g3⟩ := each m (by omega)
          refine ⟨l ++ [d], by simp [h1], fun i hi => ?_⟩
          by_cases e : i < l.length
          · obtain ⟨vs', k1, k2, k3⟩ := h2 i e
            exact ⟨vs', k1, k2, by rw [List.getElem_append_left e]; exact k3⟩
          · have : i = m := by simp at hi; omega
            subst this
            refine ⟨vs, g1, g2, ?_⟩
            have e2 : (l ++ [d])[i]'hi = d := by rw [List.getElem_append_right (by omega)]; simp
            rw [e2]; exact g3
      obtain ⟨l, h1, h2⟩ := key len (Nat.le_refl _)
      refine ⟨l, _, rfl, by omega, some a, cap, by rw [h1], by omega, fun hn => ?_⟩
      have h0 : 0 < l.length := List.length_pos_iff.2 hn
      have hspot : a.spot = none := by
        obtain ⟨vs, k1, k2, _⟩ := h2 0 h0
        have := k1 0 hpos
        rw [Nat.zero_mul] at this
        simp only [Addr.add, if_true] at this
        unfold World.cell? at this
        rw [List.getElem?_eq_getElem (by omega)] at this
        cases hsp : a.spot with
        | none => rfl
        | some s => rw [hsp] at this; cases hb : w.heap[a.block]? with
          | none => rw [hb] at this; simp at this
          | some o => rw [hb] at this; cases o <;> simp at this
      obtain ⟨b, o, spot⟩ := a
      simp only at hspot
      subst hspot
      refine ⟨b, o, rfl, fun i hi => ?_⟩
      obtain ⟨vs, k1, k2, k3⟩ := h2 i hi
      refine ⟨vs, fun j hj => ?_, k3⟩
      rw [PH.cell_world, ← k1 j hj, add_off, add_off]
theorem OpenT.fields {H : Type} {enc : TypeId × Value → H} {w : World} {base : Nat} {sp : Nat → Bool} {held : Bool} {fuel : Nat} {cs : List Value} {x : DataW H × List MemPlace} {fs : Array Field} (ht : P.underlying t = some (.struct fs))
    (h : DataW.trod enc P w base sp held fuel t cs = some x) (hs : Sized (x.1.weights P t)) :
    cs.length = P.cellsOf t ∧ ∀ (i τ off s : Nat) (α : Type) [Rep α] [OpenT P τ α] [TSz P τ s], (fs[i]?).map (fun f => (f.type, f.offset)) = some (τ, off) → ∃ a : α, Rep.rep (hp w) ((cs.drop off).take s) a := by
  obtain ⟨xs, n, _, rfl, hl, hxs, hf⟩ := DataW.trod_struct ht h
  refine ⟨hl, fun i τ off s α _ ho hsz hfi0 => ?_⟩
  rw [Option.map_eq_some_iff] at hfi0
  obtain ⟨f, hfi, e⟩ := hfi0
  injection e with e1 e2
  subst e1; subst e2
  have h1 := hf i f hfi
  rw [cellsOf_sz hsz.eq] at h1
  have hi : i < xs.length := by rw [hxs]; exact (Array.getElem?_eq_some_iff.1 hfi).1
  rw [List.getElem?_eq_getElem hi] at h1
  refine ho.open_ h1 fun m hm => hs m ?_
  rw [DataW.weights, ht]
  exact DataW.weights_mem_each (j := i) (t := f.type) (d := xs[i].1) (by rw [List.getElem?_map]; simp [hfi]) (by rw [List.getElem?_map, List.getElem?_eq_getElem hi]; rfl) m hm
theorem OpenT.arg {α : Type} [Rep α] {H : Type} {enc : TypeId × Value → H} {w : World} {base : Nat} {sp : Nat → Bool} {held : Bool} {v : Value} {d : DataW H} {ps : List MemPlace} {ts : List TypeId} {ds : List (DataW H)} {j : Nat} (o : OpenT P t α)
    (h : DataW.Trod enc P w base sp held t v d ps) (hs : (DataW.weightsEach P ts ds).all (· ≤ reachBytes) = true) (ht : ts[j]? = some t) (hd : ds[j]? = some d) : ∃ a : α, Rep.rep (hp w) v.cells.toList a := by
  obtain ⟨fuel, hf⟩ := h
  refine o.open_ hf fun n hn => ?_
  have := List.all_eq_true.1 hs n (DataW.weights_mem_each ht hd n hn)
  exact of_decide_eq_true this
end
end Go.JW
namespace Go.Proofs.YtaiofgmhlfccgaaGreatDoor
open Go.JW Go.RowKit

instance : OpenT Tryz.prog 26 (List ByteArray) := OpenT.slice
instance : OpenT Tryz.prog 22 (List Int) := OpenT.slice
structure VecD where
  cpu : Int
  mem : Int
instance : Rep VecD where
  sz := 2
  rep _ cs p := cs = [.int .i64 p.cpu, .int .i64 p.mem] ∧ I64 p.cpu ∧ I64 p.mem
  len h := by obtain ⟨rfl, _⟩ := h; rfl
  one h := by obtain ⟨rfl, _⟩ := h; rfl
  mono h _ := h
theorem len2 {l : List Value} (h : l.length = 2) : ∃ a b, l = [a, b] := by
  match l, h with
  | [a, b], _ => exact ⟨a, b, rfl⟩
instance : OpenT Tryz.prog 25 VecD where
  open_ h hs := by
    obtain ⟨hl, hf⟩ := OpenT.fields Tryz.underlying25 h hs
    rw [show Tryz.prog.cellsOf 25 = 2 by kernel_rfl] at hl
    obtain ⟨c0, c1, rfl⟩ := len2 hl
    obtain ⟨a0, h0, i0⟩ := hf 0 3 0 _ Int rfl
    obtain ⟨a1, h1, i1⟩ := hf 1 3 1 _ Int rfl
    simp at h0 h1
    subst h0; subst h1
    exact ⟨⟨a0, a1⟩, rfl, i0, i1⟩
theorem len7 {l : List Value} (h : l.length = 7) : ∃ a b c d e f g, l = [a, b, c, d, e, f, g] := by
  match l, h with
  | [a, b, c, d, e, f, g], _ => exact ⟨a, b, c, d, e, f, g, rfl⟩
theorem len6 {l : List Value} (h : l.length = 6) : ∃ a b c d e f, l = [a, b, c, d, e, f] := by
  match l, h with
  | [a, b, c, d, e, f], _ => exact ⟨a, b, c, d, e, f, rfl⟩
instance : OpenT Tryz.prog 28 NodeD where
  open_ h hs := by
    obtain ⟨hl, hf⟩ := OpenT.fields Tryz.underlying28 h hs
    rw [show Tryz.prog.cellsOf 28 = 6 by kernel_rfl] at hl
    obtain ⟨c0, c2, c3, c4, c5, c6, rfl⟩ := len6 hl
    obtain ⟨a0, h0, i0⟩ := hf 0 9 0 _ ByteArray rfl
    obtain ⟨a2, h2, i2⟩ := hf 1 25 1 _ VecD rfl
    obtain ⟨a3, v3, h3, i3⟩ := hf 2 26 3 _ (List ByteArray) rfl
    obtain ⟨a4, v4, h4, i4⟩ := hf 3 26 4 _ (List ByteArray) rfl
    obtain ⟨a5, h5⟩ := hf 4 4 5 _ Bool rfl
    have h5' : _ = _ := h5
    simp at h0 h2 h3 h4 h5'
    obtain ⟨h2, h2'⟩ := h2
    subst h0; subst h2; subst h2'; subst h3; subst h4; subst h5'
    exact ⟨⟨a0, a2.cpu, a2.mem, a3, a4, a5⟩, _, _, rfl, i0, i2.1, i2.2, i3, i4⟩
end Go.Proofs.YtaiofgmhlfccgaaGreatDoor
namespace Go.Proofs.YtaiofgmhlfccgaaGreatDoor
open Go.JW Go.RowKit
theorem len5 {l : List Value} (h : l.length = 5) : ∃ a b c d e, l = [a, b, c, d, e] := by
  match l, h with
  | [a, b, c, d, e], _ => exact ⟨a, b, c, d, e, rfl⟩
theorem len10 {l : List Value} (h : l.length = 10) : ∃ a b c d e f g i j k, l = [a, b, c, d, e, f, g, i, j, k] := by
  match l, h with
  | [a, b, c, d, e, f, g, i, j, k], _ => exact ⟨a, b, c, d, e, f, g, i, j, k, rfl⟩
instance : OpenT Tryz.prog 40 PlaceD where
  open_ h hs := by
    obtain ⟨hl, hf⟩ := OpenT.fields Tryz.underlying40 h hs
    rw [show Tryz.prog.cellsOf 40 = 5 by kernel_rfl] at hl
    obtain ⟨c0, c1, c2, c3, c4, rfl⟩ := len5 hl
    obtain ⟨a0, h0, i0⟩ := hf 0 9 0 _ ByteArray rfl
    obtain ⟨a1, h1, i1⟩ := hf 1 9 1 _ ByteArray rfl
    obtain ⟨a2, h2, i2⟩ := hf 2 25 2 _ VecD rfl
    obtain ⟨a5, h5⟩ := hf 3 4 4 _ Bool rfl
    have h5' : _ = _ := h5
    simp at h0 h1 h2 h5'
    obtain ⟨h2, h2'⟩ := h2
    subst h0; subst h1; subst h2; subst h2'; subst h5'
    exact ⟨⟨a0, a1, a2.cpu, a2.mem, a5⟩, rfl, i0, i1, i2.1, i2.2⟩
instance : OpenT Tryz.prog 23 (List PlaceD) := OpenT.slice
instance : OpenT Tryz.prog 30 RecD where
  open_ h hs := by
    obtain ⟨hl, hf⟩ := OpenT.fields Tryz.underlying30 h hs
    rw [show Tryz.prog.cellsOf 30 = 10 by kernel_rfl] at hl
    obtain ⟨c0, c1, c2, c3, c4, c5, c6, c7, c8, c9, rfl⟩ := len10 hl
    obtain ⟨a0, h0, i0⟩ := hf 0 3 0 _ Int rfl
    obtain ⟨a1, h1, i1⟩ := hf 1 3 1 _ Int rfl
    obtain ⟨a2, v2, h2, i2⟩ := hf 2 22 2 _ (List Int) rfl
    obtain ⟨a3, v3, h3, i3⟩ := hf 3 23 3 _ (List PlaceD) rfl
    obtain ⟨a4, vm, vt, h4, n1, n2, n3, n4, n5⟩ := hf 4 28 4 _ NodeD rfl
    simp [nodeC] at h0 h1 h2 h3 h4
    obtain ⟨k4, k5, k6, k7, k8, k9⟩ := h4
    subst h0 h1 h2 h3 k4 k5 k6 k7 k8 k9
    exact ⟨⟨a0, a1, a2, a3, a4⟩, _, _, _, _, rfl, i0, i1, i2, i3, n1, n2, n3, n4, n5⟩
end Go.Proofs.YtaiofgmhlfccgaaGreatDoor
