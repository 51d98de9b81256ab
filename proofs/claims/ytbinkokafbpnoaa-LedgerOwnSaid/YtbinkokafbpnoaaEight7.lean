/- The law LedgerEight answers true. -/
import Derived.Test.YtbinkokafbpnoaaErrs
namespace Go.JW
open Go.Maps
theorem sLt_irr (a : ByteArray) : sLt a a = false := by rw [sLt_sb]; exact decide_eq_false (List.lt_irrefl _)
theorem sLe_anti {a b : ByteArray} (h1 : sLt b a = false) (h2 : sLt a b = false) : a = b := sb_inj (List.le_antisymm ((sLe_sb a b).1 h1) ((sLe_sb b a).1 h2))
theorem sLe_trans {a b c : ByteArray} (h1 : sLt b a = false) (h2 : sLt c b = false) : sLt c a = false := (sLe_sb a c).2 (List.le_trans ((sLe_sb a b).1 h1) ((sLe_sb b c).1 h2))
theorem sLt_le {a b : ByteArray} (h : sLt a b = true) : sLt b a = false := by
  rw [sLt_sb] at h
  exact (sLe_sb a b).2 (List.le_of_lt (of_decide_eq_true h))
theorem leS_eq (a b : ByteArray) : (sLt a b || decide (a = b)) = !sLt b a := by
  cases h : sLt b a with
  | true =>
    have h1 := sLt_le h
    have h2 : a ≠ b := fun e => by rw [e, sLt_irr] at h; cases h
    simp [h1, h2]
  | false =>
    cases h2 : sLt a b with
    | true => rfl
    | false => simp [sLe_anti h h2]
def SortedS (l : List ByteArray) : Prop := l.Pairwise fun a b => sLt b a = false
theorem skeys_unique {α : Type} {l : List (ByteArray × α)} {L : List ByteArray} (hs : SortedS L) (hp : L.Perm (l.map (·.1))) : (sortK l).map (·.1) = L := by
  refine List.Perm.eq_of_pairwise (le := fun a b => sLt b a = false) (fun a b _ _ h1 h2 => sLe_anti h1 h2) (List.pairwise_map.2 (sortK_sorted l)) hs (((sortK_perm l).map _).trans hp.symm)
theorem skeys_sorted {α : Type} (l : List (ByteArray × α)) : SortedS ((sortK l).map (·.1)) := List.pairwise_map.2 (sortK_sorted l)
/-- One more key, laid where it belongs. -/
theorem skeys_ins {α : Type} {l : List (ByteArray × α)} {k : ByteArray} {x : α} (hn : asg l k = none) {at_ : Nat} (h1 : ∀ y ∈ ((sortK l).map (·.1)).take at_, sLt k y = false) (h2 : ∀ y ∈ ((sortK l).map (·.1)).drop at_, sLt y k = false) :
    (sortK (aset l k x)).map (·.1) = ((sortK l).map (·.1)).take at_ ++ [k] ++ ((sortK l).map (·.1)).drop at_ := by
  refine skeys_unique ?_ ?_
  · have hs := skeys_sorted l
    unfold SortedS at hs ⊢
    rw [List.append_assoc, List.pairwise_append]
    have hs2 := hs
    rw [← List.take_append_drop at_ ((sortK l).map (·.1)), List.pairwise_append] at hs2
    refine ⟨hs2.1, ?_, fun a ha b hb => ?_⟩
    · rw [List.singleton_append, List.pairwise_cons]
      exact ⟨h2, hs2.2.1⟩
    · rw [List.singleton_append, List.mem_cons] at hb
      rcases hb with rfl | hb
      · exact h1 a ha
      · exact hs2.2.2 a ha b hb
  · rw [aset_keys, hn, if_neg (by simp)]
    have hp : ((sortK l).map (·.1)).Perm (l.map (·.1)) := (sortK_perm l).map _
    have e : ((sortK l).map (·.1)).take at_ ++ [k] ++ ((sortK l).map (·.1)).drop at_ = ((sortK l).map (·.1)).take at_ ++ ([k] ++ ((sortK l).map (·.1)).drop at_) := List.append_assoc _ _ _
    rw [e]
    refine (List.perm_append_comm_assoc _ _ _).trans ?_
    rw [List.take_append_drop]
    exact (List.perm_append_comm).trans (hp.append_right [k])
theorem skeys_same {α : Type} {l : List (ByteArray × α)} {k : ByteArray} {x y : α} (hn : asg l k = some y) : (sortK (aset l k x)).map (·.1) = (sortK l).map (·.1) := by
  refine skeys_unique (skeys_sorted l) ?_
  rw [aset_keys, hn]
  exact (sortK_perm l).map _
end Go.JW
namespace Go.Proofs.Ytbinkokafbpnoaa
open Go.JW Go.RowKit
def nmK (k : Int) : ByteArray := letter nmN k
theorem isName_k : ∀ k : Fin 12, isName (nmK (k.val : Int)) = true := by decide +kernel
structure EightInv (S : LedD) (names : List ByteArray) : Prop where
  inv : LedInv S 0
  taken : S.taken = []
  names : names = (sortK S.nodes).map (·.1)
theorem EightInv.len {S : LedD} {names : List ByteArray} (h : EightInv S names) : names.length = S.nodes.length ∧ names.length ≤ 8 := by
  have := h.inv.nodes.few
  have e : names.length = S.nodes.length := by rw [h.names, List.length_map, sortK_len]
  exact ⟨e, by omega⟩
def hasB (l : List ByteArray) (s : ByteArray) : Bool := l.any fun y => decide (y = s)
theorem EightInv.mem {S : LedD} {names : List ByteArray} (h : EightInv S names) (s : ByteArray) : hasB names s = (asg S.nodes s).isSome := by
  rw [Bool.eq_iff_iff]
  simp only [hasB, List.any_eq_true, decide_eq_true_eq, exists_eq_right]
  rw [h.names, ((sortK_perm S.nodes).map _).mem_iff]
  cases e : asg S.nodes s with
  | none => simp [asg_none.1 e]
  | some x => simp only [Option.isSome_some, iff_true]; exact List.mem_map.2 ⟨_, asg_some_mem e, rfl⟩
def eightE (names : List ByteArray) (s : ByteArray) : Int := if (!hasB names s && decide (8 ≤ names.length)) = true then 3 else 0
theorem EightInv.putE {S : LedD} {names : List ByteArray} (h : EightInv S names) {s : ByteArray} (hs : isName s = true) {c : Int} (hc : 0 ≤ c ∧ c ≤ 1099511627776) : putE S (nodeN s c 0) = eightE names s := by
  have h0 := nodeErr_N hs hc (m := 0) (by omega)
  have hm := h.mem s
  unfold eightE
  cases hb : hasB names s with
  | true =>
    rw [hb] at hm
    rw [putE_fits h0 hm.symm, if_pos, if_neg (by simp)]
    rw [h.taken]; exact decide_eq_true ⟨hc.1, Int.le_refl 0⟩
  | false =>
    rw [hb] at hm
    rw [Go.Proofs.Ytbinkokafbpnoaa.putE, if_neg (by rw [h0]; simp), if_neg (by show ¬ (asg S.nodes s).isSome = true; rw [← hm]; simp), (h.len).1]
    by_cases h8 : 8 ≤ S.nodes.length
    · rw [if_pos h8, if_pos (by simpa using h8)]
    · rw [if_neg h8, if_neg (by simpa using h8)]
def eightN (names : List ByteArray) (s : ByteArray) (at_ : Nat) : List ByteArray := if (!hasB names s && decide (eightE names s = 0)) = true then names.take at_ ++ [s] ++ names.drop at_ else names
theorem EightInv.put {S : LedD} {names : List ByteArray} (h : EightInv S names) {s : ByteArray} {c : Int} {at_ : Nat} (hE : Go.Proofs.Ytbinkokafbpnoaa.putE S (nodeN s c 0) = eightE names s)
    (h1 : ∀ y ∈ names.take at_, sLt s y = false) (h2 : ∀ y ∈ names.drop at_, sLt y s = false) : EightInv ⟨putN S (nodeN s c 0), S.taken⟩ (eightN names s at_) := by
  refine ⟨h.inv.put _, h.taken, ?_⟩
  show _ = (sortK (putN S (nodeN s c 0))).map (·.1)
  have hm := h.mem s
  unfold putN eightN
  rw [hE]
  by_cases hz : eightE names s = 0
  · rw [if_pos hz]
    show _ = (sortK (aset S.nodes s (nodeN s c 0))).map (·.1)
    cases ha : asg S.nodes s with
    | none =>
      rw [ha] at hm
      rw [if_pos (by rw [hm]; simp [hz])]
      rw [h.names] at h1 h2 ⊢
      exact (skeys_ins ha h1 h2).symm
    | some y =>
      rw [ha] at hm
      rw [if_neg (by rw [hm]; simp), skeys_same ha]; exact h.names
  · rw [if_neg (by simp [hz]), if_neg hz]; exact h.names
theorem names_nodes {S : LedD} {names : List ByteArray} (h : EightInv S names) : nodesOf S = (sortK S.nodes).map (·.2) ∧ (nodesOf S).map (·.name) = names := by
  refine ⟨rfl, ?_⟩
  rw [h.names, nodesOf, List.map_map]
  exact List.map_congr_left fun p hp => h.inv.nodes.key p (mem_sortK.1 hp)
theorem hasB_take {l : List ByteArray} {s : ByteArray} {k : Nat} (hk : k < l.length) : hasB (l.take (k + 1)) s = (hasB (l.take k) s || decide (l[k] = s)) := by
  unfold hasB
  rw [List.take_add_one, List.getElem?_eq_getElem hk, List.any_append]
  simp
theorem hasB_all {l : List ByteArray} {s : ByteArray} (at_ : Nat) (h : ∀ y ∈ l.drop at_, y ≠ s) : hasB (l.take at_) s = hasB l s := by
  conv => rhs; rw [← List.take_append_drop at_ l]
  unfold hasB
  rw [List.any_append]
  have : (l.drop at_).any (fun y => decide (y = s)) = false := by simpa using h
  rw [this, Bool.or_false]
theorem drop_gt {l : List ByteArray} {s : ByteArray} (hs : SortedS l) {at_ : Nat} (h : at_ = l.length ∨ ∃ h : at_ < l.length, sLt s l[at_] = true) : ∀ y ∈ l.drop at_, sLt s y = true := by
  rcases h with h | ⟨h, hg⟩
  · intro y hy; rw [h, List.drop_length] at hy; simp at hy
  · intro y hy
    rw [List.drop_eq_getElem_cons h] at hy
    rcases List.mem_cons.1 hy with rfl | hy
    · exact hg
    · obtain ⟨j, hj, rfl⟩ := List.getElem_of_mem hy
      rw [List.length_drop] at hj
      rw [List.getElem_drop]
      have := List.pairwise_iff_getElem.1 hs at_ (at_ + 1 + j) h (by omega) (by omega)
      cases e : sLt s l[at_ + 1 + j] with
      | true => rfl
      | false =>
        have h3 := sLe_trans this e
        rw [hg] at h3; cases h3
theorem RepL.strCell {σ : PH} {b o m cap : Nat} {l : List ByteArray} (h : RepL σ (.slice (some ⟨b, o, none⟩) m cap) l) (i : Nat) (hi : i < l.length) : σ.cell b (o + i * 1) = some (.string l[i]) := by
  obtain ⟨b', o', e, hrow⟩ := h.addr (fun e => by simp [e] at hi)
  obtain ⟨rfl, rfl⟩ : b = b' ∧ o = o' := by injection e with e; injection e with e1 e2; exact ⟨e1, e2⟩
  exact (hrow.str i hi).1
theorem eight_c (ns : List Int) (vn : Value) (w : World) (hr : RepL (hp w) vn ns) : Calls Try.prog 6 #[vn] w fun e w' => e = .returned (.bool true) ∧ Below w.heap.size w w' := by
  obtain ⟨an, cn, rfl⟩ := hr.form
  have hlen : ns.length ≤ 140737488355328 := hr.1
  refine RS.enter Try.func6 Try.ntmps6 rfl rfl ?_
  (repeat (first | refine RS.seq ?_ | refine RS.region ?_ | refine RS.regionQ ?_ (by kernel_rfl) (by kernel_rfl) | refine RS.skip ?_ | refine RS.inBlock ?_ | refine RS.block ?_ | refine RS.exit ?_)); refine asB ?_; refine LS.done ?_
  (repeat (first | refine RS.seq ?_ | refine RS.region ?_ | refine RS.regionQ ?_ (by kernel_rfl) (by kernel_rfl) | refine RS.skip ?_ | refine RS.inBlock ?_ | refine RS.block ?_ | refine RS.exit ?_)); skip
  refine callP ?_ (hc := fun w _ => known7_c w)
  refine not_ ?_; refine LS.done ?_
  (repeat (first | refine RS.seq ?_ | refine RS.region ?_ | refine RS.regionQ ?_ (by kernel_rfl) (by kernel_rfl) | refine RS.skip ?_ | refine RS.inBlock ?_ | refine RS.block ?_ | refine RS.exit ?_)); refine RS.condF ?_
  (repeat (first | refine RS.seq ?_ | refine RS.region ?_ | refine RS.regionQ ?_ (by kernel_rfl) (by kernel_rfl) | refine RS.skip ?_ | refine RS.inBlock ?_ | refine RS.block ?_ | refine RS.exit ?_)); skip
  refine newL (fun bl => ?_)
  refine asP ?_; refine LS.done ?_
  (repeat (first | refine RS.seq ?_ | refine RS.region ?_ | refine RS.regionQ ?_ (by kernel_rfl) (by kernel_rfl) | refine RS.skip ?_ | refine RS.inBlock ?_ | refine RS.block ?_ | refine RS.exit ?_)); refine mvP ?_; refine bin_eql_P ?_; refine LS.done ?_
  (repeat (first | refine RS.seq ?_ | refine RS.region ?_ | refine RS.regionQ ?_ (by kernel_rfl) (by kernel_rfl) | refine RS.skip ?_ | refine RS.inBlock ?_ | refine RS.block ?_ | refine RS.exit ?_)); refine RS.condF ?_
  (repeat (first | refine RS.seq ?_ | refine RS.region ?_ | refine RS.regionQ ?_ (by kernel_rfl) (by kernel_rfl) | refine RS.skip ?_ | refine RS.inBlock ?_ | refine RS.block ?_ | refine RS.exit ?_)); refine asL ?_; refine LS.done ?_
  (repeat (first | refine RS.seq ?_ | refine RS.region ?_ | refine RS.regionQ ?_ (by kernel_rfl) (by kernel_rfl) | refine RS.skip ?_ | refine RS.inBlock ?_ | refine RS.block ?_ | refine RS.exit ?_)); refine asI ?_; refine LS.done ?_
  (repeat (first | refine RS.seq ?_ | refine RS.region ?_ | refine RS.regionQ ?_ (by kernel_rfl) (by kernel_rfl) | refine RS.skip ?_ | refine RS.inBlock ?_ | refine RS.block ?_ | refine RS.exit ?_))
  refine RS.loopF (X := Nat × LedD × List ByteArray × Value × PH) 4 118 (fun x => x.1 ≤ 30 ∧ x.1 ≤ ns.length ∧ EightInv x.2.1 x.2.2.1 ∧ RepL x.2.2.2.2 x.2.2.2.1 x.2.2.1 ∧ PH.le (hp w) x.2.2.2.2) (fun x => [(4, x.2.2.2.1), (5, .int .i64 x.1)]) (fun x => x.2.2.2.2) (fun x => [ledHP bl x.2.1]) (fun x => 30 - x.1) (0, ⟨[], []⟩, [], .slice none 0 0, hp w) ⟨by omega, by omega, ⟨LedInv.empty 0, rfl, rfl⟩, RepL.nil _ _ _, PH.le_refl _⟩ ⟨rfl, rfl, trivial⟩ rfl ⟨fun h => h⟩ ?_
  rintro ⟨i, S, names, v4, σ2⟩ gg ⟨hi30, hin, ho, hr4, hle2⟩ ih
  simp only at hi30 hin ho hr4 hle2 ih ⊢
  obtain ⟨hl1, hl8⟩ := ho.len
  obtain ⟨a4, c4, rfl⟩ := hr4.form
  (repeat (first | refine RS.seq ?_ | refine RS.region ?_ | refine RS.regionQ ?_ (by kernel_rfl) (by kernel_rfl) | refine RS.skip ?_ | refine RS.inBlock ?_ | refine RS.block ?_ | refine RS.exit ?_)); refine mvI ?_; refine mvL ?_; refine lenL ?_; refine ltI ?_; refine mvB ?_
  refine LS.cut 22 26 [(25, .bool (decide (i < 30 ∧ i < ns.length)))] (fun gg => ?_) (fun J => ?_)
  rotate_left
  · refine LS.part 22 (fun g1 => ?_) (fun g1 => ?_)
    · refine LS.on ?_; refine mvI ?_; refine LS.on ?_; refine ltI ?_; refine pk (v := .bool _) ?_; refine LS.done ?_
      simp only [decide_eq_true_eq] at g1
      exact J ⟨boolV (decide_eq_decide.2 (by omega)), trivial⟩ (by repeat (first | with_reducible exact Out.refl _ _ _ | exact Out.hv | refine Out.upd ?_ | refine Out.hvIn ?_))
    · refine LS.off ?_; refine LS.off ?_; refine pk (v := .bool _) ?_; refine LS.done ?_
      simp only [decide_eq_false_iff_not] at g1
      exact J ⟨boolV (by symm; exact decide_eq_false (by omega)), trivial⟩ (by repeat (first | with_reducible exact Out.refl _ _ _ | exact Out.hv | refine Out.upd ?_ | refine Out.hvIn ?_))
  (repeat (first | refine RS.seq ?_ | refine RS.region ?_ | refine RS.regionQ ?_ (by kernel_rfl) (by kernel_rfl) | refine RS.skip ?_ | refine RS.inBlock ?_ | refine RS.block ?_ | refine RS.exit ?_))
  refine RS.cond (fun z => ?_) (fun z => ?_)
  · simp only [decide_eq_true_eq] at z
    obtain ⟨b, o, rfl, hrow⟩ := hr.addr (fun h => by simp [h] at z)
    obtain ⟨hcell, h64⟩ := (hrow.mono hle2).int i z.2
    obtain ⟨k1, k2⟩ := wmod ns[i] 12 (by omega)
    (repeat (first | refine RS.seq ?_ | refine RS.region ?_ | refine RS.regionQ ?_ (by kernel_rfl) (by kernel_rfl) | refine RS.skip ?_ | refine RS.inBlock ?_ | refine RS.block ?_ | refine RS.exit ?_)); refine mvL ?_; refine mvI ?_; refine idx (i := i) ?_; refine ldS hcell ?_
    refine callP ?_ (hc := fun w _ => w7_c _ _ (by omega) (by omega) w)
    obtain ⟨k, hk⟩ : ∃ k, k = ns[i] % 12 := ⟨_, rfl⟩
    rw [← hk] at k1 k2 ⊢
    refine asI ?_; refine LS.done ?_
    have hp1 : nmN.size = 1 := rfl
    have hf1 : (List.foldl (fun (r : ByteArray) (n : Int) => r.push (UInt8.ofNat n.toNat)) ByteArray.empty [IntKind.u8.wrap (97 + k)]).size = 1 := by simp only [List.foldl]; rw [ByteArray.size_push]; rfl
    have hp2 : (⟨#[110]⟩ : ByteArray).size = 1 := rfl
    (repeat (first | refine RS.seq ?_ | refine RS.region ?_ | refine RS.regionQ ?_ (by kernel_rfl) (by kernel_rfl) | refine RS.skip ?_ | refine RS.inBlock ?_ | refine RS.block ?_ | refine RS.exit ?_)); refine mvI ?_; (first | refine addN ?_ | refine addI ?_); refine cvI ?_; refine bldS [.int _ _] [.int _ _] (fun b36 => ?_); refine b2sB [IntKind.u8.wrap (97 + k)] ?_; refine addS ?_; refine asS ?_; refine LS.done ?_
    obtain ⟨s, hs⟩ : ∃ s, s = nmK k := ⟨_, rfl⟩
    have hsn : isName s = true := by
      have := isName_k ⟨k.toNat, by omega⟩
      rw [hs]
      simp only [Int.toNat_of_nonneg k1] at this
      exact this
    have hss : s.size ≤ 32 := name_size hsn
    refine RS.as 7 (.string s) (by rw [hs]; rfl) ?_
    (repeat (first | refine RS.seq ?_ | refine RS.region ?_ | refine RS.regionQ ?_ (by kernel_rfl) (by kernel_rfl) | refine RS.skip ?_ | refine RS.inBlock ?_ | refine RS.block ?_ | refine RS.exit ?_)); refine asI ?_; refine asB ?_; refine LS.done ?_
    (repeat (first | refine RS.seq ?_ | refine RS.region ?_ | refine RS.regionQ ?_ (by kernel_rfl) (by kernel_rfl) | refine RS.skip ?_ | refine RS.inBlock ?_ | refine RS.block ?_ | refine RS.exit ?_))
    refine RS.loopF (X := Nat) 8 118 (fun x => x ≤ names.length ∧ ∀ y ∈ names.take x, sLt s y = false) (fun x => [(8, .int .i64 x), (9, .bool (hasB (names.take x) s))]) (fun _ => σ2) (fun _ => [ledHP bl S]) (fun x => names.length - x) 0 ⟨by omega, by simp⟩ ⟨rfl, rfl, trivial⟩ rfl ⟨fun h => h.tail⟩ ?_
    rintro at_ g2 ⟨hat, hbe⟩ ih2
    (repeat (first | refine RS.seq ?_ | refine RS.region ?_ | refine RS.regionQ ?_ (by kernel_rfl) (by kernel_rfl) | refine RS.skip ?_ | refine RS.inBlock ?_ | refine RS.block ?_ | refine RS.exit ?_)); refine mvI ?_; refine mvL ?_; refine lenL ?_; refine ltI ?_; refine mvB ?_
    refine LS.cut 39 51 [(50, .bool (decide (at_ < names.length) && !sLt s (names.getD at_ ⟨#[]⟩)))] (fun gg => ?_) (fun J => ?_)
    rotate_left
    · refine LS.part 43 (fun g1 => ?_) (fun g1 => ?_)
      · simp only [decide_eq_true_eq] at g1
        have hlt : at_ < names.length := by omega
        obtain ⟨ba, oa, rfl, hrow4⟩ := hr4.addr (List.ne_nil_of_length_pos (by omega))
        refine LS.on ?_; refine mvL ?_; refine LS.on ?_; refine mvI ?_; refine LS.on ?_; refine idx (i := at_) ?_; refine LS.on ?_; refine ldS (RepL.strCell hr4 at_ hlt) ?_; refine LS.on ?_; refine mvS ?_; refine LS.on ?_; refine leS ?_; rw [leS_eq]; refine pk (v := .bool _) ?_; refine LS.done ?_
        exact J ⟨boolV (by rw [getD_of hlt, decide_eq_true hlt]; rfl), trivial⟩ (by repeat (first | with_reducible exact Out.refl _ _ _ | exact Out.hv | refine Out.upd ?_ | refine Out.hvIn ?_))
      · simp only [decide_eq_false_iff_not] at g1
        refine LS.off ?_; refine LS.off ?_; refine LS.off ?_; refine LS.off ?_; refine LS.off ?_; refine LS.off ?_; refine pk (v := .bool _) ?_; refine LS.done ?_
        exact J ⟨boolV (by rw [decide_eq_false (by omega)]; rfl), trivial⟩ (by repeat (first | with_reducible exact Out.refl _ _ _ | exact Out.hv | refine Out.upd ?_ | refine Out.hvIn ?_))
    (repeat (first | refine RS.seq ?_ | refine RS.region ?_ | refine RS.regionQ ?_ (by kernel_rfl) (by kernel_rfl) | refine RS.skip ?_ | refine RS.inBlock ?_ | refine RS.block ?_ | refine RS.exit ?_))
    refine RS.cond (fun y => ?_) (fun y => ?_)
    · simp only [Bool.and_eq_true, decide_eq_true_eq, Bool.not_eq_true'] at y
      obtain ⟨hlt, hle⟩ := y
      rw [getD_of hlt] at hle
      obtain ⟨ba, oa, rfl, hrow4⟩ := hr4.addr (List.ne_nil_of_length_pos (by omega))
      (repeat (first | refine RS.seq ?_ | refine RS.region ?_ | refine RS.regionQ ?_ (by kernel_rfl) (by kernel_rfl) | refine RS.skip ?_ | refine RS.inBlock ?_ | refine RS.block ?_ | refine RS.exit ?_)); refine mvB ?_; refine mvB ?_
      refine LS.cut 9 60 [(8, .int .i64 at_), (9, .bool (hasB (names.take (at_ + 1)) s))] (fun gg => ?_) (fun J => ?_)
      rotate_left
      · have hsu := hasB_take (s := s) hlt
        refine LS.part 52 (fun g1 => ?_) (fun g1 => ?_)
        · refine LS.off ?_; refine LS.off ?_; refine LS.off ?_; refine LS.off ?_; refine LS.off ?_; refine LS.off ?_; refine pk (v := .bool _) ?_; refine asB ?_; refine LS.done ?_
          exact J ⟨rfl, boolV (by rw [hsu, g1]; rfl), trivial⟩ (by repeat (first | with_reducible exact Out.refl _ _ _ | exact Out.hv | refine Out.upd ?_ | refine Out.hvIn ?_))
        · refine LS.on ?_; refine mvL ?_; refine LS.on ?_; refine mvI ?_; refine LS.on ?_; refine idx (i := at_) ?_; refine LS.on ?_; refine ldS (RepL.strCell hr4 at_ hlt) ?_; refine LS.on ?_; refine mvS ?_; refine LS.on ?_; refine eqS ?_; refine pk (v := .bool _) ?_; refine asB ?_; refine LS.done ?_
          exact J ⟨rfl, boolV (by rw [hsu, g1]; rfl), trivial⟩ (by repeat (first | with_reducible exact Out.refl _ _ _ | exact Out.hv | refine Out.upd ?_ | refine Out.hvIn ?_))
      (repeat (first | refine RS.seq ?_ | refine RS.region ?_ | refine RS.regionQ ?_ (by kernel_rfl) (by kernel_rfl) | refine RS.skip ?_ | refine RS.inBlock ?_ | refine RS.block ?_ | refine RS.exit ?_)); refine mvI ?_; (first | refine addN ?_ | refine addI ?_); refine asI ?_; refine LS.done ?_; (repeat (first | refine RS.seq ?_ | refine RS.region ?_ | refine RS.regionQ ?_ (by kernel_rfl) (by kernel_rfl) | refine RS.skip ?_ | refine RS.inBlock ?_ | refine RS.block ?_ | refine RS.exit ?_))
      refine ih2 (at_ + 1) ⟨by omega, fun y hy => ?_⟩ (by omega) ⟨rfl, rfl, trivial⟩ (by repeat (first | with_reducible exact Out.refl _ _ _ | exact Out.hv | refine Out.upd ?_ | refine Out.hvIn ?_)) ⟨fun h => h⟩ rfl
      rw [List.take_add_one, List.getElem?_eq_getElem hlt] at hy
      rcases List.mem_append.1 hy with hy | hy
      · exact hbe y hy
      · simp at hy; subst hy; exact hle
    clear ih2
    have hgt := drop_gt (l := names) (s := s) (by rw [ho.names]; exact skeys_sorted _) (at_ := at_) (by
      by_cases hlt : at_ < names.length
      · right
        refine ⟨hlt, ?_⟩
        simp only [Bool.and_eq_false_iff, decide_eq_false_iff_not, Bool.not_eq_false'] at y
        rcases y with y | y
        · exact absurd hlt y
        · rwa [getD_of hlt] at y
      · left; omega)
    have hdr : ∀ y ∈ names.drop at_, sLt y s = false := fun y hy => sLt_le (hgt y hy)
    have hall : hasB (names.take at_) s = hasB names s := hasB_all at_ (fun y hy e => by have := hgt y hy; rw [e, sLt_irr] at this; cases this)
    rw [hall]
    obtain ⟨hb, hhb⟩ : ∃ hb, hb = hasB names s := ⟨_, rfl⟩
    rw [← hhb]
    have hE := ho.putE hsn (c := (i : Int)) (by omega)
    have ho2 := ho.put (c := (i : Int)) (at_ := at_) hE hbe hdr
    have hEv : eightE names s = if (!hb && decide (8 ≤ names.length)) = true then 3 else 0 := by rw [hhb]; rfl
    have hNv : eightN names s at_ = if (!hb && decide (eightE names s = 0)) = true then names.take at_ ++ [s] ++ names.drop at_ else names := by rw [hhb]; rfl
    obtain ⟨S2, hS2⟩ : ∃ S2 : LedD, S2 = ⟨putN S (nodeN s i 0), S.taken⟩ := ⟨_, rfl⟩
    rw [← hS2] at ho2
    (repeat (first | refine RS.seq ?_ | refine RS.region ?_ | refine RS.regionQ ?_ (by kernel_rfl) (by kernel_rfl) | refine RS.skip ?_ | refine RS.inBlock ?_ | refine RS.block ?_ | refine RS.exit ?_)); refine asI ?_; refine LS.done ?_
    (repeat (first | refine RS.seq ?_ | refine RS.region ?_ | refine RS.regionQ ?_ (by kernel_rfl) (by kernel_rfl) | refine RS.skip ?_ | refine RS.inBlock ?_ | refine RS.block ?_ | refine RS.exit ?_)); refine mvB ?_; refine not_ ?_; refine mvB ?_
    refine LS.cut 64 69 [(68, .bool (!hb && decide (8 ≤ names.length)))] (fun gg => ?_) (fun J => ?_)
    rotate_left
    · refine LS.part 64 (fun g1 => ?_) (fun g1 => ?_)
      · refine LS.on ?_; refine mvL ?_; refine LS.on ?_; refine lenL ?_; refine LS.on ?_; refine geI ?_; refine pk (v := .bool _) ?_; refine LS.done ?_
        exact J ⟨boolV (by rw [g1, Bool.true_and]; exact decide_eq_decide.2 (by omega)), trivial⟩ (by repeat (first | with_reducible exact Out.refl _ _ _ | exact Out.hv | refine Out.upd ?_ | refine Out.hvIn ?_))
      · refine LS.off ?_; refine LS.off ?_; refine LS.off ?_; refine pk (v := .bool _) ?_; refine LS.done ?_
        exact J ⟨boolV (by rw [g1]; rfl), trivial⟩ (by repeat (first | with_reducible exact Out.refl _ _ _ | exact Out.hv | refine Out.upd ?_ | refine Out.hvIn ?_))
    (repeat (first | refine RS.seq ?_ | refine RS.region ?_ | refine RS.skip ?_ | refine RS.inBlock ?_ | refine RS.block ?_ | refine RS.exit ?_))
    refine RS.cut (X := Unit) 10 11 (fun _ => True) (fun _ => [(10, .int .i64 (eightE names s))]) (fun _ => σ2) (fun _ => [ledHP bl S]) ?_ (fun J => ?_)
    rotate_left
    · refine RS.cond (fun y => ?_) (fun y => ?_)
      · (repeat (first | refine RS.seq ?_ | refine RS.region ?_ | refine RS.regionQ ?_ (by kernel_rfl) (by kernel_rfl) | refine RS.skip ?_ | refine RS.inBlock ?_ | refine RS.block ?_ | refine RS.exit ?_)); refine asI ?_; refine LS.done ?_
        exact J () trivial ⟨by rw [hEv, if_pos y]; rfl, trivial⟩ (by repeat (first | with_reducible exact Out.refl _ _ _ | exact Out.hv | refine Out.upd ?_ | refine Out.hvIn ?_)) ⟨fun h => h⟩ rfl
      · refine RS.skip ?_
        exact J () trivial ⟨by rw [hEv, if_neg (by rw [y]; simp)]; rfl, trivial⟩ (by repeat (first | with_reducible exact Out.refl _ _ _ | exact Out.hv | refine Out.upd ?_ | refine Out.hvIn ?_)) ⟨fun h => h⟩ rfl
    rintro _ g3 _
    (repeat (first | refine RS.seq ?_ | refine RS.region ?_ | refine RS.regionQ ?_ (by kernel_rfl) (by kernel_rfl) | refine RS.skip ?_ | refine RS.inBlock ?_ | refine RS.block ?_ | refine RS.exit ?_)); refine mvP ?_; refine mvS ?_; refine mvI ?_; refine bld (vals := [(0, .int _ _)]) [_, _] ?_; refine bld (vals := [(0, .string _), (1, .agg (List.toArray [_, _]))]) [_, _, _, _, _, _] ?_
    refine putL' (nodeN s (i : Int) 0) (eightE names s) S2 none none 0 0 ho.inv (by omega) hE hS2.symm (ArgAt.of (rep_nodeN _ _ (by omega) (by omega) (by omega))) (fun σ3 hle3 => ?_)
    refine mvI ?_; refine neI ?_; rw [decide_eq_true (show eightE names s = eightE names s from rfl)]; refine LS.done ?_
    (repeat (first | refine RS.seq ?_ | refine RS.region ?_ | refine RS.regionQ ?_ (by kernel_rfl) (by kernel_rfl) | refine RS.skip ?_ | refine RS.inBlock ?_ | refine RS.block ?_ | refine RS.exit ?_)); refine RS.condF ?_
    (repeat (first | refine RS.seq ?_ | refine RS.region ?_ | refine RS.regionQ ?_ (by kernel_rfl) (by kernel_rfl) | refine RS.skip ?_ | refine RS.inBlock ?_ | refine RS.block ?_ | refine RS.exit ?_)); refine mvB ?_; refine not_ ?_; refine mvB ?_
    refine LS.cut 79 83 [(82, .bool (!hb && decide (eightE names s = 0)))] (fun gg => ?_) (fun J => ?_)
    rotate_left
    · refine LS.part 79 (fun g1 => ?_) (fun g1 => ?_)
      · refine LS.on ?_; refine mvI ?_; refine LS.on ?_; refine eqI ?_; refine pk (v := .bool _) ?_; refine LS.done ?_
        exact J ⟨boolV (by rw [g1, Bool.true_and]), trivial⟩ (by repeat (first | with_reducible exact Out.refl _ _ _ | exact Out.hv | refine Out.upd ?_ | refine Out.hvIn ?_))
      · refine LS.off ?_; refine LS.off ?_; refine pk (v := .bool _) ?_; refine LS.done ?_
        exact J ⟨boolV (by rw [g1]; rfl), trivial⟩ (by repeat (first | with_reducible exact Out.refl _ _ _ | exact Out.hv | refine Out.upd ?_ | refine Out.hvIn ?_))
    (repeat (first | refine RS.seq ?_ | refine RS.region ?_ | refine RS.skip ?_ | refine RS.inBlock ?_ | refine RS.block ?_ | refine RS.exit ?_))
    have hr43 := hr4.mono hle3
    refine RS.cut (X := Value × PH) 4 118 (fun x => RepL x.2 x.1 (eightN names s at_) ∧ PH.le σ3 x.2) (fun x => [(4, x.1), (5, .int .i64 i)]) (fun x => x.2) (fun _ => [ledHP bl S2]) ?_ (fun J => ?_)
    rotate_left
    · refine RS.cond (fun y => ?_) (fun y => ?_)
      · obtain ⟨o1, ho1⟩ : ∃ o1, o1 = names.take at_ := ⟨_, rfl⟩
        obtain ⟨o2, ho2'⟩ : ∃ o2, o2 = names.drop at_ := ⟨_, rfl⟩
        have hl1 : o1.length = at_ := by rw [ho1, List.length_take]; omega
        have hl2 : o2.length = names.length - at_ := by rw [ho2', List.length_drop]
        have hr1 : RepL σ3 (.slice a4 at_ c4) o1 := by rw [ho1]; exact hr43.take at_ hat
        have hr2 := hr43.drop at_ hat
        rw [← ho2'] at hr2
        (repeat (first | refine RS.seq ?_ | refine RS.region ?_ | refine RS.skip ?_ | refine RS.inBlock ?_ | refine RS.block ?_ | refine RS.exit ?_)); refine RS.draw [.ex, .free, .free, .free, .eff, .free, .ex, .eff, .free, .free, .free, .eff, .eff] [ledHP bl S2] ?_ (by kernel_rfl) (by kernel_rfl) (by infer_instance); refine D.lit0 ?_; refine D.mvL ?_; refine D.mvI ?_; refine D.slcHi at_ ?_ (hl := by have := hr43.cap; omega); refine D.app0 83 0 o1 (vy := fun _ => .slice a4 at_ c4) ?_ (fun us σ' hle hf => ⟨hf.1, _, hr1, by rw [fromN_zero]; exact hle⟩); refine D.mvS ?_
        refine D.litT 0 [s] (vs := fun us => [.string s]) ?_ (fun us σ' hle hf => by exact ⟨⟨rfl, by omega⟩, trivial⟩)
        refine D.appU 87 [s] (vy := fun us => us 89) ?_ (fun us σ' hle hf => ⟨_, hf.1, PH.le_refl _⟩)
        refine D.mvL ?_; refine D.mvI ?_; refine D.slcLo at_ ?_; refine D.appU 90 o2 (vy := fun _ => _) ?_ (fun us σ' hle hf => ⟨_, hr2, by rw [fromN_zero]; exact hle⟩) (hb := by simp; omega) (hm := by simp; omega); refine D.mvD 94 ?_; refine D.done (fun us σ1 hle1 hfs => ?_)
        refine RS.to (K' := [rowD 0 9 (us 4) (o1 ++ [s] ++ o2), ledHP bl S2]) ?_ ⟨fun h => h⟩
        refine RS.freeze0 (l := o1 ++ [s] ++ o2) (us 4) (fun σ5 hle5 hr5 => ?_) (hl := by simp; omega)
        exact J (us 4, σ5) ⟨by rw [hNv, if_pos y, ← ho1, ← ho2']; exact hr5, PH.le_trans hle1 hle5⟩ ⟨rfl, rfl, trivial⟩ (by repeat (first | with_reducible exact Out.refl _ _ _ | exact Out.hv | refine Out.upd ?_ | refine Out.hvIn ?_)) ⟨fun h => h⟩ rfl
      · refine RS.skip ?_
        exact J (.slice a4 names.length c4, σ3) ⟨by rw [hNv, if_neg (by rw [y]; simp)]; exact hr43, PH.le_refl _⟩ ⟨rfl, rfl, trivial⟩ (by repeat (first | with_reducible exact Out.refl _ _ _ | exact Out.hv | refine Out.upd ?_ | refine Out.hvIn ?_)) ⟨fun h => h⟩ rfl
    rintro ⟨v4, σ4⟩ g4 ⟨(hr4' : RepL σ4 v4 (eightN names s at_)), (hle4 : PH.le σ3 σ4)⟩
    obtain ⟨NN, hNN⟩ : ∃ NN, NN = eightN names s at_ := ⟨_, rfl⟩
    rw [← hNN] at hr4' ho2
    obtain ⟨a4', c4', rfl⟩ := hr4'.form
    obtain ⟨hk1, hk8⟩ := ho2.len
    obtain ⟨_, hnm⟩ := names_nodes ho2
    have hnl : (nodesOf S2).length = NN.length := by rw [← hnm, List.length_map]
    (repeat (first | refine RS.seq ?_ | refine RS.region ?_ | refine RS.regionQ ?_ (by kernel_rfl) (by kernel_rfl) | refine RS.skip ?_ | refine RS.inBlock ?_ | refine RS.block ?_ | refine RS.exit ?_)); refine mvP ?_
    refine nodesL ho2.inv (fun v6 σ6 hle6 hr6 => ?_)
    obtain ⟨a6, c6, rfl⟩ := hr6.form
    rw [hnl]
    refine asL ?_; refine LS.done ?_
    (repeat (first | refine RS.seq ?_ | refine RS.region ?_ | refine RS.regionQ ?_ (by kernel_rfl) (by kernel_rfl) | refine RS.skip ?_ | refine RS.inBlock ?_ | refine RS.block ?_ | refine RS.exit ?_)); refine mvL ?_; refine lenL ?_; refine mvL ?_; refine lenL ?_; refine neI ?_; rw [decide_eq_true (show (NN.length : Int) = NN.length from rfl)]; refine LS.done ?_
    (repeat (first | refine RS.seq ?_ | refine RS.region ?_ | refine RS.regionQ ?_ (by kernel_rfl) (by kernel_rfl) | refine RS.skip ?_ | refine RS.inBlock ?_ | refine RS.block ?_ | refine RS.exit ?_)); refine RS.condF ?_
    (repeat (first | refine RS.seq ?_ | refine RS.region ?_ | refine RS.regionQ ?_ (by kernel_rfl) (by kernel_rfl) | refine RS.skip ?_ | refine RS.inBlock ?_ | refine RS.block ?_ | refine RS.exit ?_)); refine asI ?_; refine LS.done ?_
    (repeat (first | refine RS.seq ?_ | refine RS.region ?_ | refine RS.regionQ ?_ (by kernel_rfl) (by kernel_rfl) | refine RS.skip ?_ | refine RS.inBlock ?_ | refine RS.block ?_ | refine RS.exit ?_))
    refine RS.loopF (X := Nat) 12 118 (fun x => x ≤ NN.length) (fun x => [(12, .int .i64 x)]) (fun _ => σ6) (fun _ => [ledHP bl S2]) (fun x => NN.length - x) 0 (Nat.zero_le _) ⟨rfl, trivial⟩ rfl ⟨fun h => h⟩ ?_
    rintro j g5 hj ihj
    (repeat (first | refine RS.seq ?_ | refine RS.region ?_ | refine RS.regionQ ?_ (by kernel_rfl) (by kernel_rfl) | refine RS.skip ?_ | refine RS.inBlock ?_ | refine RS.block ?_ | refine RS.exit ?_)); refine mvI ?_; refine mvL ?_; refine lenL ?_; refine ltI ?_; refine LS.done ?_
    (repeat (first | refine RS.seq ?_ | refine RS.region ?_ | refine RS.regionQ ?_ (by kernel_rfl) (by kernel_rfl) | refine RS.skip ?_ | refine RS.inBlock ?_ | refine RS.block ?_ | refine RS.exit ?_))
    by_cases hlt : j < NN.length
    · refine RS.condT ?_ (h := by simp; omega)
      obtain ⟨b6, o6, rfl, hrow6⟩ := hr6.addr (List.ne_nil_of_length_pos (by omega))
      obtain ⟨bs, os, rfl, _⟩ := hr4'.addr (List.ne_nil_of_length_pos (by omega))
      obtain ⟨vs, hcs, hrep⟩ := hrow6 j (by omega)
      obtain ⟨vm, vt, rfl, _⟩ := hrep
      have hnj : (nodesOf S2)[j].name = NN[j] := by
        have : ((nodesOf S2).map (·.name))[j]? = NN[j]? := by rw [hnm]
        rw [List.getElem?_map, List.getElem?_eq_getElem (by omega), List.getElem?_eq_getElem hlt] at this
        exact Option.some.inj this
      have hc0 : σ6.cell b6 (o6 + j * 6 + 0) = some (.string NN[j]) := by rw [← hnj]; exact hcs 0 (by decide)
      have hc1 := PH.cell_mono hle6 (RepL.strCell hr4' j hlt)
      (repeat (first | refine RS.seq ?_ | refine RS.region ?_ | refine RS.regionQ ?_ (by kernel_rfl) (by kernel_rfl) | refine RS.skip ?_ | refine RS.inBlock ?_ | refine RS.block ?_ | refine RS.exit ?_)); refine mvL ?_; refine mvI ?_; refine idx (i := j) ?_; refine fld ?_; refine ldS hc0 ?_; refine mvL ?_; refine mvI ?_; refine idx (i := j) ?_; refine ldS hc1 ?_; refine neS ?_; rw [decide_eq_true (show NN[j] = NN[j] from rfl)]; refine LS.done ?_
      (repeat (first | refine RS.seq ?_ | refine RS.region ?_ | refine RS.regionQ ?_ (by kernel_rfl) (by kernel_rfl) | refine RS.skip ?_ | refine RS.inBlock ?_ | refine RS.block ?_ | refine RS.exit ?_)); refine RS.condF ?_
      (repeat (first | refine RS.seq ?_ | refine RS.region ?_ | refine RS.regionQ ?_ (by kernel_rfl) (by kernel_rfl) | refine RS.skip ?_ | refine RS.inBlock ?_ | refine RS.block ?_ | refine RS.exit ?_)); refine mvI ?_; (first | refine addN ?_ | refine addI ?_); refine asI ?_; refine LS.done ?_; (repeat (first | refine RS.seq ?_ | refine RS.region ?_ | refine RS.regionQ ?_ (by kernel_rfl) (by kernel_rfl) | refine RS.skip ?_ | refine RS.inBlock ?_ | refine RS.block ?_ | refine RS.exit ?_))
      exact ihj (j + 1) (by omega) (by omega) ⟨rfl, trivial⟩ (by repeat (first | with_reducible exact Out.refl _ _ _ | exact Out.hv | refine Out.upd ?_ | refine Out.hvIn ?_)) ⟨fun h => h⟩ rfl
    · refine RS.condF ?_ (h := by simp; omega)
      (repeat (first | refine RS.seq ?_ | refine RS.region ?_ | refine RS.regionQ ?_ (by kernel_rfl) (by kernel_rfl) | refine RS.skip ?_ | refine RS.inBlock ?_ | refine RS.block ?_ | refine RS.exit ?_)); refine mvI ?_; (first | refine addN ?_ | refine addI ?_); refine asI ?_; refine LS.done ?_; (repeat (first | refine RS.seq ?_ | refine RS.region ?_ | refine RS.regionQ ?_ (by kernel_rfl) (by kernel_rfl) | refine RS.skip ?_ | refine RS.inBlock ?_ | refine RS.block ?_ | refine RS.exit ?_))
      exact ih (i + 1, S2, NN, .slice a4' NN.length c4', σ6) ⟨by (try dsimp only); omega, by (try dsimp only); omega, ho2, hr4'.mono hle6, PH.le_trans hle2 (PH.le_trans hle3 (PH.le_trans hle4 hle6))⟩ (by (try dsimp only); omega) ⟨rfl, rfl, trivial⟩ (by repeat (first | with_reducible exact Out.refl _ _ _ | exact Out.hv | refine Out.upd ?_ | refine Out.hvIn ?_)) ⟨fun h => h⟩ rfl
  · (repeat (first | refine RS.seq ?_ | refine RS.region ?_ | refine RS.regionQ ?_ (by kernel_rfl) (by kernel_rfl) | refine RS.skip ?_ | refine RS.inBlock ?_ | refine RS.block ?_ | refine RS.exit ?_)); refine asB ?_; refine LS.done ?_; (repeat (first | refine RS.seq ?_ | refine RS.region ?_ | refine RS.regionQ ?_ (by kernel_rfl) (by kernel_rfl) | refine RS.skip ?_ | refine RS.inBlock ?_ | refine RS.block ?_ | refine RS.exit ?_)); refine RS.ret1 (v := .bool _) Try.func6 fun w hw => ?_
    exact ⟨rfl, hw.below⟩
end Go.Proofs.Ytbinkokafbpnoaa
