/- The law SpecOrder answers true. -/
import Derived.Test.YtejdccgebljmgaaSlices
namespace Go.Proofs.Ytejdccgebljmgaa
open Go.JW Go.RowKit

def pG (ns : List Int) (i : Nat) : PodD := ⟨nameOf (i : Int), 1 + (ns.getD i 0) % 4, i, 0, [], [], false⟩
def podsG (ns : List Int) (k : Nat) : List PodD := (List.range k).map (pG ns)
theorem podsG_succ (ns : List Int) (k : Nat) : podsG ns (k + 1) = podsG ns k ++ [pG ns k] := by simp [podsG, List.range_succ]
theorem podsG_length (ns : List Int) (k : Nat) : (podsG ns k).length = k := by simp [podsG]
theorem slice_snoc (l : List PodD) (p : PodD) (s : Int) : (sliceOf (l ++ [p]) s).length = (sliceOf l s).length + (if p.shard = s then 1 else 0) := by
  rw [sliceOf, List.filter_append, List.length_append]
  by_cases c : p.shard = s <;> simp [sliceOf, List.filter_cons, c]
def cntL (l : List PodD) : List Value := [.int .i64 0, .int .i64 (sliceOf l 1).length, .int .i64 (sliceOf l 2).length, .int .i64 (sliceOf l 3).length, .int .i64 (sliceOf l 4).length]
theorem cnt_at (l : List PodD) (s : Nat) (hs : 1 ≤ s ∧ s ≤ 4) : nth (cntL l) (0 + s * 1) = some (.int .i64 (sliceOf l s).length) := by
  have : s = 1 ∨ s = 2 ∨ s = 3 ∨ s = 4 := by omega
  rcases this with rfl | rfl | rfl | rfl <;> rfl
theorem cnt_set (l : List PodD) (p : PodD) (s : Nat) (hs : 1 ≤ s ∧ s ≤ 4) (hp : p.shard = s) : setAt (cntL l) (0 + s * 1) [.int .i64 ((sliceOf l s).length + 1)] = cntL (l ++ [p]) := by
  have : s = 1 ∨ s = 2 ∨ s = 3 ∨ s = 4 := by omega
  simp only [cntL, slice_snoc, hp]
  rcases this with rfl | rfl | rfl | rfl <;> simp [setAt]
def cG (ns : List Int) (i : Nat) : List Value := [.string (nameOf (i : Int)), .int .i64 (1 + (ns.getD i 0) % 4), .int .i64 i, .int .i64 0, .slice none 0 0, .slice none 0 0, .bool false]
theorem repG (σ : PH) (ns : List Int) (i : Nat) (hi : i ≤ 100) : Rep.rep σ (cG ns i) (pG ns i) := ⟨_, _, rfl, by have := nameOf_size (i : Int); show (nameOf _).size ≤ _; omega, by
  obtain ⟨h1, h2⟩ := wmod (ns.getD i 0) 4 (by omega)
  show I64 (1 + _ % 4); omega, by show I64 (i : Int); omega, by show I64 0; decide, RepL.nil _ _ _, RepL.nil _ _ _⟩
def wantTo (l : List PodD) (s : Nat) : List Int := ((List.range s).filter fun (j : Nat) => decide (0 < j ∧ 0 < (sliceOf l (j : Int)).length)).map Int.ofNat
theorem wantTo_succ (l : List PodD) (s : Nat) (hs : 0 < s) : wantTo l (s + 1) = wantTo l s ++ (if 0 < (sliceOf l s).length then [(s : Int)] else []) := by
  simp only [wantTo, List.range_succ, List.filter_append, List.map_append]
  congr 1
  by_cases h : 0 < (sliceOf l s).length <;> simp [hs, h]
theorem wantTo_len (l : List PodD) (s : Nat) : (wantTo l s).length ≤ s := by
  simp only [wantTo, List.length_map]
  exact Nat.le_trans (List.length_filter_le _ _) (by simp)
theorem want_eq (l : List PodD) (h : ∀ p ∈ l, 1 ≤ p.shard ∧ p.shard ≤ 4) : shardsOf l = wantTo l 5 := by
  refine (shards_rising l).ext ?_ fun x => ?_
  · unfold Rising wantTo
    rw [List.pairwise_map]
    refine List.Pairwise.imp (fun {a b} hab => ?_) ((List.pairwise_lt_range (n := 5)).filter _)
    show (a : Int) < b
    omega
  · rw [mem_shards]
    simp only [shardL, wantTo, List.mem_map, List.mem_filter, List.mem_range, decide_eq_true_eq]
    constructor
    · rintro ⟨p, hp, rfl⟩
      obtain ⟨h1, h2⟩ := h p hp
      refine ⟨p.shard.toNat, ⟨by omega, by omega, ?_⟩, by show ((p.shard.toNat : Nat) : Int) = _; omega⟩
      exact List.length_pos_of_mem (List.mem_filter.2 ⟨hp, by simp; omega⟩)
    · rintro ⟨j, ⟨_, _, h3⟩, rfl⟩
      obtain ⟨p, hp⟩ := List.length_pos_iff_exists_mem.1 h3
      obtain ⟨h4, h5⟩ := List.mem_filter.1 hp
      exact ⟨p, h4, by simpa using h5⟩
theorem slice_at {l : List PodD} {s : Int} {k : Nat} (hk : k < (sliceOf l s).length) : (sliceOf l s)[k].shard = s := by
  have := List.getElem_mem hk
  obtain ⟨_, h⟩ := List.mem_filter.1 this
  simpa using h
theorem slice_up {ns : List Int} {m : Nat} {s : Int} {j k : Nat} (hjk : j < k) (hk : k < (sliceOf (podsG ns m) s).length) : (sliceOf (podsG ns m) s)[j].cpu < (sliceOf (podsG ns m) s)[k].cpu := by
  have hp : (podsG ns m).Pairwise (fun p q => p.cpu < q.cpu) := by
    unfold podsG
    rw [List.pairwise_map]
    refine List.Pairwise.imp (fun {a b} hab => ?_) (List.pairwise_lt_range (n := m))
    show (a : Int) < b; omega
  exact List.pairwise_iff_getElem.1 (hp.filter _) j k (Nat.lt_trans hjk hk) hk hjk
theorem RowAt.podCpu {σ : PH} {b o : Nat} {l : List PodD} (h : RowAt σ b o l) (i : Nat) (hi : i < l.length) : σ.cell b (o + i * 7 + 2) = some (.int .i64 l[i].cpu) ∧ I64 l[i].cpu := by
  obtain ⟨vs, h1, _, h2⟩ := RowAt.pod h i hi
  obtain ⟨vp, vb, rfl, _, _, hs, _⟩ := h1
  exact ⟨h2 2 (by omega), hs⟩
theorem order_c (v : Value) (ns : List Int) (w : World) (hns : RepL (hp w) v ns) : Calls Try.prog 7 #[v] w fun e w' => e = .returned (.bool true) ∧ Below w.heap.size w w' := by
  obtain ⟨an, cn, rfl⟩ := hns.form
  have hlen : ns.length ≤ 140737488355328 := hns.1
  refine RS.enter Try.func7 Try.ntmps7 rfl rfl ?_
  (repeat (first | refine RS.seq ?_ | refine RS.region ?_ | refine RS.regionQ ?_ (by kernel_rfl) (by kernel_rfl) | refine RS.skip ?_ | refine RS.inBlock ?_ | refine RS.block ?_ | refine RS.exit ?_)); refine asB ?_; refine LS.done ?_
  (repeat (first | refine RS.seq ?_ | refine RS.region ?_ | refine RS.regionQ ?_ (by kernel_rfl) (by kernel_rfl) | refine RS.skip ?_ | refine RS.inBlock ?_ | refine RS.block ?_ | refine RS.exit ?_)); skip
  refine callP ?_ (hc := fun w _ => known_c w)
  refine not_ ?_; refine LS.done ?_
  (repeat (first | refine RS.seq ?_ | refine RS.region ?_ | refine RS.regionQ ?_ (by kernel_rfl) (by kernel_rfl) | refine RS.skip ?_ | refine RS.inBlock ?_ | refine RS.block ?_ | refine RS.exit ?_)); refine RS.condF ?_
  (repeat (first | refine RS.seq ?_ | refine RS.region ?_ | refine RS.regionQ ?_ (by kernel_rfl) (by kernel_rfl) | refine RS.skip ?_ | refine RS.inBlock ?_ | refine RS.block ?_ | refine RS.exit ?_)); refine bld (vals := [(0, .int _ _)]) [_, _] ?_; refine alloc_ (fun b3 => ?_); refine st (.agg _) _ ?_; refine LS.done ?_
  (repeat (first | refine RS.seq ?_ | refine RS.region ?_ | refine RS.regionQ ?_ (by kernel_rfl) (by kernel_rfl) | refine RS.skip ?_ | refine RS.inBlock ?_ | refine RS.block ?_ | refine RS.exit ?_)); refine alloc_ (fun b4 => ?_); refine LS.done ?_
  (repeat (first | refine RS.seq ?_ | refine RS.region ?_ | refine RS.regionQ ?_ (by kernel_rfl) (by kernel_rfl) | refine RS.skip ?_ | refine RS.inBlock ?_ | refine RS.block ?_ | refine RS.exit ?_)); refine asI ?_; refine LS.done ?_
  refine RS.nilD 0 PodD 26 ?_
  (repeat (first | refine RS.seq ?_ | refine RS.region ?_ | refine RS.regionQ ?_ (by kernel_rfl) (by kernel_rfl) | refine RS.skip ?_ | refine RS.inBlock ?_ | refine RS.block ?_ | refine RS.exit ?_))
  refine RS.loopF (X := Nat × Value × PH) 5 46 (fun x => x.1 ≤ 30 ∧ x.1 ≤ ns.length ∧ PH.le (hp w) x.2.2) (fun x => [(5, .int .i64 x.1)]) (fun x => x.2.2) (fun x => [rowD 0 26 x.2.1 (podsG ns x.1), blk b3 (.cells (List.toArray [.int .i64 1, x.2.1]) 48 (0, 0)), blk b4 (.cells (List.toArray (cntL (podsG ns x.1))) 57 (0, 0))]) (fun x => 30 - x.1) (0, .slice none 0 0, hp w) ⟨by omega, by omega, PH.le_refl _⟩ ⟨rfl, trivial⟩ rfl ⟨fun h => SepIn.cons_sub (fun _ h => h.swap) h⟩ ?_
  rintro ⟨i, v, σ⟩ gg ⟨hi30, hin, hle⟩ ih
  simp only at hi30 hin hle ih ⊢
  (repeat (first | refine RS.seq ?_ | refine RS.region ?_ | refine RS.regionQ ?_ (by kernel_rfl) (by kernel_rfl) | refine RS.skip ?_ | refine RS.inBlock ?_ | refine RS.block ?_ | refine RS.exit ?_))
  refine LS.cut 14 22 [(21, .bool (decide (i < ns.length ∧ i < 30)))] (fun gc => ?_) (fun J => ?_)
  rotate_left
  · refine mvI ?_; refine mvL ?_; refine lenL ?_; refine ltI ?_; refine mvB ?_
    refine LS.part 18 (fun g1 => ?_) (fun g1 => ?_)
    · refine LS.on ?_; refine mvI ?_; refine LS.on ?_; refine ltI ?_; refine pk (v := .bool _) ?_; refine LS.done ?_
      simp only [decide_eq_true_eq] at g1
      exact J ⟨boolV (decide_eq_decide.2 (by omega)), trivial⟩ (by repeat (first | with_reducible exact Out.refl _ _ _ | exact Out.hv | refine Out.upd ?_ | refine Out.hvIn ?_))
    · refine LS.off ?_; refine LS.off ?_; refine pk (v := .bool _) ?_; refine LS.done ?_
      simp only [decide_eq_false_iff_not] at g1
      exact J ⟨boolV (by symm; exact decide_eq_false (by omega)), trivial⟩ (by repeat (first | with_reducible exact Out.refl _ _ _ | exact Out.hv | refine Out.upd ?_ | refine Out.hvIn ?_))
  (repeat (first | refine RS.seq ?_ | refine RS.region ?_ | refine RS.regionQ ?_ (by kernel_rfl) (by kernel_rfl) | refine RS.skip ?_ | refine RS.inBlock ?_ | refine RS.block ?_ | refine RS.exit ?_))
  refine RS.cond (fun c => ?_) (fun c => ?_)
  · simp only [decide_eq_true_eq] at c
    obtain ⟨b, o, rfl, hr⟩ := hns.addr (fun h => by simp [h] at c)
    obtain ⟨hcell, h64⟩ := (hr.mono hle).int i c.1
    have hgd : ns[i] = ns.getD i 0 := by simp [List.getD_eq_getElem?_getD, c.1]
    rw [hgd] at hcell h64
    obtain ⟨h1, h2⟩ := wmod (ns.getD i 0) 4 (by omega)
    have hpl := podsG_length ns i
    (repeat (first | refine RS.seq ?_ | refine RS.region ?_ | refine RS.regionQ ?_ (by kernel_rfl) (by kernel_rfl) | refine RS.skip ?_ | refine RS.inBlock ?_ | refine RS.block ?_ | refine RS.exit ?_)); refine mvL ?_; refine mvI ?_; refine idx (i := i) ?_; refine ldS hcell ?_
    refine callP ?_ (hc := fun w _ => w3_c _ _ (by omega) (by omega) w)
    (first | refine addN ?_ | refine addI ?_); refine asI ?_; refine LS.done ?_
    (repeat (first | refine RS.seq ?_ | refine RS.region ?_ | refine RS.skip ?_ | refine RS.inBlock ?_ | refine RS.block ?_ | refine RS.exit ?_)); refine RS.draw [.free, .ex, .free, .ex, .free, .free, .free, .free, .ex, .eff, .free, .st] [blk b3 (.cells (List.toArray [.int .i64 1, v]) 48 (0, 0))] ?_ (by kernel_rfl) (by kernel_rfl) (by infer_instance); refine D.fld ?_; refine D.ld1 (v := v) ?_; refine D.mvI ?_
    refine D.callP ?_ (hc := fun _ _ w _ _ _ => lname_c _ w)
    refine D.mvI ?_; refine D.mvI ?_; refine D.bld (vals := [(0, .int _ _)]) [_, _] ?_; refine D.bld (vals := [(0, .string _), (1, .int _ _), (2, .agg (List.toArray [_, _]))]) [_, _, _, _, _, _, _] ?_
    refine D.litT 0 [pG ns i] (vs := fun us => [.agg (List.toArray (cG ns i))]) ?_ (fun us σ' _ _ => by exact ⟨repG _ ns i (by omega), trivial⟩)
    refine D.appD v [pG ns i] (vy := fun us => us 38) ?_ (fun us σ' _ ⟨h1, _⟩ => ⟨_, h1, PH.le_refl _⟩)
    refine D.fld ?_
    refine D.stU 39 (fun us => [.int .i64 1, us 39]) ?_
    refine D.done (fun us σ1 hle1 hfs => ?_)
    rw [← podsG_succ]
    refine RS.to (K' := [rowD 0 26 (us 39) (podsG ns (i + 1)), blk b3 (.cells (List.toArray [.int .i64 1, us 39]) 48 (0, 0)), blk b4 (.cells (List.toArray (cntL (podsG ns i))) 57 (0, 0))]) ?_ ⟨fun h => h⟩
    obtain ⟨s, hs⟩ : ∃ m : Nat, (m : Int) = 1 + ns.getD i 0 % 4 := ⟨(1 + ns.getD i 0 % 4).toNat, by omega⟩
    refine RS.as 6 (.int .i64 s) (by rw [hs]; rfl) ?_
    have hsl : (sliceOf (podsG ns i) s).length ≤ 30 := Nat.le_trans (List.length_filter_le _ _) (by omega)
    have hcs := cnt_set (podsG ns i) (pG ns i) s (by omega) hs.symm
    rw [← podsG_succ] at hcs
    (repeat (first | refine RS.seq ?_ | refine RS.region ?_ | refine RS.regionQ ?_ (by kernel_rfl) (by kernel_rfl) | refine RS.skip ?_ | refine RS.inBlock ?_ | refine RS.block ?_ | refine RS.exit ?_)); refine mvI ?_; refine idxA (i := s) ?_; refine ld1 (v := .int .i64 (sliceOf (podsG ns i) s).length) ?_ (hv := cnt_at _ s (by omega)); (first | refine addN ?_ | refine addI ?_); refine idxA (i := s) ?_; refine st (.int _ _) _ ?_ (hr := by rw [Nat.ble_eq]; show 0 + s * 1 + 1 ≤ 5; omega); refine LS.done ?_
    (repeat (first | refine RS.seq ?_ | refine RS.region ?_ | refine RS.regionQ ?_ (by kernel_rfl) (by kernel_rfl) | refine RS.skip ?_ | refine RS.inBlock ?_ | refine RS.block ?_ | refine RS.exit ?_)); refine mvI ?_; (first | refine addN ?_ | refine addI ?_); refine asI ?_; refine LS.done ?_; (repeat (first | refine RS.seq ?_ | refine RS.region ?_ | refine RS.regionQ ?_ (by kernel_rfl) (by kernel_rfl) | refine RS.skip ?_ | refine RS.inBlock ?_ | refine RS.block ?_ | refine RS.exit ?_))
    exact ih (i + 1, us 39, σ1) ⟨by omega, by omega, PH.le_trans hle hle1⟩ (by omega) ⟨rfl, trivial⟩ (by repeat (first | with_reducible exact Out.refl _ _ _ | exact Out.hv | refine Out.upd ?_ | refine Out.hvIn ?_)) ⟨fun h => by simp only [← hcs]; exact h⟩ rfl
  · simp only [decide_eq_false_iff_not] at c
    clear ih c
    have hpl := podsG_length ns i
    obtain ⟨L, hL⟩ : ∃ L, L = podsG ns i := ⟨_, rfl⟩
    have hLs : ∀ p ∈ L, 1 ≤ p.shard ∧ p.shard ≤ 4 := fun p hp => by
      rw [hL] at hp
      simp only [podsG, List.mem_map] at hp
      obtain ⟨j, _, rfl⟩ := hp
      obtain ⟨h1, h2⟩ := wmod (ns.getD j 0) 4 (by omega)
      show 1 ≤ 1 + _ % 4 ∧ 1 + _ % 4 ≤ 4; omega
    have hLb : ∀ p ∈ L, p.picks.length ≤ 1000 ∧ p.bears.length ≤ 1000 := fun p hp => by
      rw [hL] at hp
      simp only [podsG, List.mem_map] at hp
      obtain ⟨j, _, rfl⟩ := hp
      exact ⟨by simp [pG], by simp [pG]⟩
    have hup : ∀ {s : Int} {j k : Nat} (_ : j < k) (hk : k < (sliceOf L s).length), (sliceOf L s)[j].cpu < (sliceOf L s)[k].cpu := fun {s j k} hjk hk => by subst hL; exact slice_up hjk hk
    rw [← hL] at hpl ⊢
    clear hL
    have hsl : ∀ s, (sliceOf L s).length ≤ 30 := fun s => Nat.le_trans (List.length_filter_le _ _) (by omega)
    refine RS.formD v (fun a3 c3 e3 _ => ?_); subst e3
    (repeat (first | refine RS.seq ?_ | refine RS.region ?_ | refine RS.regionQ ?_ (by kernel_rfl) (by kernel_rfl) | refine RS.skip ?_ | refine RS.inBlock ?_ | refine RS.block ?_ | refine RS.exit ?_)); refine asL ?_; refine LS.done ?_
    refine RS.nilD 0 Int 3 ?_
    (repeat (first | refine RS.seq ?_ | refine RS.region ?_ | refine RS.regionQ ?_ (by kernel_rfl) (by kernel_rfl) | refine RS.skip ?_ | refine RS.inBlock ?_ | refine RS.block ?_ | refine RS.exit ?_)); refine asI ?_; refine LS.done ?_
    (repeat (first | refine RS.seq ?_ | refine RS.region ?_ | refine RS.regionQ ?_ (by kernel_rfl) (by kernel_rfl) | refine RS.skip ?_ | refine RS.inBlock ?_ | refine RS.block ?_ | refine RS.exit ?_))
    refine RS.loopF (X := Nat × Value × PH) 7 100 (fun x => 1 ≤ x.1 ∧ x.1 ≤ 5 ∧ PH.le (hp w) x.2.2) (fun x => [(8, .int .i64 x.1), (7, x.2.1)]) (fun x => x.2.2) (fun x => [rowD 0 3 x.2.1 (wantTo L x.1), rowD 0 26 (.slice a3 L.length c3) L, blk b3 (.cells (List.toArray [.int .i64 1, .slice a3 L.length c3]) 48 (0, 0)), blk b4 (.cells (List.toArray (cntL L)) 57 (0, 0))]) (fun x => 5 - x.1) (1, .slice none 0 0, σ) ⟨by omega, by omega, hle⟩ ⟨rfl, rfl, trivial⟩ rfl ⟨fun h => h⟩ ?_
    rintro ⟨s, vw, σ2⟩ g2 ⟨hs1, hs5, hle2⟩ ih2
    simp only at hs1 hs5 hle2 ih2 ⊢
    (repeat (first | refine RS.seq ?_ | refine RS.region ?_ | refine RS.regionQ ?_ (by kernel_rfl) (by kernel_rfl) | refine RS.skip ?_ | refine RS.inBlock ?_ | refine RS.block ?_ | refine RS.exit ?_)); refine mvI ?_; refine leI ?_; refine LS.done ?_
    (repeat (first | refine RS.seq ?_ | refine RS.region ?_ | refine RS.regionQ ?_ (by kernel_rfl) (by kernel_rfl) | refine RS.skip ?_ | refine RS.inBlock ?_ | refine RS.block ?_ | refine RS.exit ?_))
    have hrep : ∀ {w' : World} {σ' : PH}, Sat w (fun _ => False) σ' [rowD 0 3 vw (wantTo L s), rowD 0 26 (.slice a3 L.length c3) L, blk b3 (.cells (List.toArray [.int .i64 1, .slice a3 L.length c3]) 48 (0, 0)), blk b4 (.cells (List.toArray (cntL L)) 57 (0, 0))] w' → Rep.rep (hp w') [.int .i64 1, .slice a3 L.length c3] (⟨1, L⟩ : GangD) := fun hw =>
      ⟨_, rfl, by show I64 1; decide, hw.rowRepD (v := .slice a3 L.length c3) (l := L) (by omega)⟩
    by_cases hlt : s < 5
    · refine RS.condT ?_ (h := by simp; omega)
      (repeat (first | refine RS.seq ?_ | refine RS.region ?_ | refine RS.regionQ ?_ (by kernel_rfl) (by kernel_rfl) | refine RS.skip ?_ | refine RS.inBlock ?_ | refine RS.block ?_ | refine RS.exit ?_)); refine ldA [_, _] ?_; refine mvI ?_
      refine callT (fun v τ => RepL τ v (sliceOf L s)) (fun v9 τ3 σ3 hq3 hN3 hle3 hτ3 => ?_) (fun w' hw => slice_w _ ⟨1, L⟩ s w' (hrep hw) (show L.length ≤ 1000 by omega) hLb)
      obtain ⟨a9, c9, rfl⟩ := hq3.form
      have h9 := hq3.mono hτ3
      have hs30 := hsl s
      refine asL ?_; refine LS.done ?_
      (repeat (first | refine RS.seq ?_ | refine RS.region ?_ | refine RS.regionQ ?_ (by kernel_rfl) (by kernel_rfl) | refine RS.skip ?_ | refine RS.inBlock ?_ | refine RS.block ?_ | refine RS.exit ?_)); refine mvL ?_; refine lenL ?_; refine mvI ?_; refine idxA (i := s) ?_; refine ld1 (v := .int .i64 (sliceOf L s).length) ?_ (hv := cnt_at _ s (by omega)); refine neI ?_; refine LS.done ?_
      (repeat (first | refine RS.seq ?_ | refine RS.region ?_ | refine RS.regionQ ?_ (by kernel_rfl) (by kernel_rfl) | refine RS.skip ?_ | refine RS.inBlock ?_ | refine RS.block ?_ | refine RS.exit ?_)); refine RS.condF ?_ (h := by simp)
      (repeat (first | refine RS.seq ?_ | refine RS.region ?_ | refine RS.regionQ ?_ (by kernel_rfl) (by kernel_rfl) | refine RS.skip ?_ | refine RS.inBlock ?_ | refine RS.block ?_ | refine RS.exit ?_)); refine asI ?_; refine LS.done ?_
      (repeat (first | refine RS.seq ?_ | refine RS.region ?_ | refine RS.regionQ ?_ (by kernel_rfl) (by kernel_rfl) | refine RS.skip ?_ | refine RS.inBlock ?_ | refine RS.block ?_ | refine RS.exit ?_))
      refine RS.loopF (X := Nat) 10 92 (fun k => k ≤ (sliceOf L s).length) (fun k => [(10, .int .i64 k)]) (fun _ => σ3) (fun _ => [rowD 0 3 vw (wantTo L s), rowD 0 26 (.slice a3 L.length c3) L, blk b3 (.cells (List.toArray [.int .i64 1, .slice a3 L.length c3]) 48 (0, 0)), blk b4 (.cells (List.toArray (cntL L)) 57 (0, 0))]) (fun k => (sliceOf L s).length - k) 0 (by omega) ⟨rfl, trivial⟩ rfl ⟨fun h => h⟩ ?_
      rintro k g3 hk ihk
      (repeat (first | refine RS.seq ?_ | refine RS.region ?_ | refine RS.regionQ ?_ (by kernel_rfl) (by kernel_rfl) | refine RS.skip ?_ | refine RS.inBlock ?_ | refine RS.block ?_ | refine RS.exit ?_)); refine mvI ?_; refine mvL ?_; refine lenL ?_; refine ltI ?_; refine LS.done ?_
      (repeat (first | refine RS.seq ?_ | refine RS.region ?_ | refine RS.regionQ ?_ (by kernel_rfl) (by kernel_rfl) | refine RS.skip ?_ | refine RS.inBlock ?_ | refine RS.block ?_ | refine RS.exit ?_))
      by_cases hkl : k < (sliceOf L s).length
      · refine RS.condT ?_ (h := by simp; omega)
        obtain ⟨b9, o9, e9, hrow9⟩ := h9.addr (fun h => by simp [h] at hkl)
        subst e9
        obtain ⟨hc1, _⟩ := RowAt.podShard hrow9 k hkl
        obtain ⟨hc2, hc64⟩ := RowAt.podCpu hrow9 k hkl
        rw [slice_at hkl] at hc1
        (repeat (first | refine RS.seq ?_ | refine RS.region ?_ | refine RS.regionQ ?_ (by kernel_rfl) (by kernel_rfl) | refine RS.skip ?_ | refine RS.inBlock ?_ | refine RS.block ?_ | refine RS.exit ?_))
        refine LS.cut 65 92 [(91, .bool false)] (fun gc => ?_) (fun J => ?_)
        rotate_left
        · refine mvL ?_; refine mvI ?_; refine idx (i := k) ?_; refine fld ?_; refine ldS hc1 ?_; refine mvI ?_; refine neI ?_; refine mvB ?_
          refine LS.part 72 (fun g1 => ?_) (fun g1 => ?_)
          · exfalso; simp at g1
          refine LS.on ?_; refine mvI ?_; refine LS.on ?_; refine gtI ?_; refine LS.on ?_; refine mvB ?_
          refine LS.part 75 (fun g4 => ?_) (fun g4 => ?_)
          · simp only [decide_eq_true_eq] at g4
            obtain ⟨hc3, hc364⟩ := RowAt.podCpu hrow9 (k - 1) (by omega)
            have hlt2 := hup (s := (s : Int)) (show k - 1 < k by omega) hkl
            refine LS.on ?_; refine mvL ?_; refine LS.on ?_; refine mvI ?_; refine LS.on ?_; (first | refine subN ?_ | refine subI ?_); refine LS.on ?_; refine idx (i := k - 1) ?_ (hj := by omega); refine LS.on ?_; refine fld ?_; refine LS.on ?_; refine fld ?_; refine LS.on ?_; refine ldS hc3 ?_; refine LS.on ?_; refine mvL ?_; refine LS.on ?_; refine mvI ?_; refine LS.on ?_; refine idx (i := k) ?_; refine LS.on ?_; refine fld ?_; refine LS.on ?_; refine fld ?_; refine LS.on ?_; refine ldS hc2 ?_; refine LS.on ?_; refine geI ?_; refine LS.on ?_; refine pk (v := .bool _) ?_; refine pk (v := .bool _) ?_; refine LS.done ?_
            exact J ⟨boolV (by simp; omega), trivial⟩ (by repeat (first | with_reducible exact Out.refl _ _ _ | exact Out.hv | refine Out.upd ?_ | refine Out.hvIn ?_))
          · simp only [decide_eq_false_iff_not] at g4
            refine LS.off ?_; refine LS.off ?_; refine LS.off ?_; refine LS.off ?_; refine LS.off ?_; refine LS.off ?_; refine LS.off ?_; refine LS.off ?_; refine LS.off ?_; refine LS.off ?_; refine LS.off ?_; refine LS.off ?_; refine LS.off ?_; refine LS.off ?_; refine LS.on ?_; refine pk (v := .bool _) ?_; refine pk (v := .bool _) ?_; refine LS.done ?_
            exact J ⟨rfl, trivial⟩ (by repeat (first | with_reducible exact Out.refl _ _ _ | exact Out.hv | refine Out.upd ?_ | refine Out.hvIn ?_))
        (repeat (first | refine RS.seq ?_ | refine RS.region ?_ | refine RS.regionQ ?_ (by kernel_rfl) (by kernel_rfl) | refine RS.skip ?_ | refine RS.inBlock ?_ | refine RS.block ?_ | refine RS.exit ?_))
        refine RS.condF ?_
        (repeat (first | refine RS.seq ?_ | refine RS.region ?_ | refine RS.regionQ ?_ (by kernel_rfl) (by kernel_rfl) | refine RS.skip ?_ | refine RS.inBlock ?_ | refine RS.block ?_ | refine RS.exit ?_)); refine mvI ?_; (first | refine addN ?_ | refine addI ?_); refine asI ?_; refine LS.done ?_; (repeat (first | refine RS.seq ?_ | refine RS.region ?_ | refine RS.regionQ ?_ (by kernel_rfl) (by kernel_rfl) | refine RS.skip ?_ | refine RS.inBlock ?_ | refine RS.block ?_ | refine RS.exit ?_))
        exact ihk (k + 1) hkl (by omega) ⟨rfl, trivial⟩ (by repeat (first | with_reducible exact Out.refl _ _ _ | exact Out.hv | refine Out.upd ?_ | refine Out.hvIn ?_)) ⟨fun h => h⟩ rfl
      · refine RS.condF ?_ (h := by simp; omega)
        clear ihk
        have hws := wantTo_succ L s (by omega)
        have hwl := wantTo_len L s
        (repeat (first | refine RS.seq ?_ | refine RS.region ?_ | refine RS.regionQ ?_ (by kernel_rfl) (by kernel_rfl) | refine RS.skip ?_ | refine RS.inBlock ?_ | refine RS.block ?_ | refine RS.exit ?_)); refine mvI ?_; refine idxA (i := s) ?_; refine ld1 (v := .int .i64 (sliceOf L s).length) ?_ (hv := cnt_at _ s (by omega)); refine gtI ?_; refine LS.done ?_
        (repeat (first | refine RS.seq ?_ | refine RS.region ?_ | refine RS.regionQ ?_ (by kernel_rfl) (by kernel_rfl) | refine RS.skip ?_ | refine RS.inBlock ?_ | refine RS.block ?_ | refine RS.exit ?_))
        refine RS.cond (fun z => ?_) (fun z => ?_)
        · simp only [decide_eq_true_eq] at z
          rw [if_pos (by omega)] at hws
          (repeat (first | refine RS.seq ?_ | refine RS.region ?_ | refine RS.regionQ ?_ (by kernel_rfl) (by kernel_rfl) | refine RS.skip ?_ | refine RS.inBlock ?_ | refine RS.block ?_ | refine RS.exit ?_)); refine mv (v := vw) ?_; refine mvI ?_; refine bldS [.int _ _] [.int _ _] (fun b98 => ?_); refine appD (v := vw) (l' := [(s : Int)]) (vy := .slice (some ⟨b98, 0, none⟩) 1 1) (fun w' hw => ⟨[.int .i64 s], srcB hw TSlice.eq, CellsL.one_ (by exact ⟨rfl, by show I64 (s : Int); omega⟩)⟩) (fun v99 => ?_) (hb := by simp; omega) (hm := by simp; omega); refine as_ (v := v99) ?_; refine LS.done ?_
          (repeat (first | refine RS.seq ?_ | refine RS.region ?_ | refine RS.regionQ ?_ (by kernel_rfl) (by kernel_rfl) | refine RS.skip ?_ | refine RS.inBlock ?_ | refine RS.block ?_ | refine RS.exit ?_)); refine mvI ?_; (first | refine addN ?_ | refine addI ?_); refine asI ?_; refine LS.done ?_; (repeat (first | refine RS.seq ?_ | refine RS.region ?_ | refine RS.regionQ ?_ (by kernel_rfl) (by kernel_rfl) | refine RS.skip ?_ | refine RS.inBlock ?_ | refine RS.block ?_ | refine RS.exit ?_))
          exact ih2 (s + 1, v99, σ3) ⟨by omega, by omega, PH.le_trans hle2 hle3⟩ (by omega) ⟨rfl, rfl, trivial⟩ (by repeat (first | with_reducible exact Out.refl _ _ _ | exact Out.hv | refine Out.upd ?_ | refine Out.hvIn ?_)) ⟨fun h => by simp only [hws]; exact h.tail⟩ rfl
        · simp only [decide_eq_false_iff_not] at z
          rw [if_neg (by omega), List.append_nil] at hws
          (repeat (first | refine RS.seq ?_ | refine RS.region ?_ | refine RS.regionQ ?_ (by kernel_rfl) (by kernel_rfl) | refine RS.skip ?_ | refine RS.inBlock ?_ | refine RS.block ?_ | refine RS.exit ?_)); refine mvI ?_; (first | refine addN ?_ | refine addI ?_); refine asI ?_; refine LS.done ?_; (repeat (first | refine RS.seq ?_ | refine RS.region ?_ | refine RS.regionQ ?_ (by kernel_rfl) (by kernel_rfl) | refine RS.skip ?_ | refine RS.inBlock ?_ | refine RS.block ?_ | refine RS.exit ?_))
          exact ih2 (s + 1, vw, σ3) ⟨by omega, by omega, PH.le_trans hle2 hle3⟩ (by omega) ⟨rfl, rfl, trivial⟩ (by repeat (first | with_reducible exact Out.refl _ _ _ | exact Out.hv | refine Out.upd ?_ | refine Out.hvIn ?_)) ⟨fun h => by simp only [hws]; exact h⟩ rfl
    · refine RS.condF ?_ (h := by simp; omega)
      obtain rfl : s = 5 := by omega
      clear ih2 hlt
      have hwe := want_eq L hLs
      (repeat (first | refine RS.seq ?_ | refine RS.region ?_ | refine RS.regionQ ?_ (by kernel_rfl) (by kernel_rfl) | refine RS.skip ?_ | refine RS.inBlock ?_ | refine RS.block ?_ | refine RS.exit ?_)); refine ldA [_, _] ?_
      refine callT (fun v τ => RepL τ v (shardsOf L)) (fun v4 τ4 σ4 hq4 hN4 hle4 hτ4 => ?_) (fun w' hw => shards_c _ ⟨1, L⟩ w' (hrep hw) (show L.length ≤ 1000 by omega))
      obtain ⟨a4, c4, rfl⟩ := hq4.form
      have hwl := wantTo_len L 5
      refine mv (v := vw) ?_
      refine callP ?_ (hc := fun w' hw => rints_c _ _ (shardsOf L) w' ((hq4.mono hτ4).mono hw.imm) (by rw [hwe]; exact hw.rowRepD (v := vw) (by omega)))
      refine asB ?_; refine LS.done ?_
      (repeat (first | refine RS.seq ?_ | refine RS.region ?_ | refine RS.regionQ ?_ (by kernel_rfl) (by kernel_rfl) | refine RS.skip ?_ | refine RS.inBlock ?_ | refine RS.block ?_ | refine RS.exit ?_)); refine RS.ret1 (v := .bool _) Try.func7 fun w hw => ?_
      exact ⟨rfl, hw.below⟩
end Go.Proofs.Ytejdccgebljmgaa
