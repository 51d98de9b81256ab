/- The law LedgerShrinks answers true. -/
import Derived.Test.YtbinkokafbpnoaaLaw7
namespace Go.Proofs.Ytbinkokafbpnoaa
open Go.JW Go.RowKit
/-- A ledger with one node, where one gang has one place. -/
def oneT (c m : Int) (g : Int) (p : ByteArray) (u v : Int) : LedD := ⟨[(nmN, nodeN nmN c m)], [(g, [placeP p nmN u v])]⟩
theorem oneT_used (c m g : Int) (p : ByteArray) (u v : Int) : usedC (oneT c m g p u v).taken nmN = u ∧ usedM (oneT c m g p u v).taken nmN = v ∧ usedN (oneT c m g p u v).taken nmN = 1 := by
  refine ⟨?_, ?_, rfl⟩
  · show (if nmN = nmN then u else 0) + 0 + 0 = u; rw [if_pos rfl]; omega
  · show (if nmN = nmN then v else 0) + 0 + 0 = v; rw [if_pos rfl]; omega
theorem take_oneN {c m u v g : Int} {p : ByteArray} (hu : 0 ≤ u ∧ u ≤ c) (hv : 0 ≤ v ∧ v ≤ m) : takeE (oneN c m) g [placeP p nmN u v] = 0 ∧ (⟨(oneN c m).nodes, takeT (oneN c m) g [placeP p nmN u v]⟩ : LedD) = oneT c m g p u v := by
  have e : takeE (oneN c m) g [placeP p nmN u v] = 0 := by
    rw [takeE_one (n := nodeN nmN c m) rfl rfl ⟨hu.1, hv.1⟩, if_pos]
    exact ⟨by show (0 : Int) + u ≤ c; omega, by show (0 : Int) + v ≤ m; omega⟩
  exact ⟨e, by rw [takeT, if_pos e]; rfl⟩
theorem put_oneN {c m : Int} (hc : 0 ≤ c ∧ c ≤ 1099511627776) (hm : 0 ≤ m ∧ m ≤ 1099511627776) : putE ⟨[], []⟩ (nodeN nmN c m) = 0 ∧ (⟨putN ⟨[], []⟩ (nodeN nmN c m), []⟩ : LedD) = oneN c m := by
  have e := putE_first isName_n hc hm
  exact ⟨e, by rw [putN, if_pos e]; rfl⟩
theorem shrinks_c (used cap less : Int) (h1 : I64 used) (h2 : I64 cap) (h3 : I64 less) (w : World) : Calls Try.prog 11 #[.int .i64 used, .int .i64 cap, .int .i64 less] w fun e w' => e = .returned (.bool true) ∧ Below w.heap.size w w' := by
  obtain ⟨a1, a2⟩ := wmod cap 100 (by omega)
  obtain ⟨c, hc⟩ : ∃ c, c = cap % 100 := ⟨_, rfl⟩
  rw [← hc] at a1 a2
  obtain ⟨b1, b2⟩ := wmod used (c + 1) (by omega)
  obtain ⟨d1, d2⟩ := wmod less (c + 1) (by omega)
  obtain ⟨u, hu⟩ : ∃ u, u = used % (c + 1) := ⟨_, rfl⟩
  obtain ⟨k, hk⟩ : ∃ k, k = less % (c + 1) := ⟨_, rfl⟩
  rw [← hu] at b1 b2
  rw [← hk] at d1 d2
  refine RS.enter Try.func11 Try.ntmps11 rfl rfl ?_
  (repeat (first | refine RS.seq ?_ | refine RS.region ?_ | refine RS.regionQ ?_ (by kernel_rfl) (by kernel_rfl) | refine RS.skip ?_ | refine RS.inBlock ?_ | refine RS.block ?_ | refine RS.exit ?_)); refine asB ?_; refine LS.done ?_
  (repeat (first | refine RS.seq ?_ | refine RS.region ?_ | refine RS.regionQ ?_ (by kernel_rfl) (by kernel_rfl) | refine RS.skip ?_ | refine RS.inBlock ?_ | refine RS.block ?_ | refine RS.exit ?_)); skip
  refine callP ?_ (hc := fun w _ => known7_c w)
  refine not_ ?_; refine LS.done ?_
  (repeat (first | refine RS.seq ?_ | refine RS.region ?_ | refine RS.regionQ ?_ (by kernel_rfl) (by kernel_rfl) | refine RS.skip ?_ | refine RS.inBlock ?_ | refine RS.block ?_ | refine RS.exit ?_)); refine RS.condF ?_
  (repeat (first | refine RS.seq ?_ | refine RS.region ?_ | refine RS.regionQ ?_ (by kernel_rfl) (by kernel_rfl) | refine RS.skip ?_ | refine RS.inBlock ?_ | refine RS.block ?_ | refine RS.exit ?_)); skip
  refine newL (fun bl => ?_)
  refine asP ?_; refine LS.done ?_
  (repeat (first | refine RS.seq ?_ | refine RS.region ?_ | refine RS.regionQ ?_ (by kernel_rfl) (by kernel_rfl) | refine RS.skip ?_ | refine RS.inBlock ?_ | refine RS.block ?_ | refine RS.exit ?_)); refine mvP ?_; refine bin_eql_P ?_; refine LS.done ?_
  (repeat (first | refine RS.seq ?_ | refine RS.region ?_ | refine RS.regionQ ?_ (by kernel_rfl) (by kernel_rfl) | refine RS.skip ?_ | refine RS.inBlock ?_ | refine RS.block ?_ | refine RS.exit ?_)); refine RS.condF ?_
  (repeat (first | refine RS.seq ?_ | refine RS.region ?_ | refine RS.regionQ ?_ (by kernel_rfl) (by kernel_rfl) | refine RS.skip ?_ | refine RS.inBlock ?_ | refine RS.block ?_ | refine RS.exit ?_)); refine mvI ?_
  refine callP ?_ (hc := fun w _ => w7_c _ _ (by omega) (by omega) w)
  rw [← hc]
  refine asI ?_; refine LS.done ?_
  (repeat (first | refine RS.seq ?_ | refine RS.region ?_ | refine RS.regionQ ?_ (by kernel_rfl) (by kernel_rfl) | refine RS.skip ?_ | refine RS.inBlock ?_ | refine RS.block ?_ | refine RS.exit ?_)); refine mvI ?_; refine mvI ?_; (first | refine addN ?_ | refine addI ?_)
  refine callP ?_ (hc := fun w _ => w7_c _ _ (by omega) (by omega) w)
  rw [← hu]
  refine asI ?_; refine LS.done ?_
  (repeat (first | refine RS.seq ?_ | refine RS.region ?_ | refine RS.regionQ ?_ (by kernel_rfl) (by kernel_rfl) | refine RS.skip ?_ | refine RS.inBlock ?_ | refine RS.block ?_ | refine RS.exit ?_)); refine mvI ?_; refine mvI ?_; (first | refine addN ?_ | refine addI ?_)
  refine callP ?_ (hc := fun w _ => w7_c _ _ (by omega) (by omega) w)
  rw [← hk]
  refine asI ?_; refine LS.done ?_
  have i1 := oneInv (c := c) (m := c) (by omega) (by omega)
  obtain ⟨e1, n1⟩ := put_oneN (c := c) (m := c) (by omega) (by omega)
  obtain ⟨e2, n2⟩ := take_oneN (c := c) (m := c) (u := u) (v := 0) (g := 1) (p := nmP) (by omega) (by omega)
  have i2 := i1.take' 1 [placeP nmP nmN u 0] 1 n2 (by simp) (by simp)
  obtain ⟨u1, u2, u3⟩ := oneT_used c c 1 nmP u 0
  have e3 : putE (oneT c c 1 nmP u 0) (nodeN nmN k c) = if u ≤ k then 0 else 6 := by
    rw [putE_fits (nodeErr_N isName_n (by omega) (by omega)) rfl]
    show (if fitsB (usedC (oneT c c 1 nmP u 0).taken nmN) (usedM (oneT c c 1 nmP u 0).taken nmN) k c = true then 0 else 6) = _
    rw [u1, u2]
    by_cases h : u ≤ k
    · have : fitsB u 0 k c = true := decide_eq_true ⟨h, by omega⟩
      rw [this, if_pos h]; rfl
    · have : fitsB u 0 k c = false := decide_eq_false (fun hh => h hh.1)
      rw [this, if_neg h]; rfl
  (repeat (first | refine RS.seq ?_ | refine RS.region ?_ | refine RS.regionQ ?_ (by kernel_rfl) (by kernel_rfl) | refine RS.skip ?_ | refine RS.inBlock ?_ | refine RS.block ?_ | refine RS.exit ?_)); refine mvI ?_; refine mvI ?_; refine bld (vals := [(0, .int _ _), (1, .int _ _)]) [_, _] ?_; refine bld (vals := [(0, .string _), (1, .agg (List.toArray [_, _]))]) [_, _, _, _, _, _] ?_; refine alloc_ (fun b11 => ?_); refine st (.agg _) _ ?_; refine LS.done ?_
  (repeat (first | refine RS.seq ?_ | refine RS.region ?_ | refine RS.regionQ ?_ (by kernel_rfl) (by kernel_rfl) | refine RS.skip ?_ | refine RS.inBlock ?_ | refine RS.block ?_ | refine RS.exit ?_)); refine mvP ?_; refine ldA [_, _, _, _, _, _] ?_
  refine putL' (nodeN nmN c c) 0 (oneN c c) none none 0 0 (LedInv.empty 0) (by omega) e1 n1 (ArgAt.of (rep_nodeN _ _ (by decide) (by omega) (by omega))) (fun σ1 hle1 => ?_)
  refine neI ?_; refine mvB ?_; refine LS.on ?_; refine mvP ?_; refine LS.on ?_; refine mvI ?_; refine LS.on ?_; refine bld (vals := [(0, .int _ _), (1, .int _ _)]) [_, _] ?_; refine LS.on ?_; refine bld (vals := [(0, .string _), (1, .string _), (2, .agg (List.toArray [_, _]))]) [_, _, _, _, _] ?_; refine LS.on ?_; refine bldS [.agg (List.toArray (placeC (placeP nmP nmN u 0)))] (placeC (placeP nmP nmN u 0)) (fun b43 => ?_); refine LS.on ?_
  refine takeL' 1 _ [placeP nmP nmN u 0] 0 (oneT c c 1 nmP u 0) i1 (by omega) e2 n2 (by simp) (argP (by decide) (by decide) (by omega) (by omega) inferInstance) (fun σ2 hle2 => ?_)
  refine LS.on ?_; refine neI ?_; refine pk (v := .bool _) ?_; refine LS.done ?_
  (repeat (first | refine RS.seq ?_ | refine RS.region ?_ | refine RS.regionQ ?_ (by kernel_rfl) (by kernel_rfl) | refine RS.skip ?_ | refine RS.inBlock ?_ | refine RS.block ?_ | refine RS.exit ?_)); refine RS.condF ?_
  (repeat (first | refine RS.seq ?_ | refine RS.region ?_ | refine RS.regionQ ?_ (by kernel_rfl) (by kernel_rfl) | refine RS.skip ?_ | refine RS.inBlock ?_ | refine RS.block ?_ | refine RS.exit ?_)); refine mvI ?_; refine fld ?_; refine fld ?_; refine st (.int _ _) _ ?_; refine LS.done ?_
  (repeat (first | refine RS.seq ?_ | refine RS.region ?_ | refine RS.regionQ ?_ (by kernel_rfl) (by kernel_rfl) | refine RS.skip ?_ | refine RS.inBlock ?_ | refine RS.block ?_ | refine RS.exit ?_)); refine mvP ?_; refine ldA [_, _, _, _, _, _] ?_
  have tail : ∀ x : Int, x ≤ c → u ≤ x → LedInv (oneT x c 1 nmP u 0) 1 → goneE (oneT x c 1 nmP u 0) nmN = 7 ∧ (⟨goneN (oneT x c 1 nmP u 0) nmN, (oneT x c 1 nmP u 0).taken⟩ : LedD) = oneT x c 1 nmP u 0 ∧ LedInv (oneN x c) 1 ∧ giveE (oneT x c 1 nmP u 0).taken 1 = 0 ∧ (⟨(oneT x c 1 nmP u 0).nodes, giveT (oneT x c 1 nmP u 0).taken 1⟩ : LedD) = oneN x c ∧ goneE (oneN x c) nmN = 0 ∧ (⟨goneN (oneN x c) nmN, (oneN x c).taken⟩ : LedD) = ⟨[], []⟩ := by
    intro x _ _ hi
    exact ⟨rfl, rfl, hi.give 1, rfl, rfl, rfl, rfl⟩
  by_cases hku : u ≤ k
  · have e3' : putE (oneT c c 1 nmP u 0) (nodeN nmN k c) = 0 := by rw [e3, if_pos hku]
    have n3 : (⟨putN (oneT c c 1 nmP u 0) (nodeN nmN k c), (oneT c c 1 nmP u 0).taken⟩ : LedD) = oneT k c 1 nmP u 0 := by rw [putN, if_pos e3']; rfl
    have i3 := i2.put' _ n3
    refine putL' (nodeN nmN k c) 0 (oneT k c 1 nmP u 0) none none 0 0 i2 (by omega) e3' n3 (ArgAt.of (rep_nodeN _ _ (by decide) (by omega) (by omega))) (fun σ3 hle3 => ?_)
    obtain ⟨g1, g2, i4, f1, f2, g3, g4⟩ := tail k (by omega) hku i3
    refine asI ?_; refine LS.done ?_
    (repeat (first | refine RS.seq ?_ | refine RS.region ?_ | refine RS.regionQ ?_ (by kernel_rfl) (by kernel_rfl) | refine RS.skip ?_ | refine RS.inBlock ?_ | refine RS.block ?_ | refine RS.exit ?_)); refine mvP ?_
    refine nodesL i3 (fun v6 σ6 hle6 hr6 => ?_)
    have hnl : nodesOf (oneT k c 1 nmP u 0) = [nodeN nmN k c] := rfl
    have hr6' : RepL σ6 v6 [nodeN nmN k c] := hr6
    obtain ⟨a6, c6, rfl⟩ := hr6'.form
    obtain ⟨b6, o6, rfl, hrow⟩ := hr6'.addr (by simp)
    obtain ⟨vs, hcs, hrep⟩ := hrow 0 (by simp)
    obtain ⟨vm, vt, rfl, _, _, _, hvm, hvt⟩ := hrep
    have hcp : σ6.cell b6 (o6 + 0 * 6 + 1) = some (.int .i64 k) := hcs 1 (by decide)
    refine asL ?_; refine LS.done ?_
    (repeat (first | refine RS.seq ?_ | refine RS.region ?_ | refine RS.regionQ ?_ (by kernel_rfl) (by kernel_rfl) | refine RS.skip ?_ | refine RS.inBlock ?_ | refine RS.block ?_ | refine RS.exit ?_)); refine mvI ?_; refine asI ?_; refine LS.done ?_
    (repeat (first | refine RS.seq ?_ | refine RS.region ?_ | refine RS.regionQ ?_ (by kernel_rfl) (by kernel_rfl) | refine RS.skip ?_ | refine RS.inBlock ?_ | refine RS.block ?_ | refine RS.exit ?_)); refine mvI ?_; refine mvI ?_; refine geI ?_; refine LS.done ?_
    (repeat (first | refine RS.seq ?_ | refine RS.region ?_ | refine RS.skip ?_ | refine RS.inBlock ?_ | refine RS.block ?_ | refine RS.exit ?_))
    refine RS.condT ?_ (h := by simp; omega)
    (repeat (first | refine RS.seq ?_ | refine RS.region ?_ | refine RS.regionQ ?_ (by kernel_rfl) (by kernel_rfl) | refine RS.skip ?_ | refine RS.inBlock ?_ | refine RS.block ?_ | refine RS.exit ?_)); refine mvI ?_; refine asI ?_; refine LS.done ?_
    (repeat (first | refine RS.seq ?_ | refine RS.region ?_ | refine RS.regionQ ?_ (by kernel_rfl) (by kernel_rfl) | refine RS.skip ?_ | refine RS.inBlock ?_ | refine RS.block ?_ | refine RS.exit ?_)); refine mvI ?_; refine eqI ?_; refine mvI ?_; refine mvI ?_; refine geI ?_; rw [decide_eq_true hku]; refine bin_neq_B ?_; refine mvB ?_; refine LS.on ?_; refine mvI ?_; refine LS.on ?_; refine neI ?_; refine LS.on ?_; refine mvB ?_; refine LS.off ?_; refine LS.off ?_; refine LS.on ?_; refine pk (v := .bool _) ?_; refine pk (v := .bool _) ?_; refine mvB ?_; refine LS.on ?_; refine mvL ?_; refine LS.on ?_; refine lenL ?_; refine LS.on ?_; refine neI ?_; refine pk (v := .bool _) ?_; refine mvB ?_; refine LS.on ?_; refine mvL ?_; refine LS.on ?_; refine idx (i := 0) ?_ (hi := by simp); refine LS.on ?_; refine fld ?_; refine LS.on ?_; refine fld ?_; refine LS.on ?_; refine ldS hcp ?_; refine LS.on ?_; refine mvI ?_; refine LS.on ?_; refine neI ?_; rw [decide_eq_true (show k = k from rfl)]; refine pk (v := .bool _) ?_; refine mvB ?_; refine LS.on ?_; refine mvP ?_; refine LS.on ?_
    refine goneL' nmN 7 (oneT k c 1 nmP u 0) i3 (by omega) g1 g2 ?_
    refine LS.on ?_; refine neI ?_; refine pk (v := .bool _) ?_; refine LS.done ?_
    (repeat (first | refine RS.seq ?_ | refine RS.region ?_ | refine RS.regionQ ?_ (by kernel_rfl) (by kernel_rfl) | refine RS.skip ?_ | refine RS.inBlock ?_ | refine RS.block ?_ | refine RS.exit ?_)); refine RS.condF ?_
    (repeat (first | refine RS.seq ?_ | refine RS.region ?_ | refine RS.regionQ ?_ (by kernel_rfl) (by kernel_rfl) | refine RS.skip ?_ | refine RS.inBlock ?_ | refine RS.block ?_ | refine RS.exit ?_)); refine mvP ?_
    refine giveL' 1 0 (oneN k c) f1 f2 ?_
    refine eqI ?_; refine mvB ?_; refine LS.on ?_; refine mvP ?_; refine LS.on ?_
    refine goneL' nmN 0 ⟨[], []⟩ i4 (by omega) g3 g4 ?_
    refine LS.on ?_; refine eqI ?_; refine pk (v := .bool _) ?_; refine mvB ?_; refine LS.on ?_; refine mvP ?_; refine LS.on ?_
    refine goneL' nmN 5 ⟨[], []⟩ (LedInv.empty 1) (by omega) rfl rfl ?_
    refine LS.on ?_; refine eqI ?_; refine pk (v := .bool _) ?_; refine mvB ?_; refine LS.on ?_; refine mvP ?_; refine LS.on ?_
    refine nodesL (LedInv.empty 1) (fun v9 σ9 hle9 hr9 => ?_)
    obtain ⟨a9, c9, rfl⟩ := hr9.form
    refine LS.on ?_; refine lenL ?_; refine LS.on ?_; refine eqI ?_; refine pk (v := .bool _) ?_; refine asB ?_; refine LS.done ?_
    (repeat (first | refine RS.seq ?_ | refine RS.region ?_ | refine RS.regionQ ?_ (by kernel_rfl) (by kernel_rfl) | refine RS.skip ?_ | refine RS.inBlock ?_ | refine RS.block ?_ | refine RS.exit ?_)); refine RS.ret1 (v := .bool _) Try.func11 fun w hw => ?_
    exact ⟨rfl, hw.below⟩
  · have e3' : putE (oneT c c 1 nmP u 0) (nodeN nmN k c) = 6 := by rw [e3, if_neg hku]
    have n3 : (⟨putN (oneT c c 1 nmP u 0) (nodeN nmN k c), (oneT c c 1 nmP u 0).taken⟩ : LedD) = oneT c c 1 nmP u 0 := by rw [putN, if_neg (by rw [e3']; decide)]
    have i3 := i2.put' _ n3
    refine putL' (nodeN nmN k c) 6 (oneT c c 1 nmP u 0) none none 0 0 i2 (by omega) e3' n3 (ArgAt.of (rep_nodeN _ _ (by decide) (by omega) (by omega))) (fun σ3 hle3 => ?_)
    obtain ⟨g1, g2, i4, f1, f2, g3, g4⟩ := tail c (by omega) (by omega) i3
    refine asI ?_; refine LS.done ?_
    (repeat (first | refine RS.seq ?_ | refine RS.region ?_ | refine RS.regionQ ?_ (by kernel_rfl) (by kernel_rfl) | refine RS.skip ?_ | refine RS.inBlock ?_ | refine RS.block ?_ | refine RS.exit ?_)); refine mvP ?_
    refine nodesL i3 (fun v6 σ6 hle6 hr6 => ?_)
    have hnl : nodesOf (oneT c c 1 nmP u 0) = [nodeN nmN c c] := rfl
    have hr6' : RepL σ6 v6 [nodeN nmN c c] := hr6
    obtain ⟨a6, c6, rfl⟩ := hr6'.form
    obtain ⟨b6, o6, rfl, hrow⟩ := hr6'.addr (by simp)
    obtain ⟨vs, hcs, hrep⟩ := hrow 0 (by simp)
    obtain ⟨vm, vt, rfl, _, _, _, hvm, hvt⟩ := hrep
    have hcp : σ6.cell b6 (o6 + 0 * 6 + 1) = some (.int .i64 c) := hcs 1 (by decide)
    refine asL ?_; refine LS.done ?_
    (repeat (first | refine RS.seq ?_ | refine RS.region ?_ | refine RS.regionQ ?_ (by kernel_rfl) (by kernel_rfl) | refine RS.skip ?_ | refine RS.inBlock ?_ | refine RS.block ?_ | refine RS.exit ?_)); refine mvI ?_; refine asI ?_; refine LS.done ?_
    (repeat (first | refine RS.seq ?_ | refine RS.region ?_ | refine RS.regionQ ?_ (by kernel_rfl) (by kernel_rfl) | refine RS.skip ?_ | refine RS.inBlock ?_ | refine RS.block ?_ | refine RS.exit ?_)); refine mvI ?_; refine mvI ?_; refine geI ?_; refine LS.done ?_
    (repeat (first | refine RS.seq ?_ | refine RS.region ?_ | refine RS.skip ?_ | refine RS.inBlock ?_ | refine RS.block ?_ | refine RS.exit ?_))
    refine RS.condF ?_ (h := by simp; omega)
    (repeat (first | refine RS.seq ?_ | refine RS.region ?_ | refine RS.regionQ ?_ (by kernel_rfl) (by kernel_rfl) | refine RS.skip ?_ | refine RS.inBlock ?_ | refine RS.block ?_ | refine RS.exit ?_)); refine mvI ?_; refine eqI ?_; refine mvI ?_; refine mvI ?_; refine geI ?_; rw [decide_eq_false hku]; refine bin_neq_B ?_; refine mvB ?_; refine LS.on ?_; refine mvI ?_; refine LS.on ?_; refine neI ?_; refine LS.on ?_; refine mvB ?_; refine LS.on ?_; refine mvI ?_; refine LS.on ?_; refine neI ?_; refine LS.on ?_; refine pk (v := .bool _) ?_; refine pk (v := .bool _) ?_; refine mvB ?_; refine LS.on ?_; refine mvL ?_; refine LS.on ?_; refine lenL ?_; refine LS.on ?_; refine neI ?_; refine pk (v := .bool _) ?_; refine mvB ?_; refine LS.on ?_; refine mvL ?_; refine LS.on ?_; refine idx (i := 0) ?_ (hi := by simp); refine LS.on ?_; refine fld ?_; refine LS.on ?_; refine fld ?_; refine LS.on ?_; refine ldS hcp ?_; refine LS.on ?_; refine mvI ?_; refine LS.on ?_; refine neI ?_; rw [decide_eq_true (show c = c from rfl)]; refine pk (v := .bool _) ?_; refine mvB ?_; refine LS.on ?_; refine mvP ?_; refine LS.on ?_
    refine goneL' nmN 7 (oneT c c 1 nmP u 0) i3 (by omega) g1 g2 ?_
    refine LS.on ?_; refine neI ?_; refine pk (v := .bool _) ?_; refine LS.done ?_
    (repeat (first | refine RS.seq ?_ | refine RS.region ?_ | refine RS.regionQ ?_ (by kernel_rfl) (by kernel_rfl) | refine RS.skip ?_ | refine RS.inBlock ?_ | refine RS.block ?_ | refine RS.exit ?_)); refine RS.condF ?_
    (repeat (first | refine RS.seq ?_ | refine RS.region ?_ | refine RS.regionQ ?_ (by kernel_rfl) (by kernel_rfl) | refine RS.skip ?_ | refine RS.inBlock ?_ | refine RS.block ?_ | refine RS.exit ?_)); refine mvP ?_
    refine giveL' 1 0 (oneN c c) f1 f2 ?_
    refine eqI ?_; refine mvB ?_; refine LS.on ?_; refine mvP ?_; refine LS.on ?_
    refine goneL' nmN 0 ⟨[], []⟩ i4 (by omega) g3 g4 ?_
    refine LS.on ?_; refine eqI ?_; refine pk (v := .bool _) ?_; refine mvB ?_; refine LS.on ?_; refine mvP ?_; refine LS.on ?_
    refine goneL' nmN 5 ⟨[], []⟩ (LedInv.empty 1) (by omega) rfl rfl ?_
    refine LS.on ?_; refine eqI ?_; refine pk (v := .bool _) ?_; refine mvB ?_; refine LS.on ?_; refine mvP ?_; refine LS.on ?_
    refine nodesL (LedInv.empty 1) (fun v9 σ9 hle9 hr9 => ?_)
    obtain ⟨a9, c9, rfl⟩ := hr9.form
    refine LS.on ?_; refine lenL ?_; refine LS.on ?_; refine eqI ?_; refine pk (v := .bool _) ?_; refine asB ?_; refine LS.done ?_
    (repeat (first | refine RS.seq ?_ | refine RS.region ?_ | refine RS.regionQ ?_ (by kernel_rfl) (by kernel_rfl) | refine RS.skip ?_ | refine RS.inBlock ?_ | refine RS.block ?_ | refine RS.exit ?_)); refine RS.ret1 (v := .bool _) Try.func11 fun w hw => ?_
    exact ⟨rfl, hw.below⟩
end Go.Proofs.Ytbinkokafbpnoaa
