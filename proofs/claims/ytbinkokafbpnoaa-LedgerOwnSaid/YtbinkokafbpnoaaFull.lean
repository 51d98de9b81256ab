/- The law LedgerFull answers true. -/
import Derived.Test.YtbinkokafbpnoaaShrinks
namespace Go.Proofs.Ytbinkokafbpnoaa
open Go.JW Go.RowKit
/-- A ledger with one node; nobody of g and above has room. -/
structure OneL (c m : Int) (S : LedD) (i : Nat) (u v n : Int) : Prop where
  inv : LedInv S i
  node : S.nodes = (oneN c m).nodes
  c_eq : usedC S.taken nmN = u
  m_eq : usedM S.taken nmN = v
  n_eq : usedN S.taken nmN = n
  free : ∀ g : Int, (i : Int) < g → asg S.taken g = none
theorem OneL.start {c m : Int} (hc : 0 ≤ c ∧ c ≤ 1099511627776) (hm : 0 ≤ m ∧ m ≤ 1099511627776) : OneL c m (oneN c m) 0 0 0 0 := ⟨oneInv hc hm, rfl, rfl, rfl, rfl, fun _ _ => rfl⟩
theorem OneL.asg {c m u v n : Int} {S : LedD} {i : Nat} (h : OneL c m S i u v n) : asg S.nodes nmN = some (nodeN nmN c m) := by rw [h.node]; rfl
theorem OneL.takeE {c m u v n : Int} {S : LedD} {i : Nat} (h : OneL c m S i u v n) {g : Int} (hg : (i : Int) < g) (p : ByteArray) {x y : Int} (hx : 0 ≤ x) (hy : 0 ≤ y) : takeE S g [placeP p nmN x y] = if u + x ≤ c ∧ v + y ≤ m then 0 else 6 := by
  rw [takeE_one (by unfold tk; rw [h.free g hg]; rfl) h.asg ⟨hx, hy⟩]
  show (if usedC S.taken nmN + x ≤ c ∧ usedM S.taken nmN + y ≤ m then (0 : Int) else 6) = _
  rw [h.c_eq, h.m_eq]
theorem OneL.take {c m u v n : Int} {S : LedD} {i : Nat} (h : OneL c m S i u v n) (p : ByteArray) {x y : Int} (hx : 0 ≤ x) (hy : 0 ≤ y) (hf : u + x ≤ c ∧ v + y ≤ m) :
    OneL c m ⟨S.nodes, takeT S ((i : Int) + 1) [placeP p nmN x y]⟩ (i + 1) (u + x) (v + y) (n + 1) := by
  have e := h.takeE (g := (i : Int) + 1) (by omega) p hx hy
  rw [if_pos hf] at e
  have hno := h.free ((i : Int) + 1) (by omega)
  have ht : takeT S ((i : Int) + 1) [placeP p nmN x y] = aset S.taken ((i : Int) + 1) [placeP p nmN x y] := by rw [takeT, if_pos e]
  have hi := h.inv.take (g := (i : Int) + 1) (ps := [placeP p nmN x y]) (m := 1) (by simp) (by simp)
  have hs : ∀ f : PlaceD → Int, usedF f (aset S.taken ((i : Int) + 1) [placeP p nmN x y]) nmN = usedF f S.taken nmN + f (placeP p nmN x y) := fun f => by
    rw [show usedF f (aset S.taken ((i : Int) + 1) [placeP p nmN x y]) nmN = usedF f S.taken nmN + needF f nmN [placeP p nmN x y] from sumA_aset hno, show needF f nmN [placeP p nmN x y] = f (placeP p nmN x y) from (needF_one _ _ _).trans (if_pos rfl)]
  rw [ht] at hi ⊢
  exact ⟨hi, h.node, (hs (·.cpu)).trans (by rw [← usedC_eq, h.c_eq]; rfl), (hs (·.mem)).trans (by rw [← usedM_eq, h.m_eq]; rfl), (hs fun _ => 1).trans (by rw [← usedN_eq, h.n_eq]), fun g hg => by rw [asg_aset_ne _ _ (by omega)]; exact h.free g (by omega)⟩
theorem OneL.skip {c m u v n : Int} {S : LedD} {i : Nat} (h : OneL c m S i u v n) {g : Int} {ps : List PlaceD} (he : Go.Proofs.Ytbinkokafbpnoaa.takeE S g ps ≠ 0) : OneL c m ⟨S.nodes, takeT S g ps⟩ (i + 1) u v n := by
  have ht : takeT S g ps = S.taken := by rw [takeT, if_neg he]
  rw [ht]
  exact ⟨⟨h.inv.nodes, h.inv.keys, h.inv.some_, h.inv.right, h.inv.there, h.inv.fits, fun nm => by have := h.inv.count nm; show usedN S.taken nm ≤ ((i + 1 : Nat) : Int); omega, h.inv.size⟩, h.node, h.c_eq, h.m_eq, h.n_eq, fun g hg => h.free g (by omega)⟩
theorem full_c (needs : List Int) (vn : Value) (cpu : Int) (hcpu : I64 cpu) (w : World) (hr : RepL (hp w) vn needs) : Calls Try.prog 7 #[vn, .int .i64 cpu] w fun e w' => e = .returned (.bool true) ∧ Below w.heap.size w w' := by
  obtain ⟨an, cn, rfl⟩ := hr.form
  have hlen : needs.length ≤ 140737488355328 := hr.1
  obtain ⟨a1, a2⟩ := wmod cpu 60 (by omega)
  obtain ⟨c, hc⟩ : ∃ c, c = cpu % 60 := ⟨_, rfl⟩
  rw [← hc] at a1 a2
  refine RS.enter Try.func7 Try.ntmps7 rfl rfl ?_
  (repeat (first | refine RS.seq ?_ | refine RS.region ?_ | refine RS.regionQ ?_ (by kernel_rfl) (by kernel_rfl) | refine RS.skip ?_ | refine RS.inBlock ?_ | refine RS.block ?_ | refine RS.exit ?_)); refine asB ?_; refine LS.done ?_
  (repeat (first | refine RS.seq ?_ | refine RS.region ?_ | refine RS.regionQ ?_ (by kernel_rfl) (by kernel_rfl) | refine RS.skip ?_ | refine RS.inBlock ?_ | refine RS.block ?_ | refine RS.exit ?_)); skip
  refine callP ?_ (hc := fun w _ => known7_c w)
  refine not_ ?_; refine LS.done ?_
  (repeat (first | refine RS.seq ?_ | refine RS.region ?_ | refine RS.regionQ ?_ (by kernel_rfl) (by kernel_rfl) | refine RS.skip ?_ | refine RS.inBlock ?_ | refine RS.block ?_ | refine RS.exit ?_)); refine RS.condF ?_
  (repeat (first | refine RS.seq ?_ | refine RS.region ?_ | refine RS.regionQ ?_ (by kernel_rfl) (by kernel_rfl) | refine RS.skip ?_ | refine RS.inBlock ?_ | refine RS.block ?_ | refine RS.exit ?_)); refine mvI ?_
  refine callP ?_ (hc := fun w _ => w7_c _ _ (by omega) (by omega) w)
  rw [← hc]
  refine asI ?_; refine LS.done ?_
  (repeat (first | refine RS.seq ?_ | refine RS.region ?_ | refine RS.regionQ ?_ (by kernel_rfl) (by kernel_rfl) | refine RS.skip ?_ | refine RS.inBlock ?_ | refine RS.block ?_ | refine RS.exit ?_)); refine mvI ?_
  refine callX (X := Nat × PH) (fun x => .pointer (some ⟨x.1, 0, none⟩)) (fun x => x.2) (fun x => ledHP x.1 (oneN c 1000) :: _) (fun x => PH.le _ x.2) (fun ⟨bl, σ1⟩ hle1 => ?_) (fun w' hw => room7_c c 1000 (by omega) (by omega) w' hw)
  simp only at hle1 ⊢
  refine asP ?_; refine LS.done ?_
  (repeat (first | refine RS.seq ?_ | refine RS.region ?_ | refine RS.regionQ ?_ (by kernel_rfl) (by kernel_rfl) | refine RS.skip ?_ | refine RS.inBlock ?_ | refine RS.block ?_ | refine RS.exit ?_)); refine mvP ?_; refine bin_eql_P ?_; refine LS.done ?_
  (repeat (first | refine RS.seq ?_ | refine RS.region ?_ | refine RS.regionQ ?_ (by kernel_rfl) (by kernel_rfl) | refine RS.skip ?_ | refine RS.inBlock ?_ | refine RS.block ?_ | refine RS.exit ?_)); refine RS.condF ?_
  (repeat (first | refine RS.seq ?_ | refine RS.region ?_ | refine RS.regionQ ?_ (by kernel_rfl) (by kernel_rfl) | refine RS.skip ?_ | refine RS.inBlock ?_ | refine RS.block ?_ | refine RS.exit ?_)); refine asI ?_; refine asI ?_; refine LS.done ?_
  (repeat (first | refine RS.seq ?_ | refine RS.region ?_ | refine RS.regionQ ?_ (by kernel_rfl) (by kernel_rfl) | refine RS.skip ?_ | refine RS.inBlock ?_ | refine RS.block ?_ | refine RS.exit ?_)); refine asI ?_; refine LS.done ?_
  (repeat (first | refine RS.seq ?_ | refine RS.region ?_ | refine RS.regionQ ?_ (by kernel_rfl) (by kernel_rfl) | refine RS.skip ?_ | refine RS.inBlock ?_ | refine RS.block ?_ | refine RS.exit ?_))
  refine RS.loopF (X := Nat × LedD × Int × Int × PH) 7 85 (fun x => x.1 ≤ 30 ∧ x.1 ≤ needs.length ∧ OneL c 1000 x.2.1 x.1 x.2.2.1 x.2.2.2.1 x.2.2.2.1 ∧ 0 ≤ x.2.2.1 ∧ x.2.2.1 ≤ c ∧ 0 ≤ x.2.2.2.1 ∧ x.2.2.2.1 ≤ x.1 ∧ PH.le (hp w) x.2.2.2.2) (fun x => [(7, .int .i64 x.2.2.1), (8, .int .i64 x.2.2.2.1), (9, .int .i64 x.1)]) (fun x => x.2.2.2.2) (fun x => [ledHP bl x.2.1]) (fun x => 30 - x.1) (0, oneN c 1000, 0, 0, σ1) ⟨by omega, by omega, OneL.start (by omega) (by omega), Int.le_refl 0, a1, Int.le_refl 0, Int.le_refl 0, hle1⟩ ⟨rfl, rfl, rfl, trivial⟩ rfl ⟨fun h => h⟩ ?_
  rintro ⟨i, S, u, v, σ2⟩ gg ⟨hi30, hin, ho, hu0, huc, hv0, hvi, hle2⟩ ih
  simp only at hi30 hin ho hu0 huc hv0 hvi hle2 ih ⊢
  (repeat (first | refine RS.seq ?_ | refine RS.region ?_ | refine RS.regionQ ?_ (by kernel_rfl) (by kernel_rfl) | refine RS.skip ?_ | refine RS.inBlock ?_ | refine RS.block ?_ | refine RS.exit ?_)); refine mvI ?_; refine mvL ?_; refine lenL ?_; refine ltI ?_; refine mvB ?_
  refine LS.cut 26 30 [(29, .bool (decide (i < 30 ∧ i < needs.length)))] (fun gg => ?_) (fun J => ?_)
  rotate_left
  · refine LS.part 26 (fun g1 => ?_) (fun g1 => ?_)
    · refine LS.on ?_; refine mvI ?_; refine LS.on ?_; refine ltI ?_; refine pk (v := .bool _) ?_; refine LS.done ?_
      simp only [decide_eq_true_eq] at g1
      exact J ⟨boolV (decide_eq_decide.2 (by omega)), trivial⟩ (by repeat (first | with_reducible exact Out.refl _ _ _ | exact Out.hv | refine Out.upd ?_ | refine Out.hvIn ?_))
    · refine LS.off ?_; refine LS.off ?_; refine pk (v := .bool _) ?_; refine LS.done ?_
      simp only [decide_eq_false_iff_not] at g1
      exact J ⟨boolV (by symm; exact decide_eq_false (by omega)), trivial⟩ (by repeat (first | with_reducible exact Out.refl _ _ _ | exact Out.hv | refine Out.upd ?_ | refine Out.hvIn ?_))
  (repeat (first | refine RS.seq ?_ | refine RS.region ?_ | refine RS.regionQ ?_ (by kernel_rfl) (by kernel_rfl) | refine RS.skip ?_ | refine RS.inBlock ?_ | refine RS.block ?_ | refine RS.exit ?_))
  refine RS.cond (fun z => ?_) (fun z => ?_)
  · simp only [decide_eq_true_eq] at z
    obtain ⟨b, o, rfl, hrow⟩ := hr.addr (fun h => by simp [h] at z)
    obtain ⟨hcell, h64⟩ := (hrow.mono hle2).int i z.2
    obtain ⟨k1, k2⟩ := wmod needs[i] 9 (by omega)
    (repeat (first | refine RS.seq ?_ | refine RS.region ?_ | refine RS.regionQ ?_ (by kernel_rfl) (by kernel_rfl) | refine RS.skip ?_ | refine RS.inBlock ?_ | refine RS.block ?_ | refine RS.exit ?_)); refine mvL ?_; refine mvI ?_; refine idx (i := i) ?_; refine ldS hcell ?_
    refine callP ?_ (hc := fun w _ => w7_c _ _ (by omega) (by omega) w)
    obtain ⟨k, hk⟩ : ∃ k, k = needs[i] % 9 := ⟨_, rfl⟩
    rw [← hk] at k1 k2 ⊢
    refine asI ?_; refine LS.done ?_
    (repeat (first | refine RS.seq ?_ | refine RS.region ?_ | refine RS.regionQ ?_ (by kernel_rfl) (by kernel_rfl) | refine RS.skip ?_ | refine RS.inBlock ?_ | refine RS.block ?_ | refine RS.exit ?_)); refine mvP ?_; refine mvI ?_; (first | refine addN ?_ | refine addI ?_); refine mvI ?_; refine bld (vals := [(0, .int _ _), (1, .int _ _)]) [_, _] ?_; refine bld (vals := [(0, .string _), (1, .string _), (2, .agg (List.toArray [_, _]))]) [_, _, _, _, _] ?_; refine bldS [.agg (List.toArray (placeC (placeP nmP nmN k 1)))] (placeC (placeP nmP nmN k 1)) (fun b43 => ?_)
    have hE := ho.takeE (g := (i : Int) + 1) (by omega) nmP k1 (y := 1) (by omega)
    by_cases hf : u + k ≤ c
    · rw [if_pos ⟨hf, by omega⟩] at hE
      have hn := ho.take nmP k1 (y := 1) (by omega) ⟨hf, by omega⟩
      obtain ⟨S2, hS2⟩ : ∃ S2 : LedD, S2 = ⟨S.nodes, takeT S ((i : Int) + 1) [placeP nmP nmN k 1]⟩ := ⟨_, rfl⟩
      rw [← hS2] at hn
      refine takeL' ((i : Int) + 1) _ [placeP nmP nmN k 1] 0 S2 ho.inv (by omega) hE hS2.symm (by simp) (argP (by decide) (by decide) (by omega) (by omega) inferInstance) (fun σ4 hle4 => ?_)
      refine asI ?_; refine LS.done ?_
      (repeat (first | refine RS.seq ?_ | refine RS.region ?_ | refine RS.regionQ ?_ (by kernel_rfl) (by kernel_rfl) | refine RS.skip ?_ | refine RS.inBlock ?_ | refine RS.block ?_ | refine RS.exit ?_)); refine mvI ?_; refine mvI ?_; (first | refine addN ?_ | refine addI ?_); refine mvI ?_; refine leI ?_; refine LS.done ?_
      (repeat (first | refine RS.seq ?_ | refine RS.region ?_ | refine RS.regionQ ?_ (by kernel_rfl) (by kernel_rfl) | refine RS.skip ?_ | refine RS.inBlock ?_ | refine RS.block ?_ | refine RS.exit ?_)); refine RS.condT ?_ (h := by simp; omega)
      (repeat (first | refine RS.seq ?_ | refine RS.region ?_ | refine RS.regionQ ?_ (by kernel_rfl) (by kernel_rfl) | refine RS.skip ?_ | refine RS.inBlock ?_ | refine RS.block ?_ | refine RS.exit ?_)); refine mvI ?_; refine mvI ?_; (first | refine addN ?_ | refine addI ?_); refine mvI ?_; (first | refine addN ?_ | refine addI ?_); refine asI ?_; refine asI ?_; refine LS.done ?_
      (repeat (first | refine RS.seq ?_ | refine RS.region ?_ | refine RS.regionQ ?_ (by kernel_rfl) (by kernel_rfl) | refine RS.skip ?_ | refine RS.inBlock ?_ | refine RS.block ?_ | refine RS.exit ?_)); refine mvP ?_
      refine usedL nmN hn.inv (by omega) (fun σ5 hle5 => ?_)
      rw [hn.c_eq, hn.m_eq, hn.n_eq]
      refine mvT ?_; refine extr (v := _) ?_; refine extr (v := .int _ _) ?_; refine alloc_ (fun b12 => ?_); refine st (.agg _) _ ?_; refine asI ?_; refine LS.done ?_
      (repeat (first | refine RS.seq ?_ | refine RS.region ?_ | refine RS.regionQ ?_ (by kernel_rfl) (by kernel_rfl) | refine RS.skip ?_ | refine RS.inBlock ?_ | refine RS.block ?_ | refine RS.exit ?_)); refine fld ?_; refine ld1 (v := .int _ _) ?_; refine mvI ?_; refine neI ?_; rw [decide_eq_true (show (u + k) = (u + k) from rfl)]; refine mvB ?_; refine LS.on ?_; refine fld ?_; refine LS.on ?_; refine ld1 (v := .int _ _) ?_; refine LS.on ?_; refine mvI ?_; refine LS.on ?_; refine neI ?_; rw [decide_eq_true (show (v + 1) = (v + 1) from rfl)]; refine pk (v := .bool _) ?_; refine mvB ?_; refine LS.on ?_; refine mvI ?_; refine LS.on ?_; refine mvI ?_; refine LS.on ?_; refine neI ?_; rw [decide_eq_true (show (v + 1) = (v + 1) from rfl)]; refine pk (v := .bool _) ?_; refine LS.done ?_
      (repeat (first | refine RS.seq ?_ | refine RS.region ?_ | refine RS.regionQ ?_ (by kernel_rfl) (by kernel_rfl) | refine RS.skip ?_ | refine RS.inBlock ?_ | refine RS.block ?_ | refine RS.exit ?_)); refine RS.condF ?_
      (repeat (first | refine RS.seq ?_ | refine RS.region ?_ | refine RS.regionQ ?_ (by kernel_rfl) (by kernel_rfl) | refine RS.skip ?_ | refine RS.inBlock ?_ | refine RS.block ?_ | refine RS.exit ?_)); refine mvI ?_; (first | refine addN ?_ | refine addI ?_); refine asI ?_; refine LS.done ?_; (repeat (first | refine RS.seq ?_ | refine RS.region ?_ | refine RS.regionQ ?_ (by kernel_rfl) (by kernel_rfl) | refine RS.skip ?_ | refine RS.inBlock ?_ | refine RS.block ?_ | refine RS.exit ?_))
      refine ih (i + 1, S2, u + k, v + 1, σ5) ⟨by (try dsimp only); omega, by (try dsimp only); omega, hn, by (try dsimp only); omega, hf, by (try dsimp only); omega, by (try dsimp only); omega, PH.le_trans hle2 (PH.le_trans hle4 hle5)⟩ (by (try dsimp only); omega) ⟨rfl, rfl, rfl, trivial⟩ (by repeat (first | with_reducible exact Out.refl _ _ _ | exact Out.hv | refine Out.upd ?_ | refine Out.hvIn ?_)) ⟨fun h => h.tail.tail⟩ rfl
    · rw [if_neg (fun h => hf h.1)] at hE
      have hn := ho.skip (g := (i : Int) + 1) (ps := [placeP nmP nmN k 1]) (by rw [hE]; decide)
      have htk : tk (⟨S.nodes, takeT S ((i : Int) + 1) [placeP nmP nmN k 1]⟩ : LedD).taken ((i : Int) + 1) = [] := by
        show tk (takeT S _ _) _ = []
        rw [takeT, if_neg (by rw [hE]; decide)]
        unfold tk; rw [ho.free _ (by omega)]; rfl
      obtain ⟨S2, hS2⟩ : ∃ S2 : LedD, S2 = ⟨S.nodes, takeT S ((i : Int) + 1) [placeP nmP nmN k 1]⟩ := ⟨_, rfl⟩
      rw [← hS2] at hn htk
      refine takeL' ((i : Int) + 1) _ [placeP nmP nmN k 1] 6 S2 ho.inv (by omega) hE hS2.symm (by simp) (argP (by decide) (by decide) (by omega) (by omega) inferInstance) (fun σ4 hle4 => ?_)
      refine asI ?_; refine LS.done ?_
      (repeat (first | refine RS.seq ?_ | refine RS.region ?_ | refine RS.regionQ ?_ (by kernel_rfl) (by kernel_rfl) | refine RS.skip ?_ | refine RS.inBlock ?_ | refine RS.block ?_ | refine RS.exit ?_)); refine mvI ?_; refine mvI ?_; (first | refine addN ?_ | refine addI ?_); refine mvI ?_; refine leI ?_; refine LS.done ?_
      (repeat (first | refine RS.seq ?_ | refine RS.region ?_ | refine RS.regionQ ?_ (by kernel_rfl) (by kernel_rfl) | refine RS.skip ?_ | refine RS.inBlock ?_ | refine RS.block ?_ | refine RS.exit ?_)); refine RS.condF ?_ (h := by simp; omega)
      (repeat (first | refine RS.seq ?_ | refine RS.region ?_ | refine RS.regionQ ?_ (by kernel_rfl) (by kernel_rfl) | refine RS.skip ?_ | refine RS.inBlock ?_ | refine RS.block ?_ | refine RS.exit ?_)); refine mvI ?_; refine neI ?_; refine mvB ?_; refine LS.on ?_; refine mvP ?_; refine LS.on ?_; refine mvI ?_; refine LS.on ?_; (first | refine addN ?_ | refine addI ?_); refine LS.on ?_
      refine placesL ((i : Int) + 1) hn.inv (fun v6 σ6 hle6 hr6 => ?_)
      rw [htk] at hr6
      obtain ⟨a6, c6, rfl⟩ := hr6.form
      refine LS.on ?_; refine lenL ?_; refine LS.on ?_; refine neI ?_; refine pk (v := .bool _) ?_; refine LS.done ?_
      (repeat (first | refine RS.seq ?_ | refine RS.region ?_ | refine RS.regionQ ?_ (by kernel_rfl) (by kernel_rfl) | refine RS.skip ?_ | refine RS.inBlock ?_ | refine RS.block ?_ | refine RS.exit ?_)); refine RS.condF ?_
      (repeat (first | refine RS.seq ?_ | refine RS.region ?_ | refine RS.regionQ ?_ (by kernel_rfl) (by kernel_rfl) | refine RS.skip ?_ | refine RS.inBlock ?_ | refine RS.block ?_ | refine RS.exit ?_)); refine mvP ?_
      refine usedL nmN hn.inv (by omega) (fun σ5 hle5 => ?_)
      rw [hn.c_eq, hn.m_eq, hn.n_eq]
      refine mvT ?_; refine extr (v := _) ?_; refine extr (v := .int _ _) ?_; refine alloc_ (fun b12 => ?_); refine st (.agg _) _ ?_; refine asI ?_; refine LS.done ?_
      (repeat (first | refine RS.seq ?_ | refine RS.region ?_ | refine RS.regionQ ?_ (by kernel_rfl) (by kernel_rfl) | refine RS.skip ?_ | refine RS.inBlock ?_ | refine RS.block ?_ | refine RS.exit ?_)); refine fld ?_; refine ld1 (v := .int _ _) ?_; refine mvI ?_; refine neI ?_; rw [decide_eq_true (show u = u from rfl)]; refine mvB ?_; refine LS.on ?_; refine fld ?_; refine LS.on ?_; refine ld1 (v := .int _ _) ?_; refine LS.on ?_; refine mvI ?_; refine LS.on ?_; refine neI ?_; rw [decide_eq_true (show v = v from rfl)]; refine pk (v := .bool _) ?_; refine mvB ?_; refine LS.on ?_; refine mvI ?_; refine LS.on ?_; refine mvI ?_; refine LS.on ?_; refine neI ?_; rw [decide_eq_true (show v = v from rfl)]; refine pk (v := .bool _) ?_; refine LS.done ?_
      (repeat (first | refine RS.seq ?_ | refine RS.region ?_ | refine RS.regionQ ?_ (by kernel_rfl) (by kernel_rfl) | refine RS.skip ?_ | refine RS.inBlock ?_ | refine RS.block ?_ | refine RS.exit ?_)); refine RS.condF ?_
      (repeat (first | refine RS.seq ?_ | refine RS.region ?_ | refine RS.regionQ ?_ (by kernel_rfl) (by kernel_rfl) | refine RS.skip ?_ | refine RS.inBlock ?_ | refine RS.block ?_ | refine RS.exit ?_)); refine mvI ?_; (first | refine addN ?_ | refine addI ?_); refine asI ?_; refine LS.done ?_; (repeat (first | refine RS.seq ?_ | refine RS.region ?_ | refine RS.regionQ ?_ (by kernel_rfl) (by kernel_rfl) | refine RS.skip ?_ | refine RS.inBlock ?_ | refine RS.block ?_ | refine RS.exit ?_))
      refine ih (i + 1, S2, u, v, σ5) ⟨by (try dsimp only); omega, by (try dsimp only); omega, hn, by (try dsimp only); omega, by (try dsimp only); omega, by (try dsimp only); omega, by (try dsimp only); omega, PH.le_trans hle2 (PH.le_trans hle4 (PH.le_trans hle6 hle5))⟩ (by (try dsimp only); omega) ⟨rfl, rfl, rfl, trivial⟩ (by repeat (first | with_reducible exact Out.refl _ _ _ | exact Out.hv | refine Out.upd ?_ | refine Out.hvIn ?_)) ⟨fun h => h.tail.tail⟩ rfl
  · (repeat (first | refine RS.seq ?_ | refine RS.region ?_ | refine RS.regionQ ?_ (by kernel_rfl) (by kernel_rfl) | refine RS.skip ?_ | refine RS.inBlock ?_ | refine RS.block ?_ | refine RS.exit ?_)); refine asB ?_; refine LS.done ?_; (repeat (first | refine RS.seq ?_ | refine RS.region ?_ | refine RS.regionQ ?_ (by kernel_rfl) (by kernel_rfl) | refine RS.skip ?_ | refine RS.inBlock ?_ | refine RS.block ?_ | refine RS.exit ?_)); refine RS.ret1 (v := .bool _) Try.func7 fun w hw => ?_
    exact ⟨rfl, hw.below⟩
end Go.Proofs.Ytbinkokafbpnoaa
