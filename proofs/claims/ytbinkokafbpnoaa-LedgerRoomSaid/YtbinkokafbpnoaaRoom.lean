/- The law LedgerRoom answers true. -/
import Derived.Test.YtbinkokafbpnoaaEight7
namespace Go.Proofs.Ytbinkokafbpnoaa
open Go.JW Go.RowKit
/-- What the gangs below g need on a node. -/
def gsum (f : PlaceD → Int) (t : List (Int × List PlaceD)) (nm : ByteArray) (g : Nat) : Int := ((List.range g).map fun (i : Nat) => needF f nm (tk t i)).sum
theorem gsum_succ (f : PlaceD → Int) (t : List (Int × List PlaceD)) (nm : ByteArray) (g : Nat) : gsum f t nm (g + 1) = gsum f t nm g + needF f nm (tk t g) := by
  unfold gsum
  rw [List.range_succ, List.map_append, List.sum_append]; simp
theorem sum_if (c : Int) (k : Int) : ∀ n : Nat, ((List.range n).map fun (i : Nat) => if (i : Int) = k then c else 0).sum = if 0 ≤ k ∧ k < n then c else 0 := by
  intro n
  induction n with
  | zero => rw [if_neg (by omega)]; rfl
  | succ n ih =>
    rw [List.range_succ, List.map_append, List.sum_append, ih]
    simp only [List.map_cons, List.map_nil, List.sum_cons, List.sum_nil, Int.add_zero]
    by_cases h : 0 ≤ k ∧ k < n
    · rw [if_pos h, if_neg (by omega), if_pos (by omega)]; omega
    · rw [if_neg h]
      by_cases h2 : (n : Int) = k
      · rw [if_pos h2, if_pos (by omega)]; omega
      · rw [if_neg h2, if_neg (by omega)]; omega
theorem sum_plus (f g : Nat → Int) : ∀ l : List Nat, (l.map fun i => f i + g i).sum = (l.map f).sum + (l.map g).sum := by
  intro l
  induction l with
  | nil => rfl
  | cons a l ih => simp only [List.map_cons, List.sum_cons, ih]; omega
def Keys12 (t : List (Int × List PlaceD)) : Prop := ∀ p ∈ t, 0 ≤ p.1 ∧ p.1 < 12
theorem gsum_all {f : PlaceD → Int} {nm : ByteArray} : ∀ {t : List (Int × List PlaceD)}, (t.map (·.1)).Nodup → Keys12 t → gsum f t nm 12 = usedF f t nm := by
  intro t
  induction t with
  | nil =>
    intro _ _
    have : ∀ i : Nat, needF f nm (tk ([] : List (Int × List PlaceD)) i) = 0 := fun i => rfl
    simp only [gsum, this]
    rfl
  | cons p t ih =>
    intro hn hk
    rw [List.map_cons, List.nodup_cons] at hn
    have h1 := ih hn.2 fun q hq => hk q (by simp [hq])
    have h2 := hk p (by simp)
    have hs : ∀ i : Nat, needF f nm (tk (p :: t) i) = needF f nm (tk t i) + if (i : Int) = p.1 then needF f nm p.2 else 0 := by
      intro i
      unfold tk
      simp only [asg]
      by_cases e : (i : Int) = p.1
      · have hno : asg t (i : Int) = none := asg_none.2 (e ▸ hn.1)
        rw [e] at hno ⊢
        rw [eqb_self, hno, if_pos rfl]
        show needF f nm p.2 = needF f nm [] + _
        have : needF f nm [] = 0 := rfl
        omega
      · rw [eqb_ne e, if_neg e]; simp
    have : gsum f (p :: t) nm 12 = gsum f t nm 12 + ((List.range 12).map fun (i : Nat) => if (i : Int) = p.1 then needF f nm p.2 else 0).sum := by
      unfold gsum
      rw [← sum_plus]
      exact congrArg List.sum (List.map_congr_left fun i _ => hs i)
    rw [this, sum_if, if_pos (by omega), h1]
    simp only [usedF, sumA, List.map_cons, List.sum_cons]; omega
theorem gsum_pos {f : PlaceD → Int} {t : List (Int × List PlaceD)} {nm : ByteArray} (h : ∀ g ∈ t, ∀ p ∈ g.2, 0 ≤ f p) (g : Nat) : 0 ≤ needF f nm (tk t g) := by
  by_cases e : 0 < (tk t (g : Int)).length
  · exact needF_pos (h _ (asg_some_mem (tk_some e)))
  · have : tk t (g : Int) = [] := List.eq_nil_of_length_eq_zero (by omega)
    rw [this]; exact Int.le_refl 0
theorem gsum_mono {f : PlaceD → Int} {t : List (Int × List PlaceD)} {nm : ByteArray} (h : ∀ g ∈ t, ∀ p ∈ g.2, 0 ≤ f p) : ∀ {g g' : Nat}, g ≤ g' → gsum f t nm g ≤ gsum f t nm g' := by
  intro g g' hg
  induction g' with
  | zero => have : g = 0 := by omega
            subst this; exact Int.le_refl _
  | succ g' ih =>
    by_cases e : g = g' + 1
    · subst e; exact Int.le_refl _
    · have := ih (by omega)
      rw [gsum_succ]
      have := gsum_pos (nm := nm) h g'
      omega
theorem Keys12.take {S : LedD} {g : Int} {ps : List PlaceD} (h : Keys12 S.taken) (hg : 0 ≤ g ∧ g < 12) : Keys12 (takeT S g ps) := by
  unfold takeT
  split
  · intro p hp
    rcases mem_aset hp with hp | rfl
    · exact h p hp
    · exact hg
  · exact h
theorem Keys12.give {t : List (Int × List PlaceD)} {g : Int} (h : Keys12 t) : Keys12 (giveT t g) := by
  unfold giveT
  split
  · exact h
  · exact fun p hp => h p (mem_adel hp)
/-- What is added up of a node, in the law. -/
structure RoomAt (S : LedD) (nm : ByteArray) (g m : Nat) (c c' n : Int) : Prop where
  c_eq : c = gsum (·.cpu) S.taken nm g + needC nm ((tk S.taken g).take m)
  m_eq : c' = gsum (·.mem) S.taken nm g + needM nm ((tk S.taken g).take m)
  n_eq : n = gsum (fun _ => 1) S.taken nm g + needN nm ((tk S.taken g).take m)
theorem room_le {S : LedD} {k : Nat} (hi : LedInv S k) (hk : k ≤ 1000000) (h12 : Keys12 S.taken) {nm : ByteArray} {g m : Nat} (hg : g < 12) {f : PlaceD → Int} (hf : ∀ g ∈ S.taken, ∀ p ∈ g.2, 0 ≤ f p) (hm : usedF f S.taken nm ≤ 1099511627776) :
    0 ≤ gsum f S.taken nm g + needF f nm ((tk S.taken g).take m) ∧ gsum f S.taken nm g + needF f nm ((tk S.taken g).take m) ≤ 1099511627776 := by
  have h0 := gsum_mono (nm := nm) hf (Nat.zero_le g)
  have h1 := gsum_mono (nm := nm) hf (show g + 1 ≤ 12 by omega)
  rw [gsum_all hi.keys h12, gsum_succ] at h1
  have h00 : gsum f S.taken nm 0 = 0 := rfl
  have hp : ∀ p ∈ tk S.taken (g : Int), 0 ≤ f p := by
    by_cases e : 0 < (tk S.taken (g : Int)).length
    · exact hf _ (asg_some_mem (tk_some e))
    · have : tk S.taken (g : Int) = [] := List.eq_nil_of_length_eq_zero (by omega)
      rw [this]; simp
  have h2 := needF_in (nm := nm) hp m
  omega
theorem ledRoom_c (ns ms : List Int) (vn vm : Value) (w : World) (hr : RepL (hp w) vn ns) (hrm : RepL (hp w) vm ms) : Calls Try.prog 3 #[vn, vm] w fun e w' => e = .returned (.bool true) ∧ Below w.heap.size w w' := by
  obtain ⟨an, cn, rfl⟩ := hr.form
  obtain ⟨am, cm, rfl⟩ := hrm.form
  have hlen : ns.length ≤ 140737488355328 := hr.1
  refine RS.enter Try.func3 Try.ntmps3 rfl rfl ?_
  (repeat (first | refine RS.seq ?_ | refine RS.region ?_ | refine RS.regionQ ?_ (by kernel_rfl) (by kernel_rfl) | refine RS.skip ?_ | refine RS.inBlock ?_ | refine RS.block ?_ | refine RS.exit ?_)); refine asB ?_; refine LS.done ?_
  (repeat (first | refine RS.seq ?_ | refine RS.region ?_ | refine RS.regionQ ?_ (by kernel_rfl) (by kernel_rfl) | refine RS.skip ?_ | refine RS.inBlock ?_ | refine RS.block ?_ | refine RS.exit ?_)); skip
  refine callP ?_ (hc := fun w _ => known7_c w)
  refine not_ ?_; refine LS.done ?_
  (repeat (first | refine RS.seq ?_ | refine RS.region ?_ | refine RS.regionQ ?_ (by kernel_rfl) (by kernel_rfl) | refine RS.skip ?_ | refine RS.inBlock ?_ | refine RS.block ?_ | refine RS.exit ?_)); refine RS.condF ?_
  (repeat (first | refine RS.seq ?_ | refine RS.region ?_ | refine RS.regionQ ?_ (by kernel_rfl) (by kernel_rfl) | refine RS.skip ?_ | refine RS.inBlock ?_ | refine RS.block ?_ | refine RS.exit ?_)); skip
  refine newL (fun bl => ?_)
  refine asP ?_; refine LS.done ?_
  (repeat (first | refine RS.seq ?_ | refine RS.region ?_ | refine RS.regionQ ?_ (by kernel_rfl) (by kernel_rfl) | refine RS.skip ?_ | refine RS.inBlock ?_ | refine RS.block ?_ | refine RS.exit ?_)); refine mvP ?_; refine bin_eql_P ?_; refine LS.done ?_
  (repeat (first | refine RS.seq ?_ | refine RS.region ?_ | refine RS.regionQ ?_ (by kernel_rfl) (by kernel_rfl) | refine RS.skip ?_ | refine RS.inBlock ?_ | refine RS.block ?_ | refine RS.exit ?_)); refine RS.condF ?_
  (repeat (first | refine RS.seq ?_ | refine RS.region ?_ | refine RS.regionQ ?_ (by kernel_rfl) (by kernel_rfl) | refine RS.skip ?_ | refine RS.inBlock ?_ | refine RS.block ?_ | refine RS.exit ?_)); refine asI ?_; refine LS.done ?_
  (repeat (first | refine RS.seq ?_ | refine RS.region ?_ | refine RS.regionQ ?_ (by kernel_rfl) (by kernel_rfl) | refine RS.skip ?_ | refine RS.inBlock ?_ | refine RS.block ?_ | refine RS.exit ?_))
  refine RS.loopF (X := Nat × LedD × PH) 6 157 (fun x => x.1 ≤ 60 ∧ x.1 ≤ ns.length ∧ LedInv x.2.1 (3 * x.1) ∧ Keys12 x.2.1.taken ∧ PH.le (hp w) x.2.2) (fun x => [(6, .int .i64 x.1)]) (fun x => x.2.2) (fun x => [ledHP bl x.2.1]) (fun x => 60 - x.1) (0, ⟨[], []⟩, hp w) ⟨by omega, by omega, LedInv.empty 0, fun _ h => by simp at h, PH.le_refl _⟩ ⟨rfl, trivial⟩ rfl ⟨fun h => h⟩ ?_
  rintro ⟨i, S0, σ2⟩ gg ⟨hi60, hin, hi0, h120, hle2⟩ ih
  simp only at hi60 hin hi0 h120 hle2 ih ⊢
  (repeat (first | refine RS.seq ?_ | refine RS.region ?_ | refine RS.regionQ ?_ (by kernel_rfl) (by kernel_rfl) | refine RS.skip ?_ | refine RS.inBlock ?_ | refine RS.block ?_ | refine RS.exit ?_)); refine mvI ?_; refine mvL ?_; refine lenL ?_; refine ltI ?_; refine mvB ?_
  refine LS.cut 26 30 [(29, .bool (decide (i < 60 ∧ i < ns.length)))] (fun gg => ?_) (fun J => ?_)
  rotate_left
  · refine LS.part 26 (fun g1 => ?_) (fun g1 => ?_)
    · refine LS.on ?_; refine mvI ?_; refine LS.on ?_; refine ltI ?_; refine pk (v := .bool _) ?_; refine LS.done ?_
      simp only [decide_eq_true_eq] at g1
      exact J ⟨boolV (decide_eq_decide.2 (by omega)), trivial⟩ (by repeat (first | with_reducible exact Out.refl _ _ _ | exact Out.hv | refine Out.upd ?_ | refine Out.hvIn ?_))
    · refine LS.off ?_; refine LS.off ?_; refine pk (v := .bool _) ?_; refine LS.done ?_
      simp only [decide_eq_false_iff_not] at g1
      exact J ⟨boolV (by symm; exact decide_eq_false (by omega)), trivial⟩ (by repeat (first | with_reducible exact Out.refl _ _ _ | exact Out.hv | refine Out.upd ?_ | refine Out.hvIn ?_))
  (repeat (first | refine RS.seq ?_ | refine RS.region ?_ | refine RS.regionQ ?_ (by kernel_rfl) (by kernel_rfl) | refine RS.skip ?_ | refine RS.inBlock ?_ | refine RS.block ?_ | refine RS.exit ?_))
  refine RS.cond (fun z => ?_) (fun z => ?_)
  · simp only [decide_eq_true_eq] at z
    obtain ⟨b, o, rfl, hrow⟩ := hr.addr (fun h => by simp [h] at z)
    obtain ⟨hcell, h64⟩ := (hrow.mono hle2).int i z.2
    have hq := tdivRange (b := 5) h64 (by omega)
    (repeat (first | refine RS.seq ?_ | refine RS.region ?_ | refine RS.regionQ ?_ (by kernel_rfl) (by kernel_rfl) | refine RS.skip ?_ | refine RS.inBlock ?_ | refine RS.block ?_ | refine RS.exit ?_)); refine mvL ?_; refine mvI ?_; refine idx (i := i) ?_; refine ldS hcell ?_; refine quoN ?_; refine asI ?_; refine LS.done ?_
    obtain ⟨k, hk⟩ : ∃ k, k = ns[i].tdiv 5 := ⟨_, rfl⟩
    rw [← hk] at hq ⊢
    obtain ⟨q1, q2⟩ := wmod k 12 (by omega)
    (repeat (first | refine RS.seq ?_ | refine RS.region ?_ | refine RS.regionQ ?_ (by kernel_rfl) (by kernel_rfl) | refine RS.skip ?_ | refine RS.inBlock ?_ | refine RS.block ?_ | refine RS.exit ?_)); refine mvL ?_; refine mvI ?_; refine idx (i := i) ?_; refine ldS hcell ?_
    refine callP ?_ (hc := fun w _ => w7_c _ _ (by omega) (by omega) w)
    refine LS.done ?_
    (repeat (first | refine RS.seq ?_ | refine RS.region ?_ | refine RS.regionQ ?_ (by kernel_rfl) (by kernel_rfl) | refine RS.skip ?_ | refine RS.inBlock ?_ | refine RS.block ?_ | refine RS.exit ?_)); refine eqI ?_; refine asB ?_; refine LS.done ?_
    (repeat (first | refine RS.seq ?_ | refine RS.region ?_ | refine RS.skip ?_ | refine RS.inBlock ?_ | refine RS.block ?_ | refine RS.exit ?_))
    refine RS.cut (X := LedD × PH) 7 157 (fun x => LedInv x.1 (3 * (i + 1)) ∧ Keys12 x.1.taken ∧ PH.le (hp w) x.2) (fun _ => [(6, .int .i64 i)]) (fun x => x.2) (fun x => [ledHP bl x.1]) ?_ (fun J => ?_)
    rotate_left
    · have up : ∀ {S : LedD} {a : Nat}, LedInv S a → a ≤ 3 * (i + 1) → LedInv S (3 * (i + 1)) := fun h ha => ⟨h.nodes, h.keys, h.some_, h.right, h.there, h.fits, fun nm => by have := h.count nm; omega, h.size⟩
      refine RS.cond (fun y => ?_) (fun y => ?_)
      · (repeat (first | refine RS.seq ?_ | refine RS.region ?_ | refine RS.regionQ ?_ (by kernel_rfl) (by kernel_rfl) | refine RS.skip ?_ | refine RS.inBlock ?_ | refine RS.block ?_ | refine RS.exit ?_)); refine mvP ?_; refine mvI ?_; refine mvI ?_; refine quoN ?_
        refine callT (fun v τ => RepA τ v (nodeOf k (k.tdiv 8))) (fun v τ1 σ3 hq1 hN1 hle3 hτ1 => ?_) (fun w' hw => lnode_c _ _ (tdivRange hq (by omega)) w')
        obtain ⟨cs, rfl, hrp⟩ := hq1
        have hrp' := Rep.mono hrp hτ1
        obtain ⟨v1, v2, rfl, _, _, _, hv1, hv2⟩ := hrp
        obtain ⟨a1, c1, rfl⟩ := hv1.form
        obtain ⟨a2, c2, rfl⟩ := hv2.form
        skip
        refine putL (nodeOf k (k.tdiv 8)) a1 a2 c1 c2 hi0 (by omega) (ArgAt.of hrp') (fun σ4 hle4 => ?_)
        refine LS.done ?_
        exact J (_, σ4) ⟨up (hi0.put _) (by omega), h120, PH.le_trans hle2 (PH.le_trans hle3 hle4)⟩ ⟨rfl, trivial⟩ (by repeat (first | with_reducible exact Out.refl _ _ _ | exact Out.hv | refine Out.upd ?_ | refine Out.hvIn ?_)) ⟨fun h => h⟩ rfl
      · (repeat (first | refine RS.seq ?_ | refine RS.region ?_ | refine RS.regionQ ?_ (by kernel_rfl) (by kernel_rfl) | refine RS.skip ?_ | refine RS.inBlock ?_ | refine RS.block ?_ | refine RS.exit ?_)); refine eqI ?_; refine asB ?_; refine LS.done ?_
        (repeat (first | refine RS.seq ?_ | refine RS.region ?_ | refine RS.skip ?_ | refine RS.inBlock ?_ | refine RS.block ?_ | refine RS.exit ?_))
        refine RS.cond (fun y => ?_) (fun y => ?_)
        · (repeat (first | refine RS.seq ?_ | refine RS.region ?_ | refine RS.regionQ ?_ (by kernel_rfl) (by kernel_rfl) | refine RS.skip ?_ | refine RS.inBlock ?_ | refine RS.block ?_ | refine RS.exit ?_)); refine mvP ?_; refine mvI ?_
          refine callP ?_ (hc := fun w _ => w7_c _ _ (by omega) (by omega) w)
          skip
          refine giveL (k % 12) ?_
          refine LS.done ?_
          exact J (_, σ2) ⟨up (hi0.give _) (by omega), h120.give, hle2⟩ ⟨rfl, trivial⟩ (by repeat (first | with_reducible exact Out.refl _ _ _ | exact Out.hv | refine Out.upd ?_ | refine Out.hvIn ?_)) ⟨fun h => h⟩ rfl
        · (repeat (first | refine RS.seq ?_ | refine RS.region ?_ | refine RS.regionQ ?_ (by kernel_rfl) (by kernel_rfl) | refine RS.skip ?_ | refine RS.inBlock ?_ | refine RS.block ?_ | refine RS.exit ?_)); refine mvP ?_; refine mvI ?_
          refine callP ?_ (hc := fun w _ => w7_c _ _ (by omega) (by omega) w)
          refine mvL ?_; refine mvI ?_
          refine callT (fun v τ => RepL τ v (placesOf ms k)) (fun v τ1 σ3 hq1 hN1 hle3 hτ1 => ?_) (fun w' hw => lplaces_c ms k _ w' (hrm.mono (PH.le_trans hle2 hw.imm)))
          obtain ⟨a1, c1, rfl⟩ := hq1.form
          have hpl := placesOf_len ms k
          skip
          refine takeL (k % 12) _ (placesOf ms k) hi0 (by omega) (by omega) (ArgL.of (hq1.mono hτ1)) (fun σ4 hle4 => ?_)
          refine LS.done ?_
          exact J (_, σ4) ⟨up (hi0.take (m := 3) hpl (by omega)) (by omega), h120.take ⟨q1, q2⟩, PH.le_trans hle2 (PH.le_trans hle3 hle4)⟩ ⟨rfl, trivial⟩ (by repeat (first | with_reducible exact Out.refl _ _ _ | exact Out.hv | refine Out.upd ?_ | refine Out.hvIn ?_)) ⟨fun h => h⟩ rfl
    rintro ⟨S, σ3⟩ g3 ⟨(hi : LedInv S _), (h12 : Keys12 S.taken), (hle3 : PH.le (hp w) σ3)⟩
    have hT := hi.takenOk (by omega)
    have hpc : ∀ g ∈ S.taken, ∀ p ∈ g.2, 0 ≤ p.cpu := fun g hg p hp => (hi.right g hg p hp).1
    have hpm : ∀ g ∈ S.taken, ∀ p ∈ g.2, 0 ≤ p.mem := fun g hg p hp => (hi.right g hg p hp).2
    have hpn : ∀ g ∈ S.taken, ∀ p ∈ g.2, (0 : Int) ≤ (fun _ => 1) p := fun g hg p hp => by simp
    (repeat (first | refine RS.seq ?_ | refine RS.region ?_ | refine RS.regionQ ?_ (by kernel_rfl) (by kernel_rfl) | refine RS.skip ?_ | refine RS.inBlock ?_ | refine RS.block ?_ | refine RS.exit ?_)); refine mvP ?_
    refine nodesL hi (fun v8 σ4 hle4 hr8 => ?_)
    obtain ⟨a8, c8, rfl⟩ := hr8.form
    have hl8 : (nodesOf S).length ≤ 8 := by rw [nodesOf, List.length_map, sortK_len]; exact hi.nodes.few
    refine asL ?_; refine LS.done ?_
    (repeat (first | refine RS.seq ?_ | refine RS.region ?_ | refine RS.regionQ ?_ (by kernel_rfl) (by kernel_rfl) | refine RS.skip ?_ | refine RS.inBlock ?_ | refine RS.block ?_ | refine RS.exit ?_)); refine asI ?_; refine LS.done ?_
    (repeat (first | refine RS.seq ?_ | refine RS.region ?_ | refine RS.regionQ ?_ (by kernel_rfl) (by kernel_rfl) | refine RS.skip ?_ | refine RS.inBlock ?_ | refine RS.block ?_ | refine RS.exit ?_))
    refine RS.loopF (X := Nat × PH) 9 157 (fun x => x.1 ≤ (nodesOf S).length ∧ PH.le σ4 x.2) (fun x => [(9, .int .i64 x.1)]) (fun x => x.2) (fun _ => [ledHP bl S]) (fun x => (nodesOf S).length - x.1) (0, σ4) ⟨Nat.zero_le _, PH.le_refl _⟩ ⟨rfl, trivial⟩ rfl ⟨fun h => h⟩ ?_
    rintro ⟨j, σ5⟩ g4 ⟨(hj : j ≤ (nodesOf S).length), (hle5 : PH.le σ4 σ5)⟩ ihj
    (repeat (first | refine RS.seq ?_ | refine RS.region ?_ | refine RS.regionQ ?_ (by kernel_rfl) (by kernel_rfl) | refine RS.skip ?_ | refine RS.inBlock ?_ | refine RS.block ?_ | refine RS.exit ?_)); refine mvI ?_; refine mvL ?_; refine lenL ?_; refine ltI ?_; refine LS.done ?_
    (repeat (first | refine RS.seq ?_ | refine RS.region ?_ | refine RS.regionQ ?_ (by kernel_rfl) (by kernel_rfl) | refine RS.skip ?_ | refine RS.inBlock ?_ | refine RS.block ?_ | refine RS.exit ?_))
    by_cases hlj : j < (nodesOf S).length
    · refine RS.condT ?_ (h := by simp; omega)
      obtain ⟨b8, o8, rfl, hrow8⟩ := hr8.addr (List.ne_nil_of_length_pos (by omega))
      obtain ⟨vs8, hcs8, hrep8⟩ := hrow8 j hlj
      have hmemN : ∃ p ∈ S.nodes, p.2 = (nodesOf S)[j] := by
        have : (nodesOf S)[j] ∈ nodesOf S := List.getElem_mem _
        obtain ⟨p, hp, e⟩ := List.mem_map.1 this
        exact ⟨p, mem_sortK.1 hp, e⟩
      obtain ⟨pn, hpnm, hpe⟩ := hmemN
      obtain ⟨nd, hnd⟩ : ∃ nd, nd = (nodesOf S)[j] := ⟨_, rfl⟩
      rw [← hnd] at hrep8 hpe
      obtain ⟨vm8, vt8, rfl, _, hc8, hm8, _⟩ := hrep8
      obtain ⟨nm, hnm⟩ : ∃ nm, nm = nd.name := ⟨_, rfl⟩
      have hget : asg S.nodes nm = some nd := by
        have h1 := asg_mem hi.nodes.nodup hpnm
        have h2 := hi.nodes.key pn hpnm
        rw [hpe] at h1 h2
        rw [hnm, h2]; exact h1
      have hfit := hi.fits nm nd hget
      obtain ⟨hmC, hmM, hmN⟩ := hT.most nm
      have hn0 : σ5.cell b8 (o8 + j * 6 + 0) = some (.string nm) := by rw [hnm]; exact PH.cell_mono hle5 (hcs8 0 (by decide))
      have hn1 : σ5.cell b8 (o8 + j * 6 + 1) = some (.int .i64 nd.cpu) := PH.cell_mono hle5 (hcs8 1 (by decide))
      have hn2 : σ5.cell b8 (o8 + j * 6 + 2) = some (.int .i64 nd.mem) := PH.cell_mono hle5 (hcs8 2 (by decide))
      have rC := fun {g m : Nat} (hg : g < 12) => room_le (f := fun p => p.cpu) (m := m) hi (by omega) h12 (nm := nm) hg hpc hmC
      have rM := fun {g m : Nat} (hg : g < 12) => room_le (f := fun p => p.mem) (m := m) hi (by omega) h12 (nm := nm) hg hpm hmM
      have rN := fun {g m : Nat} (hg : g < 12) => room_le (f := fun _ => 1) (m := m) hi (by omega) h12 (nm := nm) hg hpn hmN
      (repeat (first | refine RS.seq ?_ | refine RS.region ?_ | refine RS.regionQ ?_ (by kernel_rfl) (by kernel_rfl) | refine RS.skip ?_ | refine RS.inBlock ?_ | refine RS.block ?_ | refine RS.exit ?_)); refine alloc_ (fun b10 => ?_); refine LS.done ?_
      (repeat (first | refine RS.seq ?_ | refine RS.region ?_ | refine RS.regionQ ?_ (by kernel_rfl) (by kernel_rfl) | refine RS.skip ?_ | refine RS.inBlock ?_ | refine RS.block ?_ | refine RS.exit ?_)); refine asI ?_; refine LS.done ?_
      (repeat (first | refine RS.seq ?_ | refine RS.region ?_ | refine RS.regionQ ?_ (by kernel_rfl) (by kernel_rfl) | refine RS.skip ?_ | refine RS.inBlock ?_ | refine RS.block ?_ | refine RS.exit ?_)); refine asI ?_; refine LS.done ?_
      (repeat (first | refine RS.seq ?_ | refine RS.region ?_ | refine RS.regionQ ?_ (by kernel_rfl) (by kernel_rfl) | refine RS.skip ?_ | refine RS.inBlock ?_ | refine RS.block ?_ | refine RS.exit ?_))
      refine RS.loopF (X := Nat × PH) 11 157 (fun x => x.1 ≤ 12 ∧ PH.le σ5 x.2) (fun x => [(11, .int .i64 (gsum (fun _ => 1) S.taken nm x.1)), (12, .int .i64 x.1)]) (fun x => x.2) (fun x => [blk b10 (.cells (List.toArray [.int .i64 (gsum (·.cpu) S.taken nm x.1), .int .i64 (gsum (·.mem) S.taken nm x.1)]) 30 (0, 0)), ledHP bl S]) (fun x => 12 - x.1) (0, σ5) ⟨Nat.zero_le _, PH.le_refl _⟩ ⟨rfl, rfl, trivial⟩ rfl ⟨fun h => h⟩ ?_
      rintro ⟨g, σ6⟩ g5 ⟨(hg : g ≤ 12), (hle6 : PH.le σ5 σ6)⟩ ihg
      (repeat (first | refine RS.seq ?_ | refine RS.region ?_ | refine RS.regionQ ?_ (by kernel_rfl) (by kernel_rfl) | refine RS.skip ?_ | refine RS.inBlock ?_ | refine RS.block ?_ | refine RS.exit ?_)); refine mvI ?_; refine ltI ?_; refine LS.done ?_
      (repeat (first | refine RS.seq ?_ | refine RS.region ?_ | refine RS.regionQ ?_ (by kernel_rfl) (by kernel_rfl) | refine RS.skip ?_ | refine RS.inBlock ?_ | refine RS.block ?_ | refine RS.exit ?_))
      by_cases hlg : g < 12
      · refine RS.condT ?_ (h := by simp; omega)
        (repeat (first | refine RS.seq ?_ | refine RS.region ?_ | refine RS.regionQ ?_ (by kernel_rfl) (by kernel_rfl) | refine RS.skip ?_ | refine RS.inBlock ?_ | refine RS.block ?_ | refine RS.exit ?_)); refine mvP ?_; refine mvI ?_
        refine placesL (g : Int) hi (fun v13 σ7 hle7 hr13 => ?_)
        obtain ⟨a13, c13, rfl⟩ := hr13.form
        have hl13 := hi.tk_len g
        refine asL ?_; refine LS.done ?_
        (repeat (first | refine RS.seq ?_ | refine RS.region ?_ | refine RS.regionQ ?_ (by kernel_rfl) (by kernel_rfl) | refine RS.skip ?_ | refine RS.inBlock ?_ | refine RS.block ?_ | refine RS.exit ?_)); refine asI ?_; refine LS.done ?_
        (repeat (first | refine RS.seq ?_ | refine RS.region ?_ | refine RS.regionQ ?_ (by kernel_rfl) (by kernel_rfl) | refine RS.skip ?_ | refine RS.inBlock ?_ | refine RS.block ?_ | refine RS.exit ?_))
        obtain ⟨ps, hps⟩ : ∃ ps, ps = tk S.taken (g : Int) := ⟨_, rfl⟩
        rw [← hps] at hr13 hl13 ⊢
        have rC' := fun {m : Nat} => rC (m := m) hlg
        have rM' := fun {m : Nat} => rM (m := m) hlg
        have rN' := fun {m : Nat} => rN (m := m) hlg
        have sC := gsum_succ (·.cpu) S.taken nm g
        have sM := gsum_succ (·.mem) S.taken nm g
        have sN := gsum_succ (fun _ => 1) S.taken nm g
        rw [← hps] at rC' rM' rN' sC sM sN
        refine RS.loopF (X := Nat × PH) 11 157 (fun x => x.1 ≤ ps.length ∧ PH.le σ7 x.2) (fun x => [(11, .int .i64 (gsum (fun _ => 1) S.taken nm g + needF (fun _ => 1) nm (ps.take x.1))), (12, .int .i64 g), (13, .slice a13 ps.length c13), (14, .int .i64 x.1)]) (fun x => x.2) (fun x => [blk b10 (.cells (List.toArray [.int .i64 (gsum (·.cpu) S.taken nm g + needF (·.cpu) nm (ps.take x.1)), .int .i64 (gsum (·.mem) S.taken nm g + needF (·.mem) nm (ps.take x.1))]) 30 (0, 0)), ledHP bl S]) (fun x => ps.length - x.1) (0, σ7) ⟨Nat.zero_le _, PH.le_refl _⟩ ⟨by dsimp only; rw [List.take_zero]; exact congrArg (Value.int .i64) (Int.add_zero _).symm, rfl, rfl, rfl, trivial⟩ rfl ⟨fun h => by dsimp only; simp only [List.take_zero, show ∀ f, needF f nm [] = 0 from fun _ => rfl, Int.add_zero]; exact h⟩ ?_
        rintro ⟨m, σ70⟩ g6 ⟨(hm : m ≤ ps.length), (hle70 : PH.le σ7 σ70)⟩ ihm
        dsimp only
        (repeat (first | refine RS.seq ?_ | refine RS.region ?_ | refine RS.regionQ ?_ (by kernel_rfl) (by kernel_rfl) | refine RS.skip ?_ | refine RS.inBlock ?_ | refine RS.block ?_ | refine RS.exit ?_)); refine mvI ?_; refine mvL ?_; refine lenL ?_; refine ltI ?_; refine LS.done ?_
        (repeat (first | refine RS.seq ?_ | refine RS.region ?_ | refine RS.regionQ ?_ (by kernel_rfl) (by kernel_rfl) | refine RS.skip ?_ | refine RS.inBlock ?_ | refine RS.block ?_ | refine RS.exit ?_))
        by_cases hlm : m < ps.length
        · refine RS.condT ?_ (h := by simp; omega)
          obtain ⟨b13, o13, rfl, hrow13⟩ := hr13.addr (List.ne_nil_of_length_pos (by omega))
          obtain ⟨hcp, hp64, hpm64⟩ := RowAt.place hrow13 m hlm
          obtain ⟨p, hp⟩ : ∃ p, p = ps[m] := ⟨_, rfl⟩
          have nC := needF_succ (·.cpu) nm ps m hlm
          have nM := needF_succ (·.mem) nm ps m hlm
          have nN := needF_succ (fun _ => 1) nm ps m hlm
          rw [← hp] at hcp hp64 hpm64 nC nM nN
          have hp1 : σ7.cell b13 (o13 + m * 5 + 1) = some (.string p.node) := hcp 1 (by decide)
          have hp2 : σ7.cell b13 (o13 + m * 5 + 2 + 0) = some (.int .i64 p.cpu) := hcp 2 (by decide)
          have hp3 : σ7.cell b13 (o13 + m * 5 + 2 + 1) = some (.int .i64 p.mem) := hcp 3 (by decide)
          have r1 := rC' (m := m)
          have r2 := rC' (m := m + 1)
          have r3 := rM' (m := m)
          have r4 := rM' (m := m + 1)
          have r5 := rN' (m := m)
          have r6 := rN' (m := m + 1)
          (repeat (first | refine RS.seq ?_ | refine RS.region ?_ | refine RS.regionQ ?_ (by kernel_rfl) (by kernel_rfl) | refine RS.skip ?_ | refine RS.inBlock ?_ | refine RS.block ?_ | refine RS.exit ?_)); refine mvL ?_; refine mvI ?_; refine idx (i := m) ?_; refine fld ?_; refine ldS (PH.cell_mono hle70 hp1) ?_; refine mvL ?_; refine mvI ?_; refine idx (i := j) ?_; refine fld ?_; refine ldS (PH.cell_mono hle70 (PH.cell_mono hle7 (PH.cell_mono hle6 hn0))) ?_; refine eqS ?_; refine LS.done ?_
          (repeat (first | refine RS.seq ?_ | refine RS.region ?_ | refine RS.skip ?_ | refine RS.inBlock ?_ | refine RS.block ?_ | refine RS.exit ?_))
          refine RS.cond (fun y => ?_) (fun y => ?_)
          · simp only [decide_eq_true_eq] at y
            rw [if_pos y] at nC nM nN
            rw [nC] at r2
            rw [nM] at r4
            rw [nN] at r6
            (repeat (first | refine RS.seq ?_ | refine RS.region ?_ | refine RS.skip ?_ | refine RS.inBlock ?_ | refine RS.block ?_ | refine RS.exit ?_)); refine RS.draw [.free, .ex, .free, .free, .free, .free, .free, .free, .free, .free, .ex, .free, .free, .free, .free, .free, .free, .free, .free, .st, .free, .st] [blk b10 (.cells (List.toArray [.int .i64 (gsum (·.cpu) S.taken nm g + needF (·.cpu) nm (ps.take m)), .int .i64 (gsum (·.mem) S.taken nm g + needF (·.mem) nm (ps.take m))]) 30 (0, 0))] ?_ (by kernel_rfl) (by kernel_rfl) (by infer_instance); refine D.fld ?_; refine D.ld1 (v := .int _ _) ?_; refine D.mvL ?_; refine D.mvI ?_; refine D.idx (i := m) ?_; refine D.fld ?_; refine D.fld ?_; refine D.ldSf (PH.cell_mono hle70 hp2) ?_; (first | refine D.addN ?_ | refine D.addI ?_); refine D.fld ?_; refine D.ld1 (v := .int _ _) ?_; refine D.mvL ?_; refine D.mvI ?_; refine D.idx (i := m) ?_; refine D.fld ?_; refine D.fld ?_; refine D.ldSf (PH.cell_mono hle70 hp3) ?_; (first | refine D.addN ?_ | refine D.addI ?_); refine D.fld ?_
            refine D.stB (.int .i64 (gsum (·.cpu) S.taken nm g + needF (·.cpu) nm (ps.take m) + p.cpu)) [.int .i64 (gsum (·.cpu) S.taken nm g + needF (·.cpu) nm (ps.take m) + p.cpu), .int .i64 (gsum (·.mem) S.taken nm g + needF (·.mem) nm (ps.take m))] ?_ (hr := by simp)
            refine D.fld ?_
            refine D.stB (.int .i64 (gsum (·.mem) S.taken nm g + needF (·.mem) nm (ps.take m) + p.mem)) _ ?_ (hr := by simp)
            refine D.done (fun us σ9 hle9 hfs => ?_)
            refine RS.ow ?_
            (repeat (first | refine RS.seq ?_ | refine RS.region ?_ | refine RS.regionQ ?_ (by kernel_rfl) (by kernel_rfl) | refine RS.skip ?_ | refine RS.inBlock ?_ | refine RS.block ?_ | refine RS.exit ?_)); refine mvI ?_; (first | refine addN ?_ | refine addI ?_); refine asI ?_; refine LS.done ?_
            (repeat (first | refine RS.seq ?_ | refine RS.region ?_ | refine RS.regionQ ?_ (by kernel_rfl) (by kernel_rfl) | refine RS.skip ?_ | refine RS.inBlock ?_ | refine RS.block ?_ | refine RS.exit ?_)); refine mvI ?_; (first | refine addN ?_ | refine addI ?_); refine asI ?_; refine LS.done ?_; (repeat (first | refine RS.seq ?_ | refine RS.region ?_ | refine RS.regionQ ?_ (by kernel_rfl) (by kernel_rfl) | refine RS.skip ?_ | refine RS.inBlock ?_ | refine RS.block ?_ | refine RS.exit ?_))
            refine ihm (m + 1, σ9) ⟨hlm, PH.le_trans hle70 hle9⟩ (by (try dsimp only); omega) ⟨by dsimp only; rw [nN, ← Int.add_assoc]; rfl, rfl, rfl, rfl, trivial⟩ (by repeat (first | with_reducible exact Out.refl _ _ _ | exact Out.hv | refine Out.upd ?_ | refine Out.hvIn ?_)) ⟨fun h => ?_⟩ rfl
            dsimp only
            rw [nC, nM, ← Int.add_assoc, ← Int.add_assoc]; exact h
          · simp only [decide_eq_false_iff_not] at y
            rw [if_neg y, Int.add_zero] at nC nM nN
            (repeat (first | refine RS.seq ?_ | refine RS.region ?_ | refine RS.regionQ ?_ (by kernel_rfl) (by kernel_rfl) | refine RS.skip ?_ | refine RS.inBlock ?_ | refine RS.block ?_ | refine RS.exit ?_)); refine mvI ?_; (first | refine addN ?_ | refine addI ?_); refine asI ?_; refine LS.done ?_; (repeat (first | refine RS.seq ?_ | refine RS.region ?_ | refine RS.regionQ ?_ (by kernel_rfl) (by kernel_rfl) | refine RS.skip ?_ | refine RS.inBlock ?_ | refine RS.block ?_ | refine RS.exit ?_))
            refine ihm (m + 1, σ70) ⟨hlm, hle70⟩ (by (try dsimp only); omega) ⟨by dsimp only; rw [nN]; rfl, rfl, rfl, rfl, trivial⟩ (by repeat (first | with_reducible exact Out.refl _ _ _ | exact Out.hv | refine Out.upd ?_ | refine Out.hvIn ?_)) ⟨fun h => ?_⟩ rfl
            dsimp only
            rw [nC, nM]; exact h
        · refine RS.condF ?_ (h := by simp; omega)
          obtain rfl : m = ps.length := by omega
          rw [List.take_length]
          (repeat (first | refine RS.seq ?_ | refine RS.region ?_ | refine RS.regionQ ?_ (by kernel_rfl) (by kernel_rfl) | refine RS.skip ?_ | refine RS.inBlock ?_ | refine RS.block ?_ | refine RS.exit ?_)); refine mvI ?_; (first | refine addN ?_ | refine addI ?_); refine asI ?_; refine LS.done ?_; (repeat (first | refine RS.seq ?_ | refine RS.region ?_ | refine RS.regionQ ?_ (by kernel_rfl) (by kernel_rfl) | refine RS.skip ?_ | refine RS.inBlock ?_ | refine RS.block ?_ | refine RS.exit ?_))
          refine ihg (g + 1, σ70) ⟨by (try dsimp only); omega, PH.le_trans hle6 (PH.le_trans hle7 hle70)⟩ (by (try dsimp only); omega) ⟨by dsimp only; rw [sN]; rfl, rfl, trivial⟩ (by repeat (first | with_reducible exact Out.refl _ _ _ | exact Out.hv | refine Out.upd ?_ | refine Out.hvIn ?_)) ⟨fun h => ?_⟩ rfl
          dsimp only
          rw [sC, sM]; exact h
      · refine RS.condF ?_ (h := by simp; omega)
        obtain rfl : g = 12 := by omega
        have eC : gsum (·.cpu) S.taken nm 12 = usedC S.taken nm := gsum_all hi.keys h12
        have eM : gsum (·.mem) S.taken nm 12 = usedM S.taken nm := gsum_all hi.keys h12
        have eN : gsum (fun _ => 1) S.taken nm 12 = usedN S.taken nm := gsum_all hi.keys h12
        rw [eC, eM, eN]
        (repeat (first | refine RS.seq ?_ | refine RS.region ?_ | refine RS.regionQ ?_ (by kernel_rfl) (by kernel_rfl) | refine RS.skip ?_ | refine RS.inBlock ?_ | refine RS.block ?_ | refine RS.exit ?_)); refine mvP ?_; refine mvL ?_; refine mvI ?_; refine idx (i := j) ?_; refine fld ?_; refine ldS (PH.cell_mono hle6 hn0) ?_
        refine usedL nm hi (by omega) (fun σ8 hle8 => ?_)
        refine mvT ?_; refine extr (v := _) ?_; refine extr (v := .int _ _) ?_; refine alloc_ (fun b15 => ?_); refine st (.agg _) _ ?_; refine asI ?_; refine LS.done ?_
        have h33 := PH.cell_mono hle8 (PH.cell_mono hle6 hn1)
        have h34 := PH.cell_mono hle8 (PH.cell_mono hle6 hn2)
        (repeat (first | refine RS.seq ?_ | refine RS.region ?_ | refine RS.regionQ ?_ (by kernel_rfl) (by kernel_rfl) | refine RS.skip ?_ | refine RS.inBlock ?_ | refine RS.block ?_ | refine RS.exit ?_)); refine ldA [_, _] ?_; refine ldA [_, _] ?_; refine neqA (b := true) (us1 := [.int .i64 (usedC S.taken nm), .int .i64 (usedM S.taken nm)]) (us2 := [.int .i64 (usedC S.taken nm), .int .i64 (usedM S.taken nm)]) (fun w => by rw [eq_vec]; simp) (by kernel_rfl) ?_; refine mvB ?_; refine LS.on ?_; refine mvI ?_; refine LS.on ?_; refine mvI ?_; refine LS.on ?_; refine neI ?_; rw [decide_eq_true (show usedN S.taken nm = usedN S.taken nm from rfl)]; refine pk (v := .bool _) ?_; refine mvB ?_; refine LS.on ?_; refine fld ?_; refine LS.on ?_; refine ld1 (v := .int _ _) ?_; refine LS.on ?_; refine mvL ?_; refine LS.on ?_; refine mvI ?_; refine LS.on ?_; refine idx (i := j) ?_; refine LS.on ?_; refine fld ?_; refine LS.on ?_; refine fld ?_; refine LS.on ?_; refine ldS h33 ?_; refine LS.on ?_; refine gtI ?_; rw [decide_eq_false (show ¬ nd.cpu < usedC S.taken nm by omega)]; refine pk (v := .bool _) ?_; refine mvB ?_; refine LS.on ?_; refine fld ?_; refine LS.on ?_; refine ld1 (v := .int _ _) ?_; refine LS.on ?_; refine mvL ?_; refine LS.on ?_; refine mvI ?_; refine LS.on ?_; refine idx (i := j) ?_; refine LS.on ?_; refine fld ?_; refine LS.on ?_; refine fld ?_; refine LS.on ?_; refine ldS h34 ?_; refine LS.on ?_; refine gtI ?_; rw [decide_eq_false (show ¬ nd.mem < usedM S.taken nm by omega)]; refine pk (v := .bool _) ?_; refine LS.done ?_
        (repeat (first | refine RS.seq ?_ | refine RS.region ?_ | refine RS.regionQ ?_ (by kernel_rfl) (by kernel_rfl) | refine RS.skip ?_ | refine RS.inBlock ?_ | refine RS.block ?_ | refine RS.exit ?_)); refine RS.condF ?_
        (repeat (first | refine RS.seq ?_ | refine RS.region ?_ | refine RS.regionQ ?_ (by kernel_rfl) (by kernel_rfl) | refine RS.skip ?_ | refine RS.inBlock ?_ | refine RS.block ?_ | refine RS.exit ?_)); refine mvI ?_; (first | refine addN ?_ | refine addI ?_); refine asI ?_; refine LS.done ?_; (repeat (first | refine RS.seq ?_ | refine RS.region ?_ | refine RS.regionQ ?_ (by kernel_rfl) (by kernel_rfl) | refine RS.skip ?_ | refine RS.inBlock ?_ | refine RS.block ?_ | refine RS.exit ?_))
        exact ihj (j + 1, σ8) ⟨by (try dsimp only); omega, PH.le_trans hle5 (PH.le_trans hle6 hle8)⟩ (by (try dsimp only); omega) ⟨rfl, trivial⟩ (by repeat (first | with_reducible exact Out.refl _ _ _ | exact Out.hv | refine Out.upd ?_ | refine Out.hvIn ?_)) ⟨fun h => h.tail.tail⟩ rfl
    · refine RS.condF ?_ (h := by simp; omega)
      (repeat (first | refine RS.seq ?_ | refine RS.region ?_ | refine RS.regionQ ?_ (by kernel_rfl) (by kernel_rfl) | refine RS.skip ?_ | refine RS.inBlock ?_ | refine RS.block ?_ | refine RS.exit ?_)); refine mvI ?_; (first | refine addN ?_ | refine addI ?_); refine asI ?_; refine LS.done ?_; (repeat (first | refine RS.seq ?_ | refine RS.region ?_ | refine RS.regionQ ?_ (by kernel_rfl) (by kernel_rfl) | refine RS.skip ?_ | refine RS.inBlock ?_ | refine RS.block ?_ | refine RS.exit ?_))
      exact ih (i + 1, S, σ5) ⟨by (try dsimp only); omega, by (try dsimp only); omega, hi, h12, PH.le_trans hle3 (PH.le_trans hle4 hle5)⟩ (by (try dsimp only); omega) ⟨rfl, trivial⟩ (by repeat (first | with_reducible exact Out.refl _ _ _ | exact Out.hv | refine Out.upd ?_ | refine Out.hvIn ?_)) ⟨fun h => h⟩ rfl
  · (repeat (first | refine RS.seq ?_ | refine RS.region ?_ | refine RS.regionQ ?_ (by kernel_rfl) (by kernel_rfl) | refine RS.skip ?_ | refine RS.inBlock ?_ | refine RS.block ?_ | refine RS.exit ?_)); refine asB ?_; refine LS.done ?_; (repeat (first | refine RS.seq ?_ | refine RS.region ?_ | refine RS.regionQ ?_ (by kernel_rfl) (by kernel_rfl) | refine RS.skip ?_ | refine RS.inBlock ?_ | refine RS.block ?_ | refine RS.exit ?_)); refine RS.ret1 (v := .bool _) Try.func3 fun w hw => ?_
    exact ⟨rfl, hw.below⟩
end Go.Proofs.Ytbinkokafbpnoaa
