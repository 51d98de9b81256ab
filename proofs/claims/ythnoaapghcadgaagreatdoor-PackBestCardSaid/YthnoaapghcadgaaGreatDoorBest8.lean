/- Walk: PackBest. -/
import Derived.Test.YthnoaapghcadgaaGreatDoorPack9
namespace Go.Proofs.YthnoaapghcadgaaGreatDoor
open Go.JW Go.RowKit
theorem bestTo_pre {ns ns' : List ByteArray} {ss ss' : List Int} (hl : ns.length = ss.length) : ∀ k, k ≤ ss.length → bestTo (ns ++ ns') (ss ++ ss') k = bestTo ns ss k := by
  intro k
  induction k with
  | zero => intro _; rfl
  | succ k ih =>
    intro hk
    have e := ih (by omega)
    simp only [bestTo]
    rw [e]
    have hb := bestTo_in ns ss k
    have g1 : ∀ i, i < ss.length → (ss ++ ss').getD i 0 = ss.getD i 0 := fun i hi => by simp [List.getD_eq_getElem?_getD, List.getElem?_append_left hi]
    have g2 : ∀ i, i < ss.length → (ns ++ ns').getD i ⟨#[]⟩ = ns.getD i ⟨#[]⟩ := fun i hi => by simp [List.getD_eq_getElem?_getD, List.getElem?_append_left (hl ▸ hi : i < ns.length)]
    rw [g1 k (by omega), g2 k (by omega)]
    by_cases hn : bestTo ns ss k < 0
    · rw [if_pos (.inl hn), if_pos (.inl hn)]
    · rw [g1 _ (by omega), g2 _ (by omega)]
/-- The best of some nodes: its name, how good it is. -/
def bestSt (good : NodeD → Int) (c : List NodeD) : ByteArray × Int :=
  let b := (bestTo (c.map (·.name)) (c.map good) c.length).toNat
  ((c.map (·.name)).getD b ⟨#[]⟩, (c.map good).getD b 0)
theorem bestSt_snoc {good : NodeD → Int} {c : List NodeD} {n : NodeD} (hs : ∀ y ∈ c, sLt n.name y.name = false) : bestSt good (c ++ [n]) = if c = [] ∨ (bestSt good c).2 < good n then (n.name, good n) else bestSt good c := by
  have hb := bestTo_in (c.map (·.name)) (c.map good) c.length
  have hp := bestTo_pos (c.map (·.name)) (c.map good) c.length
  have hpre := bestTo_pre (ns := c.map (·.name)) (ns' := [n.name]) (ss := c.map good) (ss' := [good n]) (by simp) c.length (by simp)
  have hlast1 : (c.map (·.name) ++ [n.name]).getD c.length ⟨#[]⟩ = n.name := by simp [List.getD_eq_getElem?_getD]
  have hlast2 : (c.map good ++ [good n]).getD c.length 0 = good n := by simp [List.getD_eq_getElem?_getD]
  have hin1 : ∀ i, i < c.length → (c.map (·.name) ++ [n.name]).getD i ⟨#[]⟩ = (c.map (·.name)).getD i ⟨#[]⟩ := fun i hi => by simp [List.getD_eq_getElem?_getD, List.getElem?_append_left (show i < (c.map (·.name)).length by simpa using hi)]
  have hin2 : ∀ i, i < c.length → (c.map good ++ [good n]).getD i 0 = (c.map good).getD i 0 := fun i hi => by simp [List.getD_eq_getElem?_getD, List.getElem?_append_left (show i < (c.map good).length by simpa using hi)]
  unfold bestSt
  simp only [List.map_append, List.map_cons, List.map_nil, List.length_append, List.length_cons, List.length_nil, bestTo]
  rw [hpre]
  generalize hB : bestTo (c.map (·.name)) (c.map good) c.length = B at hb hp ⊢
  by_cases hc : c = []
  · subst hc
    have hB0 : B < 0 := by simp only [List.length_nil] at hb; omega
    rw [if_pos (.inl hB0), if_pos (.inl rfl)]
    rfl
  · have hlen : 0 < c.length := List.length_pos_iff.2 hc
    have hB0 := hp hlen
    have hBl : B.toNat < c.length := by omega
    rw [hlast1, hlast2, hin1 _ hBl, hin2 _ hBl]
    have hname : sLt n.name ((c.map (·.name)).getD B.toNat ⟨#[]⟩) = false := by
      have : (c.map (·.name)).getD B.toNat ⟨#[]⟩ = (c[B.toNat]).name := by simp [List.getD_eq_getElem?_getD, hBl]
      rw [this]; exact hs _ (List.getElem_mem _)
    by_cases hlt : (c.map good).getD B.toNat 0 < good n
    · rw [if_pos (.inr (.inl hlt)), if_pos (.inr hlt)]
      simp only [Int.toNat_natCast, hlast1, hlast2]
    · rw [if_neg (by rintro (h | h | h); exact absurd h (by omega); exact hlt h; rw [hname] at h; exact absurd h.2 (by simp)), if_neg (by rintro (h | h); exact hc h; exact hlt h)]
      rw [hin1 _ hBl, hin2 _ hBl]
theorem nodes_sorted {S : LedD} {kk : Nat} (hi : LedInv S kk) {i j : Nat} (hij : i < j) (hj : j < (nodesOf S).length) : sLt (nodesOf S)[j].name ((nodesOf S)[i]'(by omega)).name = false := by
  have h1 : (nodesOf S).map (·.name) = (sortK S.nodes).map (·.1) := by
    unfold nodesOf
    rw [List.map_map]
    exact List.map_congr_left fun p hp => hi.nodes.key p (mem_sortK.1 hp) ▸ rfl
  have h2 := skeys_sorted S.nodes
  rw [← h1] at h2
  have := (List.pairwise_iff_getElem.1 h2) i j (by rw [List.length_map]; omega) (by rw [List.length_map]; exact hj) hij
  simpa using this
theorem uC_nil (S : LedD) (nm : ByteArray) : uC S [] nm = usedC S.taken nm ∧ uM S [] nm = usedM S.taken nm ∧ uN S [] nm = usedN S.taken nm := by
  refine ⟨?_, ?_, ?_⟩ <;> simp [uC, uM, uN, needC, needM, needN, needF]
theorem spot_best {S : LedD} {mode : Int} {p : PodD} : spotP S [] mode p = if candN S [] p (nodesOf S) = [] then none else some ⟨p.name, (bestSt (goodP S [] mode p) (candN S [] p (nodesOf S))).1, p.cpu, p.mem, p.alone⟩ := by
  by_cases hc : candN S [] p (nodesOf S) = []
  · rw [if_pos hc, spot_none.2 hc]
  · rw [if_neg hc]
    have := bestTo_pos ((candN S [] p (nodesOf S)).map (·.name)) ((candN S [] p (nodesOf S)).map (goodP S [] mode p)) _ (List.length_pos_iff.2 hc)
    unfold spotP
    simp only
    rw [if_neg (by omega)]
    rfl
theorem packE_one {S : LedD} {g : Int} {p : PodD} {mode : Int} (hz : tk S.taken g = []) : packE S g [p] mode = (match spotP S [] mode p with | none => 6 | some _ => 0) ∧ packL S g [p] mode = (match spotP S [] mode p with | none => [] | some x => [x]) := by
  have h0 : ¬ 0 < (tk S.taken g).length := by rw [hz]; simp
  unfold packE packL
  rw [if_neg h0, if_neg h0, if_neg (by simp), if_neg (by simp)]
  simp only [allP]
  rcases opt_cases (spotP S [] mode p) with e | ⟨x, e⟩ <;> rw [e] <;> exact ⟨rfl, rfl⟩
theorem bestSt_empty {S : LedD} {kk : Nat} (hi : LedInv S kk) {good : NodeD → Int} {c : List NodeD} (hc : ∀ n ∈ c, n ∈ nodesOf S) : (bestSt good c).1 = ⟨#[]⟩ ↔ c = [] := by
  constructor
  · intro h
    refine Classical.byContradiction fun hne => ?_
    have hlen := List.length_pos_iff.2 hne
    have hp := bestTo_pos (c.map (·.name)) (c.map good) c.length hlen
    have hb := bestTo_in (c.map (·.name)) (c.map good) c.length
    unfold bestSt at h
    simp only at h
    have hlt : (bestTo (c.map (·.name)) (c.map good) c.length).toNat < c.length := by omega
    have e : (c.map (·.name)).getD (bestTo (c.map (·.name)) (c.map good) c.length).toNat ⟨#[]⟩ = (c[(bestTo (c.map (·.name)) (c.map good) c.length).toNat]).name := by simp [List.getD_eq_getElem?_getD, hlt]
    rw [e] at h
    have h1 := fine_name (node_asg hi (hc _ (List.getElem_mem hlt))).2
    rw [h] at h1
    exact absurd h1 (by decide +kernel)
  · rintro rfl; rfl
theorem best8_c (ns ms : List Int) (pn : Int) (hpn : I64 pn) (mode : Int) (hm : I64 mode) (vn vm : Value) (w : World) (hT : TopsAt (hp w)) (hr : RepL (hp w) vn ns) (hrm : RepL (hp w) vm ms) : Calls Tryz.prog 6 #[vn, vm, .int .i64 pn, .int .i64 mode] w fun e w' => e = .returned (.bool true) ∧ Below w.heap.size w w' := by
  obtain ⟨an, cn, rfl⟩ := hr.form
  obtain ⟨am, cm, rfl⟩ := hrm.form
  have hi := bothOf_inv ns ms
  have hl3 := bothOf_len ns ms
  have hks := bothOf_keys ns ms
  obtain ⟨q1, q2⟩ := wmod mode 3 (by omega)
  refine RS.enter Tryz.func6 Tryz.ntmps6 rfl rfl ?_
  (repeat (first | refine RS.seq ?_ | refine RS.region ?_ | refine RS.regionQ ?_ (by kernel_rfl) (by kernel_rfl) | refine RS.skip ?_ | refine RS.inBlock ?_ | refine RS.block ?_ | refine RS.exit ?_)); refine asB ?_; refine LS.done ?_
  (repeat (first | refine RS.seq ?_ | refine RS.region ?_ | refine RS.regionQ ?_ (by kernel_rfl) (by kernel_rfl) | refine RS.skip ?_ | refine RS.inBlock ?_ | refine RS.block ?_ | refine RS.exit ?_)); skip
  refine callP ?_ (hc := fun w' hw => known8_c w' (hT.mono hw.imm))
  refine not_ ?_; refine LS.done ?_
  (repeat (first | refine RS.seq ?_ | refine RS.region ?_ | refine RS.regionQ ?_ (by kernel_rfl) (by kernel_rfl) | refine RS.skip ?_ | refine RS.inBlock ?_ | refine RS.block ?_ | refine RS.exit ?_)); refine RS.condF ?_
  (repeat (first | refine RS.seq ?_ | refine RS.region ?_ | refine RS.regionQ ?_ (by kernel_rfl) (by kernel_rfl) | refine RS.skip ?_ | refine RS.inBlock ?_ | refine RS.block ?_ | refine RS.exit ?_)); refine mvL ?_; refine mvL ?_
  refine bothLL ns ms _ _ hr hrm (fun bl br σ1 hle1 => ?_)
  refine mvT ?_; refine extr (v := .pointer _) ?_; refine extr (v := .pointer _) ?_; refine asP ?_; refine asP ?_; refine LS.done ?_
  (repeat (first | refine RS.seq ?_ | refine RS.region ?_ | refine RS.regionQ ?_ (by kernel_rfl) (by kernel_rfl) | refine RS.skip ?_ | refine RS.inBlock ?_ | refine RS.block ?_ | refine RS.exit ?_)); refine mvP ?_; refine bin_eql_P ?_; refine LS.done ?_
  (repeat (first | refine RS.seq ?_ | refine RS.region ?_ | refine RS.regionQ ?_ (by kernel_rfl) (by kernel_rfl) | refine RS.skip ?_ | refine RS.inBlock ?_ | refine RS.block ?_ | refine RS.exit ?_)); refine RS.condF ?_
  obtain ⟨S, hS⟩ : ∃ S, S = bothOf ns ms := ⟨_, rfl⟩
  rw [← hS] at hi hl3 hks
  rw [← hS]
  have htk : tk S.taken 8 = [] := keys_none hks (by omega)
  (repeat (first | refine RS.seq ?_ | refine RS.region ?_ | refine RS.regionQ ?_ (by kernel_rfl) (by kernel_rfl) | refine RS.skip ?_ | refine RS.inBlock ?_ | refine RS.block ?_ | refine RS.exit ?_)); refine mvI ?_
  refine callT (fun v τ => RepA τ v (podOf 0 pn 1)) (fun v35 τ2 σ2 hq2 hN2 hle2 hτ2 => ?_) (fun w' hw => lpod_c 0 pn 1 (by omega) hpn (by omega) w')
  obtain ⟨cs, rfl, hrp⟩ := hq2
  obtain ⟨p, hpd⟩ : ∃ p, p = podOf 0 pn 1 := ⟨_, rfl⟩
  rw [← hpd] at hrp
  have hrp0 := Rep.mono hrp hτ2
  obtain ⟨vp, vb, rfl, hpn1, hpS, hpc, hpm, hv1, hv2⟩ := hrp
  obtain ⟨a1, c1, rfl⟩ := hv1.form
  obtain ⟨a2, c2, rfl⟩ := hv2.form
  refine alloc_ (fun b11 => ?_); refine st (.agg _) _ ?_; refine LS.done ?_
  (repeat (first | refine RS.seq ?_ | refine RS.region ?_ | refine RS.regionQ ?_ (by kernel_rfl) (by kernel_rfl) | refine RS.skip ?_ | refine RS.inBlock ?_ | refine RS.block ?_ | refine RS.exit ?_)); refine asS ?_; refine asI ?_; refine LS.done ?_
  (repeat (first | refine RS.seq ?_ | refine RS.region ?_ | refine RS.regionQ ?_ (by kernel_rfl) (by kernel_rfl) | refine RS.skip ?_ | refine RS.inBlock ?_ | refine RS.block ?_ | refine RS.exit ?_)); refine mvP ?_
  refine rnodesL hi (by omega) (fun v37 σ3 hle3 hr37 => ?_)
  obtain ⟨a37, c37, rfl⟩ := hr37.form
  refine asL ?_; refine LS.done ?_
  have hN8 := hi.nodes_len
  have hsort := fun i j => nodes_sorted (i := i) (j := j) hi
  have hE := packE_one (p := p) (mode := mode % 3) htk
  have hspot := spot_best (S := S) (mode := mode % 3) (p := p)
  obtain ⟨N, hN⟩ : ∃ N, N = nodesOf S := ⟨_, rfl⟩
  have hmemN : ∀ n ∈ N, asg S.nodes n.name = some n ∧ nodeErr n = 0 := by rw [hN]; exact fun n hn => node_asg hi hn
  rw [← hN] at hr37 hN8 hspot
  (repeat (first | refine RS.seq ?_ | refine RS.region ?_ | refine RS.regionQ ?_ (by kernel_rfl) (by kernel_rfl) | refine RS.skip ?_ | refine RS.inBlock ?_ | refine RS.block ?_ | refine RS.exit ?_)); refine asI ?_; refine LS.done ?_
  obtain ⟨m, hmm⟩ : ∃ m, m = mode % 3 := ⟨_, rfl⟩
  rw [← hmm] at hE hspot
  have hle13 := PH.le_trans hle2 hle3
  (repeat (first | refine RS.seq ?_ | refine RS.region ?_ | refine RS.regionQ ?_ (by kernel_rfl) (by kernel_rfl) | refine RS.skip ?_ | refine RS.inBlock ?_ | refine RS.block ?_ | refine RS.exit ?_))
  refine RS.loopF (X := Nat × PH) 12 151 (fun x => x.1 ≤ N.length ∧ PH.le σ3 x.2) (fun x => [(12, .string (bestSt (goodP S [] m p) (candN S [] p (N.take x.1))).1), (13, .int .i64 (bestSt (goodP S [] m p) (candN S [] p (N.take x.1))).2), (14, .slice a37 N.length c37), (15, .int .i64 x.1)]) (fun x => x.2) (fun x => [blk b11 (.cells (List.toArray (podC p (.slice a1 p.picks.length c1) (.slice a2 p.bears.length c2))) 52 (0, 0)), ledHP bl S, refHP br S]) (fun x => N.length - x.1) (0, σ3) ⟨Nat.zero_le _, PH.le_refl _⟩ ⟨rfl, rfl, by rw [hN]; rfl, rfl, trivial⟩ rfl ⟨fun h => h⟩ ?_
  rintro ⟨k, σ4⟩ g4 ⟨(hk1 : k ≤ N.length), (hle4 : PH.le σ3 σ4)⟩ ih
  dsimp only
  (repeat (first | refine RS.seq ?_ | refine RS.region ?_ | refine RS.regionQ ?_ (by kernel_rfl) (by kernel_rfl) | refine RS.skip ?_ | refine RS.inBlock ?_ | refine RS.block ?_ | refine RS.exit ?_)); refine mvI ?_; refine mvL ?_; refine lenL ?_; refine ltI ?_; refine LS.done ?_
  (repeat (first | refine RS.seq ?_ | refine RS.region ?_ | refine RS.regionQ ?_ (by kernel_rfl) (by kernel_rfl) | refine RS.skip ?_ | refine RS.inBlock ?_ | refine RS.block ?_ | refine RS.exit ?_))
  by_cases hlt : k < N.length
  · refine RS.condT ?_ (h := by simp; omega)
    obtain ⟨bN, oN, rfl, hrowN⟩ := hr37.addr (List.ne_nil_of_length_pos (by omega))
    obtain ⟨vsN, hcN, hrN⟩ := (hrowN.mono hle4) k hlt
    have hct := cand_take (S := S) (own := []) (p := p) hlt
    have hsrt : ∀ y ∈ candN S [] p (N.take k), sLt N[k].name y.name = false := fun y hy => by
      obtain ⟨i, hi', rfl⟩ := List.mem_iff_getElem.1 (List.mem_filter.1 hy).1
      rw [List.length_take] at hi'
      rw [List.getElem_take]
      subst hN
      exact hsort i k (by omega) hlt
    obtain ⟨hasg, herr⟩ := hmemN N[k] (List.getElem_mem _)
    obtain ⟨n, hn⟩ : ∃ n, n = N[k] := ⟨_, rfl⟩
    rw [← hn] at hrN hct hasg herr hsrt
    obtain ⟨vm, vt, rfl, hn1, hn2, hn3, hn4, hn5⟩ := hrN
    obtain ⟨a3, c3, rfl⟩ := hn4.form
    obtain ⟨a4, c4, rfl⟩ := hn5.form
    have hrn0 : Rep.rep σ4 (nodeC n (.slice a3 n.marks.length c3) (.slice a4 n.taints.length c4)) n := ⟨_, _, rfl, hn1, hn2, hn3, hn4, hn5⟩
    have hcN : ∀ j, j < 6 → σ4.cell bN (oN + k * 6 + j) = (nodeC n (.slice a3 n.marks.length c3) (.slice a4 n.taints.length c4))[j]? := hcN
    have hcap := fine_cap herr
    have hin := uC_in hi (by omega) (OwnOk.nil hi) n.name
    obtain ⟨e1, e2, e3⟩ := uC_nil S n.name
    have hcnt := hi.count n.name
    have hun : 0 ≤ usedN S.taken n.name := by
      have := usedF_in (f := fun _ => 1) (H := S.taken) (nm := n.name) (fun _ _ _ _ => by simp) S.taken.length
      rw [List.take_length] at this; exact this.1
    have hmayd : mayP S [] p n = decide (whyP p n (usedC S.taken n.name) (usedM S.taken n.name) [] = 0) := by unfold mayP; rw [e1, e2]; rfl
    have hgood : goodP S [] m p n = scoreP m (leftP n (usedC S.taken n.name) (usedM S.taken n.name) p) (usedN S.taken n.name) := by unfold goodP; rw [e1, e2, e3]
    rw [e1, e2] at hin
    obtain ⟨u, hu⟩ : ∃ u, u = usedC S.taken n.name := ⟨_, rfl⟩
    obtain ⟨v, hv⟩ : ∃ v, v = usedM S.taken n.name := ⟨_, rfl⟩
    obtain ⟨q, hq⟩ : ∃ q, q = usedN S.taken n.name := ⟨_, rfl⟩
    have hname : σ4.cell bN (oN + k * 6 + 0) = some (.string n.name) := hcN 0 (by decide)
    (repeat (first | refine RS.seq ?_ | refine RS.region ?_ | refine RS.regionQ ?_ (by kernel_rfl) (by kernel_rfl) | refine RS.skip ?_ | refine RS.inBlock ?_ | refine RS.block ?_ | refine RS.exit ?_)); refine mvP ?_; refine mvL ?_; refine mvI ?_; refine idx (i := k) ?_; refine fld ?_; refine ldS hname ?_
    refine rusedL n.name hi (by omega) (by omega) ?_
    rw [← hu, ← hv, ← hq] at hgood
    rw [← hu, ← hv] at hin hmayd
    rw [← hq] at hcnt hun
    rw [← hu, ← hv, ← hq]
    refine mvT ?_; refine extr (v := _) ?_; refine extr (v := .int _ _) ?_; refine alloc_ (fun b16 => ?_); refine st (.agg _) _ ?_; refine asI ?_; refine LS.done ?_
    have hle24 := PH.le_trans hle3 hle4
    (repeat (first | refine RS.seq ?_ | refine RS.region ?_ | refine RS.skip ?_ | refine RS.inBlock ?_ | refine RS.block ?_ | refine RS.exit ?_)); refine RS.drawK [.ex, .free, .free, .free, .ex, .ex, .ex, .free] ?_ (by kernel_rfl) (by kernel_rfl); refine D.ldA (podC p (.slice a1 p.picks.length c1) (.slice a2 p.bears.length c2)) ?_; refine D.mvL ?_; refine D.mvI ?_; refine D.idx (i := k) ?_; refine D.ldSA (vs := nodeC n (.slice a3 n.marks.length c3) (.slice a4 n.taints.length c4)) rfl hcN ?_; refine D.ldA [.int .i64 u, .int .i64 v] ?_
    refine D.callP ?_ (hc := fun us σ' w' hle hf hw => rwhy_c p n a1 a2 a3 a4 c1 c2 c3 c4 u v [] (.slice none 0 0) (by show I64 _; omega) (by show I64 _; omega) w' (Rep.mono hrp0 (PH.le_trans hle24 (PH.le_trans hle hw.imm))) (Rep.mono hrn0 (PH.le_trans hle hw.imm)) (RepL.nil _ _ _))
    refine D.neI ?_; refine D.done (fun us σ1 hle1 hfs => ?_)
    refine RS.ow ?_
    have k13 := hle1
    (repeat (first | refine RS.seq ?_ | refine RS.region ?_ | refine RS.skip ?_ | refine RS.inBlock ?_ | refine RS.block ?_ | refine RS.exit ?_))
    refine RS.cond (fun z => ?_) (fun z => ?_)
    · have z : ¬ whyP p n u v [] = 0 := by simpa using z
      rw [hmayd, decide_eq_false z, if_neg (by simp), List.append_nil] at hct
      (repeat (first | refine RS.seq ?_ | refine RS.region ?_ | refine RS.regionQ ?_ (by kernel_rfl) (by kernel_rfl) | refine RS.skip ?_ | refine RS.inBlock ?_ | refine RS.block ?_ | refine RS.exit ?_)); refine mvI ?_; (first | refine addN ?_ | refine addI ?_); refine asI ?_; refine LS.done ?_; (repeat (first | refine RS.seq ?_ | refine RS.region ?_ | refine RS.regionQ ?_ (by kernel_rfl) (by kernel_rfl) | refine RS.skip ?_ | refine RS.inBlock ?_ | refine RS.block ?_ | refine RS.exit ?_))
      exact ih (k + 1, _) ⟨hlt, PH.le_trans hle4 k13⟩ (by (try dsimp only); omega) ⟨by dsimp only; rw [hct]; rfl, by dsimp only; rw [hct]; rfl, rfl, rfl, trivial⟩ (by repeat (first | with_reducible exact Out.refl _ _ _ | exact Out.hv | refine Out.upd ?_ | refine Out.hvIn ?_)) ⟨fun h => h.tail⟩ rfl
    · have z : whyP p n u v [] = 0 := by simpa using z
      rw [hmayd, decide_eq_true z, if_pos rfl] at hct
      have hst := bestSt_snoc (good := goodP S [] m p) hsrt
      rw [← hct] at hst
      obtain ⟨hpp, hf1, hf2⟩ := (fitP_iff hin.1 hin.2 hcap).1 (whyP_zero z).2.2.2.1
      have hcN1 := PH.cells_mono k13 (n := 6) (vs := nodeC n (.slice a3 n.marks.length c3) (.slice a4 n.taints.length c4)) rfl hcN
      obtain ⟨σ5, hσ5⟩ : ∃ σ5, σ5 = σ1 := ⟨_, rfl⟩
      rw [← hσ5] at hcN1 k13 ⊢
      clear hσ5 hle1
      have hcc : σ5.cell bN (oN + k * 6 + 1 + 0) = some (.int .i64 n.cpu) := hcN1 1 (by decide)
      have hcm : σ5.cell bN (oN + k * 6 + 1 + 1) = some (.int .i64 n.mem) := hcN1 2 (by decide)
      refine RS.skip ?_
      (repeat (first | refine RS.seq ?_ | refine RS.region ?_ | refine RS.regionQ ?_ (by kernel_rfl) (by kernel_rfl) | refine RS.skip ?_ | refine RS.inBlock ?_ | refine RS.block ?_ | refine RS.exit ?_)); refine asI ?_; refine LS.done ?_
      (repeat (first | refine RS.seq ?_ | refine RS.region ?_ | refine RS.skip ?_ | refine RS.inBlock ?_ | refine RS.block ?_ | refine RS.exit ?_)); refine RS.drawK [.free, .free, .free, .free, .free, .ex, .free, .ex, .free, .free, .free, .ex, .free, .free, .free, .free, .free, .free, .ex, .free, .ex, .free, .free, .free, .ex, .free, .free, .own, .st] ?_ (by kernel_rfl) (by kernel_rfl); refine D.mvL ?_; refine D.mvI ?_; refine D.idx (i := k) ?_; refine D.fld ?_; refine D.fld ?_; refine D.ldS hcc ?_; refine D.fld ?_; refine D.ld1 (v := .int .i64 u) ?_; (first | refine D.subN ?_ | refine D.subI ?_); refine D.fld ?_; refine D.fld ?_; refine D.ld1 (v := .int .i64 p.cpu) ?_; (first | refine D.subN ?_ | refine D.subI ?_); refine D.mvL ?_; refine D.mvI ?_; refine D.idx (i := k) ?_; refine D.fld ?_; refine D.fld ?_; refine D.ldS hcm ?_; refine D.fld ?_; refine D.ld1 (v := .int .i64 v) ?_; (first | refine D.subN ?_ | refine D.subI ?_); refine D.fld ?_; refine D.fld ?_; refine D.ld1 (v := .int .i64 p.mem) ?_; (first | refine D.subN ?_ | refine D.subI ?_); refine D.bld (vals := [(0, .int _ _), (1, .int _ _)]) [_, _] ?_; refine D.alloc_ ?_
      refine D.stO (fun _ => [.int .i64 (n.cpu - u - p.cpu), .int .i64 (n.mem - v - p.mem)]) ?_ (fun us σ' hle hf => ⟨rfl, rfl, rfl⟩)
      refine D.done (fun us σ1 hle1 hfs => ?_)
      refine RS.ow ?_
      refine RS.openOwn (fun b19 h19 => ?_); refine RS.as 19 (.pointer (some ⟨b19, 0, none⟩)) h19 ?_
      have hcc1 := PH.cell_mono hle1 hcc
      have hcm1 := PH.cell_mono hle1 hcm
      have k15 := hle1
      obtain ⟨σ6, hσ6⟩ : ∃ σ6, σ6 = σ1 := ⟨_, rfl⟩
      rw [← hσ6] at hcc1 hcm1 k15 ⊢
      clear hσ6 hle1
      have b1 := partP_in hin.1.1 hpp.1 hf1
      have b2 := partP_in hin.2.1 hpp.2 hf2
      (repeat (first | refine RS.seq ?_ | refine RS.region ?_ | refine RS.regionQ ?_ (by kernel_rfl) (by kernel_rfl) | refine RS.skip ?_ | refine RS.inBlock ?_ | refine RS.block ?_ | refine RS.exit ?_)); refine asI ?_; refine asI ?_; refine LS.done ?_
      (repeat (first | refine RS.seq ?_ | refine RS.region ?_ | refine RS.regionQ ?_ (by kernel_rfl) (by kernel_rfl) | refine RS.skip ?_ | refine RS.inBlock ?_ | refine RS.block ?_ | refine RS.exit ?_)); refine mvL ?_; refine mvI ?_; refine idx (i := k) ?_; refine fld ?_; refine fld ?_; refine ldS hcc1 ?_; refine gtI ?_; refine LS.done ?_
      (repeat (first | refine RS.seq ?_ | refine RS.region ?_ | refine RS.skip ?_ | refine RS.inBlock ?_ | refine RS.block ?_ | refine RS.exit ?_))
      refine RS.cut (X := PH) 20 106 (fun x => PH.le σ6 x) (fun x => [(20, .int .i64 (partP n.cpu u p.cpu)), (21, .int .i64 100)]) (fun x => x) (fun _ => [blk b19 (.cells (List.toArray [.int .i64 (n.cpu - u - p.cpu), .int .i64 (n.mem - v - p.mem)]) 44 (0, 0)), blk b11 (.cells (List.toArray (podC p (.slice a1 p.picks.length c1) (.slice a2 p.bears.length c2))) 52 (0, 0)), ledHP bl S, refHP br S]) ?_ (fun J => ?_)
      rotate_left
      · refine RS.cond (fun y => ?_) (fun y => ?_)
        · have y := of_decide_eq_true y
          (repeat (first | refine RS.seq ?_ | refine RS.region ?_ | refine RS.skip ?_ | refine RS.inBlock ?_ | refine RS.block ?_ | refine RS.exit ?_)); refine RS.drawK [.free, .ex, .free, .free, .free, .free, .free, .free, .ex, .free, .free] ?_ (by kernel_rfl) (by kernel_rfl); refine D.fld ?_; refine D.ld1 (v := .int .i64 (n.cpu - u - p.cpu)) ?_; refine D.mulI ?_; rw [wrapEq (x := 100 * (n.cpu - u - p.cpu)) (by omega) (by omega)]; refine D.mvL ?_; refine D.mvI ?_; refine D.idx (i := k) ?_; refine D.fld ?_; refine D.fld ?_; refine D.ldS hcc1 ?_; refine D.quoN ?_ (ha := by show I64 _; omega) (hb := by omega); refine D.asI ?_; refine D.done (fun us σ1 hle1 hfs => ?_)
          refine RS.ow ?_
          exact J _ hle1 ⟨intV (by rw [partP, if_neg (by omega)]), rfl, trivial⟩ (by repeat (first | with_reducible exact Out.refl _ _ _ | exact Out.hv | refine Out.upd ?_ | refine Out.hvIn ?_)) ⟨fun h => SepIn.cons_sub (fun _ h => h.tail) h⟩ rfl
        · have y := of_decide_eq_false y
          refine RS.skip ?_
          exact J _ (PH.le_refl _) ⟨intV (by rw [partP, if_pos (by omega)]), rfl, trivial⟩ (by repeat (first | with_reducible exact Out.refl _ _ _ | exact Out.hv | refine Out.upd ?_ | refine Out.hvIn ?_)) ⟨fun h => SepIn.cons_sub (fun _ h => h.tail) h⟩ rfl
      rintro σ7 g7 hle7
      have hcm7 := PH.cell_mono hle7 hcm1
      (repeat (first | refine RS.seq ?_ | refine RS.region ?_ | refine RS.regionQ ?_ (by kernel_rfl) (by kernel_rfl) | refine RS.skip ?_ | refine RS.inBlock ?_ | refine RS.block ?_ | refine RS.exit ?_)); refine mvL ?_; refine mvI ?_; refine idx (i := k) ?_; refine fld ?_; refine fld ?_; refine ldS hcm7 ?_; refine gtI ?_; refine LS.done ?_
      (repeat (first | refine RS.seq ?_ | refine RS.region ?_ | refine RS.skip ?_ | refine RS.inBlock ?_ | refine RS.block ?_ | refine RS.exit ?_))
      refine RS.cut (X := PH) 21 123 (fun x => PH.le σ7 x) (fun x => [(21, .int .i64 (partP n.mem v p.mem))]) (fun x => x) (fun _ => [blk b11 (.cells (List.toArray (podC p (.slice a1 p.picks.length c1) (.slice a2 p.bears.length c2))) 52 (0, 0)), ledHP bl S, refHP br S]) ?_ (fun J => ?_)
      rotate_left
      · refine RS.cond (fun y => ?_) (fun y => ?_)
        · have y := of_decide_eq_true y
          (repeat (first | refine RS.seq ?_ | refine RS.region ?_ | refine RS.skip ?_ | refine RS.inBlock ?_ | refine RS.block ?_ | refine RS.exit ?_)); refine RS.drawK [.free, .ex, .free, .free, .free, .free, .free, .free, .ex, .free, .free] ?_ (by kernel_rfl) (by kernel_rfl); refine D.fld ?_; refine D.ld1 (v := .int .i64 (n.mem - v - p.mem)) ?_; refine D.mulI ?_; rw [wrapEq (x := 100 * (n.mem - v - p.mem)) (by omega) (by omega)]; refine D.mvL ?_; refine D.mvI ?_; refine D.idx (i := k) ?_; refine D.fld ?_; refine D.fld ?_; refine D.ldS hcm7 ?_; refine D.quoN ?_ (ha := by show I64 _; omega) (hb := by omega); refine D.asI ?_; refine D.done (fun us σ1 hle1 hfs => ?_)
          refine RS.ow ?_
          exact J _ hle1 ⟨intV (by rw [partP, if_neg (by omega)]), trivial⟩ (by repeat (first | with_reducible exact Out.refl _ _ _ | exact Out.hv | refine Out.upd ?_ | refine Out.hvIn ?_)) ⟨fun h => h.tail⟩ rfl
        · have y := of_decide_eq_false y
          refine RS.skip ?_
          exact J _ (PH.le_refl _) ⟨intV (by rw [partP, if_pos (by omega)]), trivial⟩ (by repeat (first | with_reducible exact Out.refl _ _ _ | exact Out.hv | refine Out.upd ?_ | refine Out.hvIn ?_)) ⟨fun h => h.tail⟩ rfl
      rintro σ8 g8 hle8
      (repeat (first | refine RS.seq ?_ | refine RS.region ?_ | refine RS.regionQ ?_ (by kernel_rfl) (by kernel_rfl) | refine RS.skip ?_ | refine RS.inBlock ?_ | refine RS.block ?_ | refine RS.exit ?_)); refine mvI ?_
      refine callP ?_ (hc := fun w _ => w8_c _ _ (by omega) (by omega) w)
      rw [← hmm]
      refine LS.done ?_
      have hm2 : m = 0 ∨ m = 1 ∨ m = 2 := by omega
      unfold leftP at hgood
      obtain ⟨pa, hpa⟩ : ∃ pa, pa = partP n.cpu u p.cpu := ⟨_, rfl⟩
      obtain ⟨pb, hpb⟩ : ∃ pb, pb = partP n.mem v p.mem := ⟨_, rfl⟩
      rw [← hpa, ← hpb] at hgood
      rw [← hpa] at b1
      rw [← hpb] at b2
      rw [← hpa, ← hpb]
      repeat refine RS.seq ?_
      refine RS.cut (X := Unit) 18 138 (fun _ => True) (fun _ => [(18, .int .i64 (goodP S [] m p n))]) (fun _ => σ8) (fun _ => [blk b11 (.cells (List.toArray (podC p (.slice a1 p.picks.length c1) (.slice a2 p.bears.length c2))) 52 (0, 0)), ledHP bl S, refHP br S]) ?_ (fun J => ?_)
      rotate_left
      · (repeat (first | refine RS.seq ?_ | refine RS.region ?_ | refine RS.regionQ ?_ (by kernel_rfl) (by kernel_rfl) | refine RS.skip ?_ | refine RS.inBlock ?_ | refine RS.block ?_ | refine RS.exit ?_)); refine eqI ?_; refine asB ?_; refine LS.done ?_
        (repeat (first | refine RS.seq ?_ | refine RS.region ?_ | refine RS.skip ?_ | refine RS.inBlock ?_ | refine RS.block ?_ | refine RS.exit ?_))
        refine RS.cond (fun y => ?_) (fun y => ?_)
        · have y := of_decide_eq_true y
          (repeat (first | refine RS.seq ?_ | refine RS.region ?_ | refine RS.regionQ ?_ (by kernel_rfl) (by kernel_rfl) | refine RS.skip ?_ | refine RS.inBlock ?_ | refine RS.block ?_ | refine RS.exit ?_)); refine mvI ?_; refine mvI ?_; (first | refine addN ?_ | refine addI ?_); refine asI ?_; refine LS.done ?_; repeat refine RS.inBlock ?_
          exact J () trivial ⟨intV (x := pa + pb) (y := goodP S [] m p n) (by rw [hgood, scoreP, if_pos y]; omega), trivial⟩ (by repeat (first | with_reducible exact Out.refl _ _ _ | exact Out.hv | refine Out.upd ?_ | refine Out.hvIn ?_)) ⟨fun h => h⟩ rfl
        · have y := of_decide_eq_false y
          (repeat (first | refine RS.seq ?_ | refine RS.region ?_ | refine RS.regionQ ?_ (by kernel_rfl) (by kernel_rfl) | refine RS.skip ?_ | refine RS.inBlock ?_ | refine RS.block ?_ | refine RS.exit ?_)); refine eqI ?_; refine asB ?_; refine LS.done ?_
          (repeat (first | refine RS.seq ?_ | refine RS.region ?_ | refine RS.skip ?_ | refine RS.inBlock ?_ | refine RS.block ?_ | refine RS.exit ?_))
          refine RS.cond (fun y1 => ?_) (fun y1 => ?_)
          · have y1 := of_decide_eq_true y1
            (repeat (first | refine RS.seq ?_ | refine RS.region ?_ | refine RS.regionQ ?_ (by kernel_rfl) (by kernel_rfl) | refine RS.skip ?_ | refine RS.inBlock ?_ | refine RS.block ?_ | refine RS.exit ?_)); refine mvI ?_; (first | refine subN ?_ | refine subI ?_); refine mvI ?_; (first | refine subN ?_ | refine subI ?_); refine asI ?_; refine LS.done ?_; repeat refine RS.inBlock ?_
            exact J () trivial ⟨intV (x := 200 - pa - pb) (y := goodP S [] m p n) (by rw [hgood, scoreP, if_neg y, if_pos y1]; omega), trivial⟩ (by repeat (first | with_reducible exact Out.refl _ _ _ | exact Out.hv | refine Out.upd ?_ | refine Out.hvIn ?_)) ⟨fun h => h⟩ rfl
          · have y1 := of_decide_eq_false y1
            (repeat (first | refine RS.seq ?_ | refine RS.region ?_ | refine RS.regionQ ?_ (by kernel_rfl) (by kernel_rfl) | refine RS.skip ?_ | refine RS.inBlock ?_ | refine RS.block ?_ | refine RS.exit ?_)); refine mvI ?_; (first | refine subN ?_ | refine subI ?_); refine asI ?_; refine LS.done ?_; repeat refine RS.inBlock ?_
            exact J () trivial ⟨intV (x := 1000 - q) (y := goodP S [] m p n) (by rw [hgood, scoreP, if_neg y, if_neg y1, if_pos (by omega)]), trivial⟩ (by repeat (first | with_reducible exact Out.refl _ _ _ | exact Out.hv | refine Out.upd ?_ | refine Out.hvIn ?_)) ⟨fun h => h⟩ rfl
      rintro _ g9 _
      obtain ⟨gd, hgd⟩ : ∃ gd, gd = goodP S [] m p n := ⟨_, rfl⟩
      rw [← hgd] at hst ⊢
      obtain ⟨c, hcd⟩ : ∃ c, c = candN S [] p (N.take k) := ⟨_, rfl⟩
      have hemp := bestSt_empty hi (good := goodP S [] m p) (c := candN S [] p (N.take k)) (fun x hx => by rw [← hN]; exact List.mem_of_mem_take (List.mem_filter.1 hx).1)
      rw [← hcd] at hemp hst ⊢
      obtain ⟨bs, hbs⟩ : ∃ bs, bs = bestSt (goodP S [] m p) c := ⟨_, rfl⟩
      rw [← hbs] at hemp hst ⊢
      have hle48 := PH.le_trans k13 (PH.le_trans k15 (PH.le_trans hle7 hle8))
      (repeat (first | refine RS.seq ?_ | refine RS.region ?_ | refine RS.regionQ ?_ (by kernel_rfl) (by kernel_rfl) | refine RS.skip ?_ | refine RS.inBlock ?_ | refine RS.block ?_ | refine RS.exit ?_)); refine mvS ?_; refine eqS ?_; refine mvB ?_
      refine LS.cut 140 145 [(144, .bool (decide (c = [] ∨ bs.2 < gd)))] (fun gg => ?_) (fun J => ?_)
      rotate_left
      · refine LS.part 140 (fun g1 => ?_) (fun g1 => ?_)
        · have g1 := hemp.1 (of_decide_eq_true g1)
          refine LS.off ?_; refine LS.off ?_; refine LS.off ?_; refine pk (v := .bool _) ?_; refine LS.done ?_
          exact J ⟨boolV (a := true) (by rw [decide_eq_true (show c = [] ∨ bs.2 < gd from .inl g1)]), trivial⟩ (by repeat (first | with_reducible exact Out.refl _ _ _ | exact Out.hv | refine Out.upd ?_ | refine Out.hvIn ?_))
        · have g1 : ¬ c = [] := fun h => of_decide_eq_false g1 (hemp.2 h)
          refine LS.on ?_; refine mvI ?_; refine LS.on ?_; refine mvI ?_; refine LS.on ?_; refine gtI ?_; refine pk (v := .bool _) ?_; refine LS.done ?_
          exact J ⟨boolV (a := decide (bs.2 < gd)) (decide_eq_decide.2 ⟨fun h => .inr h, fun h => h.elim (fun h => absurd h g1) id⟩), trivial⟩ (by repeat (first | with_reducible exact Out.refl _ _ _ | exact Out.hv | refine Out.upd ?_ | refine Out.hvIn ?_))
      (repeat (first | refine RS.seq ?_ | refine RS.region ?_ | refine RS.skip ?_ | refine RS.inBlock ?_ | refine RS.block ?_ | refine RS.exit ?_))
      refine RS.cond (fun y => ?_) (fun y => ?_)
      · have y := of_decide_eq_true y
        rw [if_pos y] at hst
        (repeat (first | refine RS.seq ?_ | refine RS.region ?_ | refine RS.regionQ ?_ (by kernel_rfl) (by kernel_rfl) | refine RS.skip ?_ | refine RS.inBlock ?_ | refine RS.block ?_ | refine RS.exit ?_)); refine mvL ?_; refine mvI ?_; refine idx (i := k) ?_; refine fld ?_; refine ldS (PH.cell_mono hle48 hname) ?_; refine mvI ?_; refine asS ?_; refine asI ?_; refine LS.done ?_
        (repeat (first | refine RS.seq ?_ | refine RS.region ?_ | refine RS.regionQ ?_ (by kernel_rfl) (by kernel_rfl) | refine RS.skip ?_ | refine RS.inBlock ?_ | refine RS.block ?_ | refine RS.exit ?_)); refine mvI ?_; (first | refine addN ?_ | refine addI ?_); refine asI ?_; refine LS.done ?_; (repeat (first | refine RS.seq ?_ | refine RS.region ?_ | refine RS.regionQ ?_ (by kernel_rfl) (by kernel_rfl) | refine RS.skip ?_ | refine RS.inBlock ?_ | refine RS.block ?_ | refine RS.exit ?_))
        exact ih (k + 1, _) ⟨hlt, PH.le_trans hle4 hle48⟩ (by (try dsimp only); omega) ⟨by dsimp only; rw [hst]; rfl, by dsimp only; rw [hst]; rfl, rfl, rfl, trivial⟩ (by repeat (first | with_reducible exact Out.refl _ _ _ | exact Out.hv | refine Out.upd ?_ | refine Out.hvIn ?_)) ⟨fun h => h⟩ rfl
      · have y := of_decide_eq_false y
        rw [if_neg y] at hst
        refine RS.skip ?_
        (repeat (first | refine RS.seq ?_ | refine RS.region ?_ | refine RS.regionQ ?_ (by kernel_rfl) (by kernel_rfl) | refine RS.skip ?_ | refine RS.inBlock ?_ | refine RS.block ?_ | refine RS.exit ?_)); refine mvI ?_; (first | refine addN ?_ | refine addI ?_); refine asI ?_; refine LS.done ?_; (repeat (first | refine RS.seq ?_ | refine RS.region ?_ | refine RS.regionQ ?_ (by kernel_rfl) (by kernel_rfl) | refine RS.skip ?_ | refine RS.inBlock ?_ | refine RS.block ?_ | refine RS.exit ?_))
        exact ih (k + 1, _) ⟨hlt, PH.le_trans hle4 hle48⟩ (by (try dsimp only); omega) ⟨by dsimp only; rw [hst]; rfl, by dsimp only; rw [hst]; rfl, rfl, rfl, trivial⟩ (by repeat (first | with_reducible exact Out.refl _ _ _ | exact Out.hv | refine Out.upd ?_ | refine Out.hvIn ?_)) ⟨fun h => h⟩ rfl
  · refine RS.condF ?_ (h := by simp; omega)
    clear ih
    obtain rfl : k = N.length := by omega
    rw [List.take_length]
    have hemp := bestSt_empty hi (good := goodP S [] m p) (c := candN S [] p N) (fun x hx => by rw [← hN]; exact (List.mem_filter.1 hx).1)
    obtain ⟨E, hEE⟩ : ∃ E, packE S 8 [p] m = E := ⟨_, rfl⟩
    obtain ⟨L, hLL⟩ : ∃ L, packL S 8 [p] m = L := ⟨_, rfl⟩
    rw [hEE, hLL] at hE
    have hle24 := PH.le_trans hle3 hle4
    refine RS.exit ?_
    (repeat (first | refine RS.seq ?_ | refine RS.region ?_ | refine RS.skip ?_ | refine RS.inBlock ?_ | refine RS.block ?_ | refine RS.exit ?_)); refine RS.draw [.free, .ex, .ex, .free, .ex, .eff, .ex, .ex, .ex, .ex, .ex] [blk b11 (.cells (List.toArray (podC p (.slice a1 p.picks.length c1) (.slice a2 p.bears.length c2))) 52 (0, 0))] ?_ (by kernel_rfl) (by kernel_rfl) (by infer_instance); refine D.mvP ?_; refine D.ldA (podC p (.slice a1 p.picks.length c1) (.slice a2 p.bears.length c2)) ?_; refine D.litT (α := PodD) (vs := fun _ => [.agg (List.toArray (podC p (.slice a1 p.picks.length c1) (.slice a2 p.bears.length c2)))]) 0 [p] ?_ (fun us σ' hle hf => ⟨by rw [fromN_zero]; exact Rep.mono hrp0 (PH.le_trans hle24 hle), trivial⟩); refine D.mvI ?_
    refine D.callP ?_ (hc := fun _ _ w _ _ _ => w8_c _ _ (by omega) (by omega) w)
    rw [← hmm]
    refine D.packT 8 [p] (fun us => us 154) m E L _ hi (by omega) (by simp) (hT.mono (PH.le_trans (by assumption) (PH.le_trans hle2 hle24))) hEE hLL rfl ?_ (fun us σ' hle hf => by have h : RepL (fromN 0 σ') (us 154) [p] := hf.1; rw [fromN_zero] at h; exact h)
    refine D.mvF8 (TP E L) (TP.mono _ _) ?_ (fun us σ' hle hf => hf.1)
    refine D.exT (TL L) (TL.mono _) ?_ (fun us σ' hle hf => by obtain ⟨v, h1, h2⟩ := hf.1; exact ⟨_, v, h1, rfl, h2⟩)
    refine D.exT (TI E) (TI.mono _) ?_ (fun us σ' hle hf => by obtain ⟨v, h1, h2⟩ := hf.2.1; exact ⟨_, _, h1, rfl, rfl⟩)
    refine D.asU (TL L) (TL.mono _) ?_ (fun us σ' hle hf => hf.2.1)
    refine D.asU (TI E) (TI.mono _) ?_ (fun us σ' hle hf => hf.2.1)
    refine D.done (fun us σ9 hle9 hfs => ?_)
    refine RS.ow ?_
    have h22 : RepL σ9 (us 22) L := hfs.2.1
    have h23 : us 23 = .int .i64 E := hfs.1
    clear hfs
    obtain ⟨a22, c22, e22⟩ := RepL.form h22
    refine RS.as 22 (.slice a22 L.length c22) (by show us 22 = _; exact e22) ?_
    refine RS.as 23 (.int .i64 E) (by show us 23 = _; exact h23) ?_
    rw [e22] at h22
    (repeat (first | refine RS.seq ?_ | refine RS.region ?_ | refine RS.regionQ ?_ (by kernel_rfl) (by kernel_rfl) | refine RS.skip ?_ | refine RS.inBlock ?_ | refine RS.block ?_ | refine RS.exit ?_)); refine mvS ?_; refine eqS ?_; refine LS.done ?_
    (repeat (first | refine RS.seq ?_ | refine RS.region ?_ | refine RS.skip ?_ | refine RS.inBlock ?_ | refine RS.block ?_ | refine RS.exit ?_))
    by_cases hc : candN S [] p N = []
    · rw [hspot, if_pos hc] at hE
      obtain ⟨rfl, rfl⟩ := hE
      refine RS.condT ?_ (h := decide_eq_true (hemp.2 hc))
      (repeat (first | refine RS.seq ?_ | refine RS.region ?_ | refine RS.regionQ ?_ (by kernel_rfl) (by kernel_rfl) | refine RS.skip ?_ | refine RS.inBlock ?_ | refine RS.block ?_ | refine RS.exit ?_)); refine mvI ?_; refine eqI ?_; refine asB ?_; refine LS.done ?_
      (repeat (first | refine RS.seq ?_ | refine RS.region ?_ | refine RS.regionQ ?_ (by kernel_rfl) (by kernel_rfl) | refine RS.skip ?_ | refine RS.inBlock ?_ | refine RS.block ?_ | refine RS.exit ?_)); refine RS.ret1 (v := .bool _) Tryz.func6 fun w hw => ?_
      exact ⟨rfl, hw.below⟩
    · rw [hspot, if_neg hc] at hE
      obtain ⟨bst, hbst⟩ : ∃ bst, bst = bestSt (goodP S [] m p) (candN S [] p N) := ⟨_, rfl⟩
      rw [← hbst] at hE hemp ⊢
      obtain ⟨rfl, rfl⟩ := hE
      obtain ⟨b22, o22, rfl, hrow22⟩ := h22.addr (by simp)
      obtain ⟨hc22, _⟩ := RowAt.place hrow22 0 (by simp)
      have hcn : σ9.cell b22 (o22 + 0 * 5 + 1) = some (.string bst.1) := hc22 1 (by decide)
      refine RS.condF ?_ (h := decide_eq_false (fun h => hc (hemp.1 h)))
      refine RS.skip ?_
      (repeat (first | refine RS.seq ?_ | refine RS.region ?_ | refine RS.regionQ ?_ (by kernel_rfl) (by kernel_rfl) | refine RS.skip ?_ | refine RS.inBlock ?_ | refine RS.block ?_ | refine RS.exit ?_)); refine mvI ?_; refine eqI ?_; refine mvB ?_; refine LS.on ?_; refine mvL ?_; refine LS.on ?_; refine lenL ?_; refine LS.on ?_; refine eqI ?_; rw [decide_eq_true (show ((([(⟨p.name, bst.1, p.cpu, p.mem, p.alone⟩ : PlaceD)] : List PlaceD).length : Nat) : Int) = 1 from rfl)]; refine pk (v := .bool _) ?_; refine mvB ?_; refine LS.on ?_; refine mvL ?_; refine LS.on ?_; refine idx (i := 0) ?_ (hi := by show 0 < 1; omega); refine LS.on ?_; refine fld ?_; refine LS.on ?_; refine ldS hcn ?_; refine LS.on ?_; refine mvS ?_; refine LS.on ?_; refine eqS ?_; rw [decide_eq_true (show bst.1 = bst.1 from rfl)]; refine pk (v := .bool _) ?_; refine asB ?_; refine LS.done ?_
      (repeat (first | refine RS.seq ?_ | refine RS.region ?_ | refine RS.regionQ ?_ (by kernel_rfl) (by kernel_rfl) | refine RS.skip ?_ | refine RS.inBlock ?_ | refine RS.block ?_ | refine RS.exit ?_)); refine RS.ret1 (v := .bool _) Tryz.func6 fun w hw => ?_
      exact ⟨rfl, hw.below⟩
end Go.Proofs.YthnoaapghcadgaaGreatDoor
