/- Walk: PackFits. -/
import Derived.Test.YthnoaapghcadgaaGreatDoorPack9
namespace Go.Proofs.YthnoaapghcadgaaGreatDoor
open Go.JW Go.RowKit
theorem eq_vecS (c m : Int) (w : World) : (Op.equalIn 10000 44 (.agg (List.toArray [.int .i64 c, .int .i64 m])) (.agg (List.toArray [.int .i64 c, .int .i64 m]))).run Tryz.prog w = .ok true w := by rw [eq_vec]; simp
theorem packE_cases {S : LedD} (ht : ∀ g, tk S.taken g = []) (g : Int) (pods : List PodD) (mode : Int) : (packE S g pods mode = 0 ∧ allP S mode pods [] = some (packL S g pods mode)) ∨ (packL S g pods mode = [] ∧ packS S g pods mode = S ∧ (packE S g pods mode = 6 ∨ pods.length = 0 ∧ packE S g pods mode = 3)) := by
  have hz : ¬ 0 < (tk S.taken g).length := by rw [ht]; simp
  by_cases hl : pods.length = 0
  · have e : packE S g pods mode = 3 := by rw [packE, if_neg hz, if_pos hl]
    exact .inr ⟨by rw [packL, if_neg hz, if_pos hl], by rw [packS, if_neg (by rw [e]; decide)], .inr ⟨hl, e⟩⟩
  · rcases opt_cases (allP S mode pods []) with ea | ⟨out, ea⟩
    · have e : packE S g pods mode = 6 := by rw [packE, if_neg hz, if_neg hl, ea]
      exact .inr ⟨by rw [packL, if_neg hz, if_neg hl, ea]; rfl, by rw [packS, if_neg (by rw [e]; decide)], .inl e⟩
    · exact .inl ⟨by rw [packE, if_neg hz, if_neg hl, ea], by rw [packL, if_neg hz, if_neg hl, ea]; rfl⟩
theorem fits8_c (ns ps : List Int) (mode : Int) (hm : I64 mode) (vn vp : Value) (w : World) (hT : TopsAt (hp w)) (hr : RepL (hp w) vn ns) (hrp : RepL (hp w) vp ps) : Calls Tryz.prog 4 #[vn, vp, .int .i64 mode] w fun e w' => e = .returned (.bool true) ∧ Below w.heap.size w w' := by
  obtain ⟨an, cn, rfl⟩ := hr.form
  obtain ⟨ap, cp, rfl⟩ := hrp.form
  have hpl : (podsOf ps).length ≤ 8 := podsOf_len ps
  have hi := bothOf_inv ns []
  have hl3 := bothOf_len ns []
  have ht : ∀ g, tk (bothOf ns []).taken g = [] := fun g => by rw [bothOf_nil]; rfl
  obtain ⟨q1, q2⟩ := wmod mode 3 (by omega)
  refine RS.enter Tryz.func4 Tryz.ntmps4 rfl rfl ?_
  (repeat (first | refine RS.seq ?_ | refine RS.region ?_ | refine RS.regionQ ?_ (by kernel_rfl) (by kernel_rfl) | refine RS.skip ?_ | refine RS.inBlock ?_ | refine RS.block ?_ | refine RS.exit ?_)); refine asB ?_; refine LS.done ?_
  (repeat (first | refine RS.seq ?_ | refine RS.region ?_ | refine RS.regionQ ?_ (by kernel_rfl) (by kernel_rfl) | refine RS.skip ?_ | refine RS.inBlock ?_ | refine RS.block ?_ | refine RS.exit ?_)); skip
  refine callP ?_ (hc := fun w' hw => known8_c w' (hT.mono hw.imm))
  refine not_ ?_; refine LS.done ?_
  (repeat (first | refine RS.seq ?_ | refine RS.region ?_ | refine RS.regionQ ?_ (by kernel_rfl) (by kernel_rfl) | refine RS.skip ?_ | refine RS.inBlock ?_ | refine RS.block ?_ | refine RS.exit ?_)); refine RS.condF ?_
  (repeat (first | refine RS.seq ?_ | refine RS.region ?_ | refine RS.regionQ ?_ (by kernel_rfl) (by kernel_rfl) | refine RS.skip ?_ | refine RS.inBlock ?_ | refine RS.block ?_ | refine RS.exit ?_)); refine mvL ?_
  refine bothLL ns [] _ _ hr (RepL.nil _ _ _) (fun bl br σ1 hle1 => ?_)
  refine mvT ?_; refine extr (v := .pointer _) ?_; refine extr (v := .pointer _) ?_; refine asP ?_; refine asP ?_; refine LS.done ?_
  (repeat (first | refine RS.seq ?_ | refine RS.region ?_ | refine RS.regionQ ?_ (by kernel_rfl) (by kernel_rfl) | refine RS.skip ?_ | refine RS.inBlock ?_ | refine RS.block ?_ | refine RS.exit ?_)); refine mvP ?_; refine bin_eql_P ?_; refine LS.done ?_
  (repeat (first | refine RS.seq ?_ | refine RS.region ?_ | refine RS.regionQ ?_ (by kernel_rfl) (by kernel_rfl) | refine RS.skip ?_ | refine RS.inBlock ?_ | refine RS.block ?_ | refine RS.exit ?_)); refine RS.condF ?_
  obtain ⟨S, hS⟩ : ∃ S, S = bothOf ns [] := ⟨_, rfl⟩
  rw [← hS] at hi hl3 ht
  rw [← hS]
  (repeat (first | refine RS.seq ?_ | refine RS.region ?_ | refine RS.regionQ ?_ (by kernel_rfl) (by kernel_rfl) | refine RS.skip ?_ | refine RS.inBlock ?_ | refine RS.block ?_ | refine RS.exit ?_)); refine mvL ?_
  refine podsLL ps _ (hrp.mono hle1) (fun v28 σ2 hle2 hr28 => ?_)
  obtain ⟨pods, hpods⟩ : ∃ pods, pods = podsOf ps := ⟨_, rfl⟩
  rw [← hpods] at hr28 hpl
  obtain ⟨a28, c28, rfl⟩ := hr28.form
  refine asL ?_; refine LS.done ?_
  (repeat (first | refine RS.seq ?_ | refine RS.region ?_ | refine RS.regionQ ?_ (by kernel_rfl) (by kernel_rfl) | refine RS.skip ?_ | refine RS.inBlock ?_ | refine RS.block ?_ | refine RS.exit ?_)); refine mvP ?_; refine mvL ?_; refine mvI ?_
  refine callP ?_ (hc := fun w _ => w8_c _ _ (by omega) (by omega) w)
  skip
  obtain ⟨m, hmm⟩ : ∃ m, m = mode % 3 := ⟨_, rfl⟩
  rw [← hmm]
  have hle02 := PH.le_trans hle1 hle2
  rcases packE_cases ht 9 pods m with ⟨hE, ha⟩ | ⟨hL, hS', hE⟩
  rotate_left
  · rcases hE with hE | ⟨hp0, hE⟩
    · refine packLL' 9 pods _ m 6 [] S hi (by omega) (by omega) (hT.mono hle02) hr28 hE hL hS' (fun v34 σ3 hle3 hr34 => ?_)
      obtain ⟨a34, c34, rfl⟩ := hr34.form
      refine mvT ?_; refine extr (v := .slice _ _ _) ?_; refine extr (v := .int _ _) ?_; refine asL ?_; refine asI ?_; refine LS.done ?_
      (repeat (first | refine RS.seq ?_ | refine RS.region ?_ | refine RS.regionQ ?_ (by kernel_rfl) (by kernel_rfl) | refine RS.skip ?_ | refine RS.inBlock ?_ | refine RS.block ?_ | refine RS.exit ?_)); refine mvI ?_; refine neI ?_; refine LS.done ?_
      (repeat (first | refine RS.seq ?_ | refine RS.region ?_ | refine RS.regionQ ?_ (by kernel_rfl) (by kernel_rfl) | refine RS.skip ?_ | refine RS.inBlock ?_ | refine RS.block ?_ | refine RS.exit ?_)); refine RS.condT ?_
      (repeat (first | refine RS.seq ?_ | refine RS.region ?_ | refine RS.regionQ ?_ (by kernel_rfl) (by kernel_rfl) | refine RS.skip ?_ | refine RS.inBlock ?_ | refine RS.block ?_ | refine RS.exit ?_)); refine mvI ?_; refine eqI ?_; refine mvB ?_; refine LS.off ?_; refine LS.off ?_; refine LS.off ?_; refine LS.off ?_; refine LS.offU ?_; refine LS.offU ?_; refine LS.off ?_; refine pk (v := .bool _) ?_; refine mvB ?_; refine LS.on ?_; refine mvL ?_; refine LS.on ?_; refine lenL ?_; refine LS.on ?_; refine eqI ?_; rw [decide_eq_true (show ((([] : List PlaceD).length : Nat) : Int) = 0 from rfl)]; refine pk (v := .bool _) ?_; refine mvB ?_; refine LS.on ?_; refine mvP ?_; refine LS.on ?_
      refine placesL 9 hi (fun v38 σ4 hle4 hr38 => ?_)
      rw [ht 9] at hr38
      obtain ⟨a38, c38, rfl⟩ := hr38.form
      refine LS.on ?_; refine lenL ?_; refine LS.on ?_; refine eqI ?_; refine pk (v := .bool _) ?_; refine asB ?_; refine LS.done ?_
      (repeat (first | refine RS.seq ?_ | refine RS.region ?_ | refine RS.regionQ ?_ (by kernel_rfl) (by kernel_rfl) | refine RS.skip ?_ | refine RS.inBlock ?_ | refine RS.block ?_ | refine RS.exit ?_)); refine RS.ret1 (v := .bool _) Tryz.func4 fun w hw => ?_
      exact ⟨rfl, hw.below⟩
    · refine packLL' 9 pods _ m 3 [] S hi (by omega) (by omega) (hT.mono hle02) hr28 hE hL hS' (fun v34 σ3 hle3 hr34 => ?_)
      obtain ⟨a34, c34, rfl⟩ := hr34.form
      refine mvT ?_; refine extr (v := .slice _ _ _) ?_; refine extr (v := .int _ _) ?_; refine asL ?_; refine asI ?_; refine LS.done ?_
      (repeat (first | refine RS.seq ?_ | refine RS.region ?_ | refine RS.regionQ ?_ (by kernel_rfl) (by kernel_rfl) | refine RS.skip ?_ | refine RS.inBlock ?_ | refine RS.block ?_ | refine RS.exit ?_)); refine mvI ?_; refine neI ?_; refine LS.done ?_
      (repeat (first | refine RS.seq ?_ | refine RS.region ?_ | refine RS.regionQ ?_ (by kernel_rfl) (by kernel_rfl) | refine RS.skip ?_ | refine RS.inBlock ?_ | refine RS.block ?_ | refine RS.exit ?_)); refine RS.condT ?_
      (repeat (first | refine RS.seq ?_ | refine RS.region ?_ | refine RS.regionQ ?_ (by kernel_rfl) (by kernel_rfl) | refine RS.skip ?_ | refine RS.inBlock ?_ | refine RS.block ?_ | refine RS.exit ?_)); refine mvI ?_; refine eqI ?_; refine mvB ?_; refine LS.on ?_; refine mvL ?_; refine LS.on ?_; refine lenL ?_; refine LS.on ?_; refine eqI ?_; rw [decide_eq_true (show ((pods.length : Nat) : Int) = 0 by omega)]; refine LS.on ?_; refine mvB ?_; refine LS.on ?_; refine mvI ?_; refine LS.on ?_; refine eqI ?_; refine LS.on ?_; refine pk (v := .bool _) ?_; refine pk (v := .bool _) ?_; refine mvB ?_; refine LS.on ?_; refine mvL ?_; refine LS.on ?_; refine lenL ?_; refine LS.on ?_; refine eqI ?_; rw [decide_eq_true (show ((([] : List PlaceD).length : Nat) : Int) = 0 from rfl)]; refine pk (v := .bool _) ?_; refine mvB ?_; refine LS.on ?_; refine mvP ?_; refine LS.on ?_
      refine placesL 9 hi (fun v38 σ4 hle4 hr38 => ?_)
      rw [ht 9] at hr38
      obtain ⟨a38, c38, rfl⟩ := hr38.form
      refine LS.on ?_; refine lenL ?_; refine LS.on ?_; refine eqI ?_; refine pk (v := .bool _) ?_; refine asB ?_; refine LS.done ?_
      (repeat (first | refine RS.seq ?_ | refine RS.region ?_ | refine RS.regionQ ?_ (by kernel_rfl) (by kernel_rfl) | refine RS.skip ?_ | refine RS.inBlock ?_ | refine RS.block ?_ | refine RS.exit ?_)); refine RS.ret1 (v := .bool _) Tryz.func4 fun w hw => ?_
      exact ⟨rfl, hw.below⟩
  obtain ⟨L, hL⟩ : ∃ L, packL S 9 pods m = L := ⟨_, rfl⟩
  obtain ⟨hSt, hTk, hlen, _⟩ := packS_take hi (by omega) hE
  have hi' := hi.pack (by omega) 9 pods m 8 hpl (by omega)
  obtain ⟨S', hS'⟩ : ∃ S', packS S 9 pods m = S' := ⟨_, rfl⟩
  have hnodes : nodesOf S' = nodesOf S := by rw [← hS', hSt]; rfl
  have htk9 : tk S'.taken 9 = L := by rw [← hS', hSt, hL, takeT, if_pos (by rw [← hL]; exact hTk)]; unfold tk; rw [asg_aset_same]; rfl
  rw [hS'] at hi'
  rw [hL] at ha hlen
  obtain ⟨_, hfit⟩ := all_fits ha
  refine packLL' 9 pods _ m 0 L S' hi (by omega) (by omega) (hT.mono hle02) hr28 hE hL hS' (fun v34 σ3 hle3 hr34 => ?_)
  obtain ⟨a34, c34, rfl⟩ := hr34.form
  refine mvT ?_; refine extr (v := .slice _ _ _) ?_; refine extr (v := .int _ _) ?_; refine asL ?_; refine asI ?_; refine LS.done ?_
  (repeat (first | refine RS.seq ?_ | refine RS.region ?_ | refine RS.regionQ ?_ (by kernel_rfl) (by kernel_rfl) | refine RS.skip ?_ | refine RS.inBlock ?_ | refine RS.block ?_ | refine RS.exit ?_)); refine mvI ?_; refine neI ?_; refine LS.done ?_
  (repeat (first | refine RS.seq ?_ | refine RS.region ?_ | refine RS.regionQ ?_ (by kernel_rfl) (by kernel_rfl) | refine RS.skip ?_ | refine RS.inBlock ?_ | refine RS.block ?_ | refine RS.exit ?_)); refine RS.condF ?_
  (repeat (first | refine RS.seq ?_ | refine RS.region ?_ | refine RS.regionQ ?_ (by kernel_rfl) (by kernel_rfl) | refine RS.skip ?_ | refine RS.inBlock ?_ | refine RS.block ?_ | refine RS.exit ?_)); refine mvL ?_; refine lenL ?_; refine mvL ?_; refine lenL ?_; refine neI ?_; rw [decide_eq_true (show ((L.length : Nat) : Int) = pods.length by omega)]; refine mvB ?_; refine LS.on ?_; refine mvP ?_; refine LS.on ?_
  refine placesL 9 hi' (fun v38 σ4 hle4 hr38 => ?_)
  rw [htk9] at hr38
  obtain ⟨a38, c38, rfl⟩ := hr38.form
  refine LS.on ?_; refine mvL ?_; refine LS.on ?_
  refine callP ?_ (hc := fun w' hw => same4_c _ _ L w' (hr38.mono hw.imm) (hr34.mono (PH.le_trans hle4 hw.imm)))
  refine LS.on ?_; refine not_ ?_; refine pk (v := .bool _) ?_; refine LS.done ?_
  (repeat (first | refine RS.seq ?_ | refine RS.region ?_ | refine RS.regionQ ?_ (by kernel_rfl) (by kernel_rfl) | refine RS.skip ?_ | refine RS.inBlock ?_ | refine RS.block ?_ | refine RS.exit ?_)); refine RS.condF ?_
  (repeat (first | refine RS.seq ?_ | refine RS.region ?_ | refine RS.regionQ ?_ (by kernel_rfl) (by kernel_rfl) | refine RS.skip ?_ | refine RS.inBlock ?_ | refine RS.block ?_ | refine RS.exit ?_)); refine mvP ?_
  refine nodesL hi' (fun v74 σ5 hle5 hr74 => ?_)
  rw [hnodes] at hr74
  have hN8 := hi.nodes_len
  obtain ⟨N, hN⟩ : ∃ N, N = nodesOf S := ⟨_, rfl⟩
  have hmemN : ∀ n ∈ N, asg S.nodes n.name = some n ∧ nodeErr n = 0 := by rw [hN]; exact fun n hn => node_asg hi hn
  rw [← hN] at hr74 hN8 hfit
  obtain ⟨a74, c74, rfl⟩ := hr74.form
  refine asL ?_; refine LS.done ?_
  (repeat (first | refine RS.seq ?_ | refine RS.region ?_ | refine RS.regionQ ?_ (by kernel_rfl) (by kernel_rfl) | refine RS.skip ?_ | refine RS.inBlock ?_ | refine RS.block ?_ | refine RS.exit ?_)); refine asI ?_; refine LS.done ?_
  have hle35 := PH.le_trans hle4 hle5
  have hle25 := PH.le_trans hle3 hle35
  (repeat (first | refine RS.seq ?_ | refine RS.region ?_ | refine RS.regionQ ?_ (by kernel_rfl) (by kernel_rfl) | refine RS.skip ?_ | refine RS.inBlock ?_ | refine RS.block ?_ | refine RS.exit ?_))
  refine RS.loopF (X := Nat × PH) 13 226 (fun x => x.1 ≤ L.length ∧ PH.le σ5 x.2) (fun x => [(13, .int .i64 x.1)]) (fun x => x.2) (fun x => [ledHP bl S', refHP br S]) (fun x => L.length - x.1) (0, σ5) ⟨Nat.zero_le _, PH.le_refl _⟩ ⟨rfl, trivial⟩ rfl ⟨fun h => h⟩ ?_
  rintro ⟨i, σ6⟩ g6 ⟨(hi1 : i ≤ L.length), (hle6 : PH.le σ5 σ6)⟩ ih
  dsimp only
  (repeat (first | refine RS.seq ?_ | refine RS.region ?_ | refine RS.regionQ ?_ (by kernel_rfl) (by kernel_rfl) | refine RS.skip ?_ | refine RS.inBlock ?_ | refine RS.block ?_ | refine RS.exit ?_)); refine mvI ?_; refine mvL ?_; refine lenL ?_; refine ltI ?_; refine LS.done ?_
  (repeat (first | refine RS.seq ?_ | refine RS.region ?_ | refine RS.regionQ ?_ (by kernel_rfl) (by kernel_rfl) | refine RS.skip ?_ | refine RS.inBlock ?_ | refine RS.block ?_ | refine RS.exit ?_))
  by_cases hlt : i < L.length
  · refine RS.condT ?_ (h := by simp; omega)
    obtain ⟨n, hnN, f1, f2, f3, f4, f5⟩ := hfit i (by omega) hlt
    obtain ⟨hasg, herr⟩ := hmemN n hnN
    obtain ⟨bL, oL, rfl, hrowL⟩ := hr34.addr (List.ne_nil_of_length_pos (by omega))
    obtain ⟨bN, oN, rfl, hrowN⟩ := hr74.addr (List.ne_nil_of_length_pos (List.length_pos_iff.2 (List.ne_nil_of_mem hnN)))
    obtain ⟨bP, oP, rfl, hrowP⟩ := hr28.addr (List.ne_nil_of_length_pos (by omega))
    have hrowL6 := hrowL.mono (PH.le_trans hle35 hle6)
    have hrowN6 := hrowN.mono hle6
    obtain ⟨hcL, _⟩ := RowAt.place hrowL6 i hlt
    rw [f4] at hcL
    obtain ⟨vsP, hcP, hrP⟩ := (hrowP.mono (PH.le_trans hle25 hle6)) i (by omega)
    obtain ⟨p, hpp⟩ : ∃ p, p = pods[i] := ⟨_, rfl⟩
    rw [← hpp] at f2 f3 f4 hcL hrP
    obtain ⟨vp, vb, rfl, hpn, hpS, hpc, hpm, hv1, hv2⟩ := hrP
    obtain ⟨a1, c1, rfl⟩ := hv1.form
    obtain ⟨a2, c2, rfl⟩ := hv2.form
    have hcP : ∀ j, j < 7 → σ6.cell bP (oP + i * 7 + j) = (podC p (.slice a1 p.picks.length c1) (.slice a2 p.bears.length c2))[j]? := hcP
    have hcL : ∀ j, j < 5 → σ6.cell bL (oL + i * 5 + j) = (placeC ⟨p.name, n.name, p.cpu, p.mem, p.alone⟩)[j]? := hcL
    have hLn : L[i].node = n.name := by rw [f4]
    have hLa : L[i].alone = p.alone := by rw [f4]
    (repeat (first | refine RS.seq ?_ | refine RS.region ?_ | refine RS.regionQ ?_ (by kernel_rfl) (by kernel_rfl) | refine RS.skip ?_ | refine RS.inBlock ?_ | refine RS.block ?_ | refine RS.exit ?_)); refine asI ?_; refine LS.done ?_
    (repeat (first | refine RS.seq ?_ | refine RS.region ?_ | refine RS.regionQ ?_ (by kernel_rfl) (by kernel_rfl) | refine RS.skip ?_ | refine RS.inBlock ?_ | refine RS.block ?_ | refine RS.exit ?_))
    refine RS.loopF (X := Nat × PH) 14 100 (fun x => x.1 ≤ N.length ∧ (∀ j (hj : j < x.1) (hj2 : j < N.length), N[j].name ≠ n.name) ∧ PH.le σ6 x.2) (fun x => [(14, .int .i64 x.1)]) (fun x => x.2) (fun x => [ledHP bl S', refHP br S]) (fun x => N.length - x.1) (0, σ6) ⟨Nat.zero_le _, fun j hj => by omega, PH.le_refl _⟩ ⟨rfl, trivial⟩ rfl ⟨fun h => h⟩ ?_
    rintro ⟨k, σ7⟩ g7 ⟨(hk1 : k ≤ N.length), hknot, (hle7 : PH.le σ6 σ7)⟩ ih2
    dsimp only
    have hkN : k < N.length := by
      refine Classical.byContradiction fun h => ?_
      obtain ⟨j, hj, e⟩ := List.mem_iff_getElem.1 hnN
      exact hknot j (by omega) hj (by rw [e])
    have hnamek : σ7.cell bN (oN + k * 6 + 0) = some (.string N[k].name) := RowAt.nodeName (hrowN6.mono hle7) k hkN
    have hnodeL : σ7.cell bL (oL + i * 5 + 1) = some (.string n.name) := PH.cell_mono hle7 (hcL 1 (by decide))
    (repeat (first | refine RS.seq ?_ | refine RS.region ?_ | refine RS.skip ?_ | refine RS.inBlock ?_ | refine RS.block ?_ | refine RS.exit ?_)); refine RS.drawG [(85, some true)] [.free, .free, .free, .free, .free, .free, .free, .free, .free, .ex, .free, .free, .free, .free, .ex, .free, .free] _ ?_ (by kernel_rfl) (by kernel_rfl) (by kernel_rfl) ⟨fun h => h⟩; simp only [ers, ersO, onOff, glook, nthO, List.map_cons, List.map_nil, Option.bind_some, Option.map_some, Nat.beq, cond_true, cond_false, BEq.beq]; refine D.mvI ?_; refine D.mvL ?_; refine D.lenL ?_; refine D.ltI ?_; rw [decide_eq_true (show (k : Int) < N.length by omega)]; refine D.mvB ?_; refine D.mvL ?_; refine D.mvI ?_; refine D.idx (i := k) ?_; refine D.fld ?_; refine D.ldS hnamek ?_; refine D.mvL ?_; refine D.mvI ?_; refine D.idx (i := i) ?_; refine D.fld ?_; refine D.ldS hnodeL ?_; refine D.neS ?_; refine D.pk (v := .bool _) ?_; refine D.doneG [(85, some true)] ⟨⟨rfl, rfl⟩, trivial⟩ (fun us σ1 hle1 hfs => ?_)
    refine RS.ow ?_
    have k17 := hle1
    (repeat (first | refine RS.seq ?_ | refine RS.region ?_ | refine RS.skip ?_ | refine RS.inBlock ?_ | refine RS.block ?_ | refine RS.exit ?_))
    refine RS.cond (fun z => ?_) (fun z => ?_)
    · have z : ¬ N[k].name = n.name := by simpa using z
      refine RS.skip ?_
      (repeat (first | refine RS.seq ?_ | refine RS.region ?_ | refine RS.regionQ ?_ (by kernel_rfl) (by kernel_rfl) | refine RS.skip ?_ | refine RS.inBlock ?_ | refine RS.block ?_ | refine RS.exit ?_)); refine mvI ?_; (first | refine addN ?_ | refine addI ?_); refine asI ?_; refine LS.done ?_; (repeat (first | refine RS.seq ?_ | refine RS.region ?_ | refine RS.regionQ ?_ (by kernel_rfl) (by kernel_rfl) | refine RS.skip ?_ | refine RS.inBlock ?_ | refine RS.block ?_ | refine RS.exit ?_))
      refine ih2 (k + 1, _) ⟨hkN, fun j hj hj2 => ?_, PH.le_trans hle7 k17⟩ (by (try dsimp only); omega) ⟨rfl, trivial⟩ (by repeat (first | with_reducible exact Out.refl _ _ _ | exact Out.hv | refine Out.upd ?_ | refine Out.hvIn ?_)) ⟨fun h => h⟩ rfl
      by_cases e : j = k
      · subst e; exact z
      · exact hknot j (by dsimp only at hj ⊢; omega) hj2
    · have z : N[k].name = n.name := by simpa using z
      clear ih2 hknot hnamek hnodeL
      have hNk : N[k] = n := by
        have h1 := (hmemN N[k] (List.getElem_mem _)).1
        rw [z, hasg] at h1; injection h1 with h1; exact h1.symm
      have hle1' := PH.le_trans hle7 k17
      obtain ⟨vsN, hcN, hrN⟩ := (hrowN6.mono hle1') k hkN
      rw [hNk] at hrN
      obtain ⟨vm, vt, rfl, hn1, hn2, hn3, hn4, hn5⟩ := hrN
      obtain ⟨a3, c3, rfl⟩ := hn4.form
      obtain ⟨a4, c4, rfl⟩ := hn5.form
      have hcN : ∀ j, j < 6 → σ1.cell bN (oN + k * 6 + j) = (nodeC n (.slice a3 n.marks.length c3) (.slice a4 n.taints.length c4))[j]? := hcN
      have hcP1 := PH.cells_mono hle1' (n := 7) (vs := podC p (.slice a1 p.picks.length c1) (.slice a2 p.bears.length c2)) rfl hcP
      have hcL1 := PH.cells_mono hle1' (n := 5) (vs := placeC ⟨p.name, n.name, p.cpu, p.mem, p.alone⟩) rfl hcL
      have hv1' := hv1.mono hle1'
      have hv2' := hv2.mono hle1'
      have hclosed : σ1.cell bN (oN + k * 6 + 5) = some (.bool false) := by have := hcN 5 (by decide); rw [← f1]; exact this
      have hPneed : ∀ j, j < 2 → σ1.cell bP (oP + i * 7 + 2 + j) = [Value.int .i64 p.cpu, .int .i64 p.mem][j]? := fun j hj => by
        rw [Nat.add_assoc (oP + i * 7), hcP1 (2 + j) (by omega)]
        rcases (show j = 0 ∨ j = 1 by omega) with rfl | rfl <;> rfl
      have hLneed : ∀ j, j < 2 → σ1.cell bL (oL + i * 5 + 2 + j) = [Value.int .i64 p.cpu, .int .i64 p.mem][j]? := fun j hj => by
        rw [Nat.add_assoc (oL + i * 5), hcL1 (2 + j) (by omega)]
        rcases (show j = 0 ∨ j = 1 by omega) with rfl | rfl <;> rfl
      refine RS.exit ?_
      (repeat (first | refine RS.seq ?_ | refine RS.region ?_ | refine RS.skip ?_ | refine RS.inBlock ?_ | refine RS.block ?_ | refine RS.exit ?_)); refine RS.drawG [(104, some false), (111, some false), (125, some false), (139, some false), (152, some false), (165, some false)] [.free, .free, .free, .free, .free, .free, .free, .free, .free, .ex, .free, .free, .free, .free, .free, .free, .ex, .free, .free, .free, .free, .ex, .ex, .free, .free, .free, .free, .free, .free, .free, .ex, .free, .free, .free, .free, .ex, .ex, .free, .free, .free, .free, .free, .free, .free, .ex, .free, .free, .free, .free, .ex, .free, .free, .free, .free, .free, .free, .free, .ex, .free, .free, .free, .free, .ex, .free, .free, .free, .free, .free, .free, .free, .ex, .free, .free, .free, .free, .ex, .free, .free] _ ?_ (by kernel_rfl) (by kernel_rfl) (by kernel_rfl) ⟨fun h => h⟩; simp only [ers, ersO, onOff, glook, nthO, List.map_cons, List.map_nil, Option.bind_some, Option.map_some, Nat.beq, cond_true, cond_false, BEq.beq]; refine D.mvI ?_; refine D.mvL ?_; refine D.lenL ?_; refine D.eqI ?_; rw [decide_eq_false (show ¬ (k : Int) = N.length by omega)]; refine D.mvB ?_; refine D.mvL ?_; refine D.mvI ?_; refine D.idx (i := k) ?_; refine D.fld ?_; refine D.ldS (v := .bool false) hclosed ?_; refine D.pk (v := .bool _) ?_; refine D.mvB ?_; refine D.mvL ?_; refine D.mvI ?_; refine D.idx (i := i) ?_; refine D.fld ?_; refine D.ldS (hcP1 4 (by decide)) ?_; refine D.mvL ?_; refine D.mvI ?_; refine D.idx (i := k) ?_; refine D.fld ?_; refine D.ldS (hcN 3 (by decide)) ?_
      refine D.callP (v := .bool true) ?_ (hc := fun us σ' w' hle hf hw => by have h := rall_c p.picks n.marks _ _ w' (hv1'.mono (PH.le_trans hle hw.imm)) (hn4.mono (PH.le_trans hle hw.imm)); rw [f2] at h; exact h)
      refine D.not_ ?_; refine D.pk (v := .bool _) ?_; refine D.mvB ?_; refine D.mvL ?_; refine D.mvI ?_; refine D.idx (i := k) ?_; refine D.fld ?_; refine D.ldS (hcN 4 (by decide)) ?_; refine D.mvL ?_; refine D.mvI ?_; refine D.idx (i := i) ?_; refine D.fld ?_; refine D.ldS (hcP1 5 (by decide)) ?_
      refine D.callP (v := .bool true) ?_ (hc := fun us σ' w' hle hf hw => by have h := rall_c n.taints p.bears _ _ w' (hn5.mono (PH.le_trans hle hw.imm)) (hv2'.mono (PH.le_trans hle hw.imm)); rw [f3] at h; exact h)
      refine D.not_ ?_; refine D.pk (v := .bool _) ?_; refine D.mvB ?_; refine D.mvL ?_; refine D.mvI ?_; refine D.idx (i := i) ?_; refine D.fld ?_; refine D.ldS (hcL1 0 (by decide)) ?_; refine D.mvL ?_; refine D.mvI ?_; refine D.idx (i := i) ?_; refine D.fld ?_; refine D.ldS (hcP1 0 (by decide)) ?_; refine D.neS ?_; rw [decide_eq_true (show p.name = p.name from rfl)]; refine D.pk (v := .bool _) ?_; refine D.mvB ?_; refine D.mvL ?_; refine D.mvI ?_; refine D.idx (i := i) ?_; refine D.fld ?_; refine D.ldSA (vs := [.int .i64 p.cpu, .int .i64 p.mem]) rfl hLneed ?_; refine D.mvL ?_; refine D.mvI ?_; refine D.idx (i := i) ?_; refine D.fld ?_; refine D.ldSA (vs := [.int .i64 p.cpu, .int .i64 p.mem]) rfl hPneed ?_; refine D.neqA (b := true) (us1 := [.int .i64 p.cpu, .int .i64 p.mem]) (us2 := [.int .i64 p.cpu, .int .i64 p.mem]) (fun w => eq_vecS _ _ w) (by kernel_rfl) ?_; refine D.pk (v := .bool _) ?_; refine D.mvB ?_; refine D.mvL ?_; refine D.mvI ?_; refine D.idx (i := i) ?_; refine D.fld ?_; refine D.ldS (hcL1 4 (by decide)) ?_; refine D.mvL ?_; refine D.mvI ?_; refine D.idx (i := i) ?_; refine D.fld ?_; refine D.ldS (hcP1 6 (by decide)) ?_; refine D.bin_neq_B (a := p.alone) (b := p.alone) ?_; rw [show (p.alone == p.alone) = true by simp]; refine D.pk (v := .bool _) ?_; refine D.doneG [(104, some false), (111, some false), (125, some false), (139, some false), (152, some false), (165, some false)] ⟨⟨rfl, rfl⟩, ⟨rfl, rfl⟩, ⟨rfl, rfl⟩, ⟨rfl, rfl⟩, ⟨rfl, rfl⟩, ⟨rfl, rfl⟩, trivial⟩ (fun us σ1 hle1 hfs => ?_)
      refine RS.ow ?_
      have k19 := hle1
      (repeat (first | refine RS.seq ?_ | refine RS.region ?_ | refine RS.regionQ ?_ (by kernel_rfl) (by kernel_rfl) | refine RS.skip ?_ | refine RS.inBlock ?_ | refine RS.block ?_ | refine RS.exit ?_)); refine RS.condF ?_
      refine RS.skip ?_
      have hle62 := PH.le_trans hle1' k19
      have hrowL2 := hrowL6.mono hle62
      have hcL2 := PH.cells_mono k19 (n := 5) (vs := placeC ⟨p.name, n.name, p.cpu, p.mem, p.alone⟩) rfl hcL1
      have hcN2 := PH.cells_mono k19 (n := 6) (vs := nodeC n (.slice a3 n.marks.length c3) (.slice a4 n.taints.length c4)) rfl hcN
      obtain ⟨σ8, hσ8⟩ : ∃ σ8, σ8 = σ1 := ⟨_, rfl⟩
      rw [← hσ8] at hrowL2 hcL2 hcN2 hle62 ⊢
      clear hσ8 k19 hle1 hclosed hPneed hLneed hcP1 hcL1 hv1' hv2' hcN hle1' k17
      (repeat (first | refine RS.seq ?_ | refine RS.region ?_ | refine RS.regionQ ?_ (by kernel_rfl) (by kernel_rfl) | refine RS.skip ?_ | refine RS.inBlock ?_ | refine RS.block ?_ | refine RS.exit ?_)); refine asI ?_; refine LS.done ?_
      (repeat (first | refine RS.seq ?_ | refine RS.region ?_ | refine RS.regionQ ?_ (by kernel_rfl) (by kernel_rfl) | refine RS.skip ?_ | refine RS.inBlock ?_ | refine RS.block ?_ | refine RS.exit ?_))
      refine RS.loopF (X := Nat × PH) 15 208 (fun x => x.1 ≤ i ∧ PH.le σ8 x.2) (fun x => [(15, .int .i64 x.1)]) (fun x => x.2) (fun x => [ledHP bl S', refHP br S]) (fun x => i - x.1) (0, σ8) ⟨Nat.zero_le _, PH.le_refl _⟩ ⟨rfl, trivial⟩ rfl ⟨fun h => h⟩ ?_
      rintro ⟨j, σ9⟩ g9 ⟨(hj1 : j ≤ i), (hle9 : PH.le σ8 σ9)⟩ ih3
      dsimp only
      (repeat (first | refine RS.seq ?_ | refine RS.region ?_ | refine RS.regionQ ?_ (by kernel_rfl) (by kernel_rfl) | refine RS.skip ?_ | refine RS.inBlock ?_ | refine RS.block ?_ | refine RS.exit ?_)); refine mvI ?_; refine mvI ?_; refine ltI ?_; refine LS.done ?_
      (repeat (first | refine RS.seq ?_ | refine RS.region ?_ | refine RS.regionQ ?_ (by kernel_rfl) (by kernel_rfl) | refine RS.skip ?_ | refine RS.inBlock ?_ | refine RS.block ?_ | refine RS.exit ?_))
      by_cases hlj : j < i
      · refine RS.condT ?_ (h := by simp; omega)
        obtain ⟨hcj, _⟩ := RowAt.place (hrowL2.mono hle9) j (by omega)
        have hf5 := f5 j hlj
        rw [hLn, hLa] at hf5
        obtain ⟨x, hx⟩ : ∃ x, x = L[j] := ⟨_, rfl⟩
        rw [← hx] at hcj hf5
        have hcj : ∀ jj, jj < 5 → σ9.cell bL (oL + j * 5 + jj) = (placeC x)[jj]? := hcj
        have hcL9 := PH.cells_mono hle9 (n := 5) (vs := placeC ⟨p.name, n.name, p.cpu, p.mem, p.alone⟩) rfl hcL2
        by_cases hnm : x.node = n.name
        · have hal := hf5 hnm
          have ha1 : x.alone = false := by simpa using fun h => hal (.inl h)
          have ha2 : p.alone = false := by simpa using fun h => hal (.inr h)
          have hcja : σ9.cell bL (oL + j * 5 + 4) = some (.bool false) := by have := hcj 4 (by decide); rw [← ha1]; exact this
          have hcLa : σ9.cell bL (oL + i * 5 + 4) = some (.bool false) := by have := hcL9 4 (by decide); rw [← ha2]; exact this
          (repeat (first | refine RS.seq ?_ | refine RS.region ?_ | refine RS.skip ?_ | refine RS.inBlock ?_ | refine RS.block ?_ | refine RS.exit ?_)); refine RS.drawG [(194, some true), (200, some false)] [.free, .free, .free, .free, .ex, .free, .free, .free, .free, .ex, .free, .free, .free, .free, .free, .free, .ex, .free, .free, .free, .free, .free, .ex, .free, .free] _ ?_ (by kernel_rfl) (by kernel_rfl) (by kernel_rfl) ⟨fun h => h⟩; simp only [ers, ersO, onOff, glook, nthO, List.map_cons, List.map_nil, Option.bind_some, Option.map_some, Nat.beq, cond_true, cond_false, BEq.beq]; refine D.mvL ?_; refine D.mvI ?_; refine D.idx (i := j) ?_; refine D.fld ?_; refine D.ldS (hcj 1 (by decide)) ?_; refine D.mvL ?_; refine D.mvI ?_; refine D.idx (i := i) ?_; refine D.fld ?_; refine D.ldS (hcL9 1 (by decide)) ?_; refine D.eqS ?_; rw [decide_eq_true hnm]; refine D.mvB ?_; refine D.mvL ?_; refine D.mvI ?_; refine D.idx (i := j) ?_; refine D.fld ?_; refine D.ldS hcja ?_; refine D.mvB ?_; refine D.mvL ?_; refine D.mvI ?_; refine D.idx (i := i) ?_; refine D.fld ?_; refine D.ldS hcLa ?_; refine D.pk (v := .bool _) ?_; refine D.pk (v := .bool _) ?_; refine D.doneG [(194, some true), (200, some false)] ⟨⟨rfl, rfl⟩, ⟨rfl, rfl⟩, trivial⟩ (fun us σ1 hle1 hfs => ?_)
          refine RS.ow ?_
          (repeat (first | refine RS.seq ?_ | refine RS.region ?_ | refine RS.regionQ ?_ (by kernel_rfl) (by kernel_rfl) | refine RS.skip ?_ | refine RS.inBlock ?_ | refine RS.block ?_ | refine RS.exit ?_)); refine RS.condF ?_
          refine RS.skip ?_
          (repeat (first | refine RS.seq ?_ | refine RS.region ?_ | refine RS.regionQ ?_ (by kernel_rfl) (by kernel_rfl) | refine RS.skip ?_ | refine RS.inBlock ?_ | refine RS.block ?_ | refine RS.exit ?_)); refine mvI ?_; (first | refine addN ?_ | refine addI ?_); refine asI ?_; refine LS.done ?_; (repeat (first | refine RS.seq ?_ | refine RS.region ?_ | refine RS.regionQ ?_ (by kernel_rfl) (by kernel_rfl) | refine RS.skip ?_ | refine RS.inBlock ?_ | refine RS.block ?_ | refine RS.exit ?_))
          exact ih3 (j + 1, _) ⟨hlj, PH.le_trans hle9 hle1⟩ (by (try dsimp only); omega) ⟨rfl, trivial⟩ (by repeat (first | with_reducible exact Out.refl _ _ _ | exact Out.hv | refine Out.upd ?_ | refine Out.hvIn ?_)) ⟨fun h => h⟩ rfl
        · (repeat (first | refine RS.seq ?_ | refine RS.region ?_ | refine RS.skip ?_ | refine RS.inBlock ?_ | refine RS.block ?_ | refine RS.exit ?_)); refine RS.drawG [(194, some false), (200, none)] [.free, .free, .free, .free, .ex, .free, .free, .free, .free, .ex, .free, .free, .free, .free, .free, .free, .free, .free, .free, .free, .free, .free, .free, .free, .free] _ ?_ (by kernel_rfl) (by kernel_rfl) (by kernel_rfl) ⟨fun h => h⟩; simp only [ers, ersO, onOff, glook, nthO, List.map_cons, List.map_nil, Option.bind_some, Option.map_some, Nat.beq, cond_true, cond_false, BEq.beq]; refine D.mvL ?_; refine D.mvI ?_; refine D.idx (i := j) ?_; refine D.fld ?_; refine D.ldS (hcj 1 (by decide)) ?_; refine D.mvL ?_; refine D.mvI ?_; refine D.idx (i := i) ?_; refine D.fld ?_; refine D.ldS (hcL9 1 (by decide)) ?_; refine D.eqS ?_; rw [decide_eq_false hnm]; refine D.mvB ?_; refine D.as_ (v := undef) ?_; refine D.as_ (v := undef) ?_; refine D.as_ (v := undef) ?_; refine D.as_ (v := undef) ?_; refine D.as_ (v := undef) ?_; refine D.as_ (v := undef) ?_; refine D.as_ (v := undef) ?_; refine D.as_ (v := undef) ?_; refine D.as_ (v := undef) ?_; refine D.as_ (v := undef) ?_; refine D.as_ (v := undef) ?_; refine D.as_ (v := undef) ?_; refine D.pk (v := .bool _) ?_; refine D.doneG [(194, some false), (200, none)] ⟨⟨rfl, rfl⟩, ⟨rfl, rfl⟩, trivial⟩ (fun us σ1 hle1 hfs => ?_)
          refine RS.ow ?_
          (repeat (first | refine RS.seq ?_ | refine RS.region ?_ | refine RS.regionQ ?_ (by kernel_rfl) (by kernel_rfl) | refine RS.skip ?_ | refine RS.inBlock ?_ | refine RS.block ?_ | refine RS.exit ?_)); refine RS.condF ?_
          refine RS.skip ?_
          (repeat (first | refine RS.seq ?_ | refine RS.region ?_ | refine RS.regionQ ?_ (by kernel_rfl) (by kernel_rfl) | refine RS.skip ?_ | refine RS.inBlock ?_ | refine RS.block ?_ | refine RS.exit ?_)); refine mvI ?_; (first | refine addN ?_ | refine addI ?_); refine asI ?_; refine LS.done ?_; (repeat (first | refine RS.seq ?_ | refine RS.region ?_ | refine RS.regionQ ?_ (by kernel_rfl) (by kernel_rfl) | refine RS.skip ?_ | refine RS.inBlock ?_ | refine RS.block ?_ | refine RS.exit ?_))
          exact ih3 (j + 1, _) ⟨hlj, PH.le_trans hle9 hle1⟩ (by (try dsimp only); omega) ⟨rfl, trivial⟩ (by repeat (first | with_reducible exact Out.refl _ _ _ | exact Out.hv | refine Out.upd ?_ | refine Out.hvIn ?_)) ⟨fun h => h⟩ rfl
      · refine RS.condF ?_ (h := by simp; omega)
        clear ih3
        have hcN9 := PH.cells_mono hle9 (n := 6) (vs := nodeC n (.slice a3 n.marks.length c3) (.slice a4 n.taints.length c4)) rfl hcN2
        have hnm9 : σ9.cell bN (oN + k * 6 + 0) = some (.string n.name) := hcN9 0 (by decide)
        refine RS.exit ?_
        (repeat (first | refine RS.seq ?_ | refine RS.region ?_ | refine RS.regionQ ?_ (by kernel_rfl) (by kernel_rfl) | refine RS.skip ?_ | refine RS.inBlock ?_ | refine RS.block ?_ | refine RS.exit ?_)); refine mvP ?_; refine mvL ?_; refine mvI ?_; refine idx (i := k) ?_; refine fld ?_; refine ldS hnm9 ?_
        refine usedL n.name hi' (by omega) (fun σ10 hle10 => ?_)
        refine mvT ?_; refine extr (v := _) ?_; refine extr (v := .int _ _) ?_; refine alloc_ (fun b16 => ?_); refine st (.agg _) _ ?_; refine asI ?_; refine LS.done ?_
        have hcap : ∀ j, j < 2 → σ10.cell bN (oN + k * 6 + 1 + j) = [Value.int .i64 n.cpu, .int .i64 n.mem][j]? := fun j hj => by
          rw [Nat.add_assoc (oN + k * 6), PH.cells_mono hle10 (n := 6) (vs := nodeC n (.slice a3 n.marks.length c3) (.slice a4 n.taints.length c4)) rfl hcN9 (1 + j) (by omega)]
          rcases (show j = 0 ∨ j = 1 by omega) with rfl | rfl <;> rfl
        have hfb : fitsB (usedC S'.taken n.name) (usedM S'.taken n.name) n.cpu n.mem = true := decide_eq_true (hi'.fits n.name n (by rw [← hS', hSt]; exact hasg))
        (repeat (first | refine RS.seq ?_ | refine RS.region ?_ | refine RS.skip ?_ | refine RS.inBlock ?_ | refine RS.block ?_ | refine RS.exit ?_)); refine RS.drawK [.ex, .free, .free, .free, .free, .ex, .ex, .free] ?_ (by kernel_rfl) (by kernel_rfl); refine D.ldA [.int .i64 (usedC S'.taken n.name), .int .i64 (usedM S'.taken n.name)] ?_; refine D.mvL ?_; refine D.mvI ?_; refine D.idx (i := k) ?_; refine D.fld ?_; refine D.ldSA (vs := [.int .i64 n.cpu, .int .i64 n.mem]) rfl hcap ?_
        refine D.callP (v := .bool true) ?_ (hc := fun us σ' w' hle hf hw => by have h := rfits1_c (usedC S'.taken n.name) (usedM S'.taken n.name) n.cpu n.mem w'; rw [hfb] at h; exact h)
        refine D.not_ ?_; refine D.done (fun us σ1 hle1 hfs => ?_)
        refine RS.ow ?_
        (repeat (first | refine RS.seq ?_ | refine RS.region ?_ | refine RS.regionQ ?_ (by kernel_rfl) (by kernel_rfl) | refine RS.skip ?_ | refine RS.inBlock ?_ | refine RS.block ?_ | refine RS.exit ?_)); refine RS.condF ?_
        refine RS.skip ?_
        (repeat (first | refine RS.seq ?_ | refine RS.region ?_ | refine RS.regionQ ?_ (by kernel_rfl) (by kernel_rfl) | refine RS.skip ?_ | refine RS.inBlock ?_ | refine RS.block ?_ | refine RS.exit ?_)); refine mvI ?_; (first | refine addN ?_ | refine addI ?_); refine asI ?_; refine LS.done ?_; (repeat (first | refine RS.seq ?_ | refine RS.region ?_ | refine RS.regionQ ?_ (by kernel_rfl) (by kernel_rfl) | refine RS.skip ?_ | refine RS.inBlock ?_ | refine RS.block ?_ | refine RS.exit ?_))
        exact ih (i + 1, _) ⟨hlt, PH.le_trans hle6 (PH.le_trans hle62 (PH.le_trans hle9 (PH.le_trans hle10 hle1)))⟩ (by (try dsimp only); omega) ⟨rfl, trivial⟩ (by repeat (first | with_reducible exact Out.refl _ _ _ | exact Out.hv | refine Out.upd ?_ | refine Out.hvIn ?_)) ⟨fun h => h.tail⟩ rfl
  · refine RS.condF ?_ (h := by simp; omega)
    (repeat (first | refine RS.seq ?_ | refine RS.region ?_ | refine RS.regionQ ?_ (by kernel_rfl) (by kernel_rfl) | refine RS.skip ?_ | refine RS.inBlock ?_ | refine RS.block ?_ | refine RS.exit ?_)); refine asB ?_; refine LS.done ?_; (repeat (first | refine RS.seq ?_ | refine RS.region ?_ | refine RS.regionQ ?_ (by kernel_rfl) (by kernel_rfl) | refine RS.skip ?_ | refine RS.inBlock ?_ | refine RS.block ?_ | refine RS.exit ?_)); refine RS.ret1 (v := .bool _) Tryz.func4 fun w hw => ?_
    exact ⟨rfl, hw.below⟩
end Go.Proofs.YthnoaapghcadgaaGreatDoor
