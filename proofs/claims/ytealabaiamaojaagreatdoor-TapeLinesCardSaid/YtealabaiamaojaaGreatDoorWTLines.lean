/- The walk of TapeLines. -/
import Derived.Test.YtealabaiamaojaaGreatDoorQ5
namespace Go.Proofs.YtealabaiamaojaaGreatDoor
open Go.JW Go.RowKit
def mk9 (c : CallD) : RecD := makeP c.kind c.n c.ns (c.n.tdiv 7)
def mkL (l : List CallD) (i : Nat) : List RecD := (l.take i).map mk9
theorem mkL_len {l : List CallD} {i : Nat} (h : i ≤ l.length) : (mkL l i).length = i := by unfold mkL; rw [List.length_map, List.length_take]; omega
theorem mkL_ok (l : List CallD) (i : Nat) : Oks (mkL l i) := fun r hr => by
  obtain ⟨c, _, rfl⟩ := List.mem_map.1 hr
  exact make_ok _ _ _ _
theorem mkL_succ {l : List CallD} {i : Nat} (h : i < l.length) : mkL l (i + 1) = mkL l i ++ [mk9 l[i]] := by unfold mkL; rw [List.take_succ_eq_append_getElem h, List.map_append]; rfl
theorem lines9_c (l : List CallD) (vl : Value) (w : World) (lib : LibAt (hp w)) (hr : RepL (hp w) vl l) :
    Calls Tryz.prog 4 #[vl] w fun e w' => e = .returned (.bool true) ∧ Below w.heap.size w w' := by
  obtain ⟨al, cl, rfl⟩ := hr.form
  have hlen : l.length ≤ 140737488355328 := hr.1
  refine RS.enter Tryz.func4 Tryz.ntmps4 rfl rfl ?_
  refine zN ?_; refine asB ?_; refine LS.done ?_
  refine zN ?_; skip
  refine callQ (fun v _ => v = .bool true) [] (fun v σ1 k1 hq => ?_) (hc := fun w' hw => known9_s lib w' hw)
  subst hq
  refine not_ ?_; refine LS.done ?_
  refine zN ?_
  refine RS.condF ?_
  refine zN ?_; skip
  refine callX (fun b : Nat => .pointer (some ⟨b, 0, none⟩)) (fun _ => σ1) (fun b => [tapHP b [] 0]) (fun _ => True) (fun bt _ => ?_) (fun w' hw => (tnew_s w' hw).mono fun _ _ ⟨b, h1, h2⟩ => ⟨b, h1, h2, trivial⟩)
  refine asP ?_; refine LS.done ?_
  refine zN ?_; refine mvP ?_; refine bin_eql_P ?_; refine LS.done ?_
  refine zN ?_
  refine RS.condF ?_
  refine zN ?_; refine asI ?_; refine LS.done ?_
  refine zN ?_
  refine RS.loopF (X := Nat × PH) 4 49 (fun x => x.1 ≤ 30 ∧ x.1 ≤ l.length ∧ PH.le σ1 x.2) (fun x => [(4, .int .i64 x.1)]) (fun x => x.2) (fun x => [tapHP bt (mkL l x.1) 0]) (fun x => 30 - x.1) (0, σ1) ⟨Nat.zero_le _, Nat.zero_le _, PH.le_refl _⟩ ⟨rfl, trivial⟩ rfl ⟨fun h => h⟩ ?_
  rintro ⟨i, σ2⟩ g ⟨hi, hil, hle2⟩ ih
  dsimp only at hi hil hle2
  have k2 := PH.le_trans k1 hle2
  have hml := mkL_len hil
  have ho := mkL_ok l i
  refine zN ?_; refine mvI ?_; refine mvL ?_; refine lenL ?_; refine ltI ?_; refine mvB ?_
  refine LS.cut 19 23 [(22, .bool (decide (i < l.length ∧ i < 30)))] (fun gg => ?_) (fun J => ?_)
  rotate_left
  · refine LS.part 19 (fun g1 => ?_) (fun g1 => ?_)
    · refine LS.on ?_; refine mvI ?_; refine LS.on ?_; refine ltI ?_; refine pk (v := .bool _) ?_; refine LS.done ?_
      have g1 : (i : Int) < (l.length : Int) := of_decide_eq_true g1
      exact J ⟨boolV (decide_eq_decide.2 (by (try dsimp only); omega)), trivial⟩ (by repeat (first | with_reducible exact Out.refl _ _ _ | exact Out.hv | refine Out.upd ?_ | refine Out.hvIn ?_))
    · refine LS.off ?_; refine LS.off ?_; refine pk (v := .bool _) ?_; refine LS.done ?_
      have g1 : ¬ (i : Int) < (l.length : Int) := of_decide_eq_false g1
      exact J ⟨boolV (by symm; exact decide_eq_false (by (try dsimp only); omega)), trivial⟩ (by repeat (first | with_reducible exact Out.refl _ _ _ | exact Out.hv | refine Out.upd ?_ | refine Out.hvIn ?_))
  refine zN ?_
  refine RS.cond (fun z => ?_) (fun z => ?_)
  · simp only [decide_eq_true_eq] at z
    refine RS.skip ?_
    obtain ⟨b_, o_, e_, hrow⟩ := hr.addr (fun h => by simp [h] at z)
    subst e_
    obtain ⟨cc, hcell, hrc⟩ := (hrow.mono k2) i z.1
    obtain ⟨c, hcd⟩ : ∃ c, l[i]'(z.1) = c := ⟨_, rfl⟩
    rw [hcd] at hrc
    obtain ⟨vns, rfl, hk64, hn64, hrn⟩ := hrc
    obtain ⟨an, cn, rfl⟩ := hrn.form
    have h0 := hcell 0 (by decide)
    have h1 := hcell 1 (by decide)
    have h2 := hcell 2 (by decide)
    have hc7 := tdivRange (b := 7) hn64 (by omega)
    obtain ⟨r, hrd⟩ : ∃ r, r = mk9 c := ⟨_, rfl⟩
    have hok : checkP r = 0 := by rw [hrd]; exact make_ok _ _ _ _
    refine zD ?_; refine RS.draw [.free, .free, .free, .free, .free, .ex, .free, .free, .free, .free, .ex, .free, .free, .free, .free, .ex, .free, .free, .free, .free, .ex, .free, .ex, .eff] [] ?_ (by kernel_rfl) (by kernel_rfl) (by infer_instance); refine D.mvP ?_; refine D.mvL ?_; refine D.mvI ?_; refine D.idx (i := i) ?_; refine D.fld ?_; refine D.ldS h0 ?_; refine D.mvL ?_; refine D.mvI ?_; refine D.idx (i := i) ?_; refine D.fld ?_; refine D.ldS h1 ?_; refine D.mvL ?_; refine D.mvI ?_; refine D.idx (i := i) ?_; refine D.fld ?_; refine D.ldS h2 ?_; refine D.mvL ?_; refine D.mvI ?_; refine D.idx (i := i) ?_; refine D.fld ?_; refine D.ldS h1 ?_; refine D.quoN ?_
    refine D.callN (fun v τ => RepA τ v r) ?_ (hc := fun _ σ' w' hle _ hw => by rw [hrd]; exact make_c c.kind c.n (c.n.tdiv 7) c.ns _ w' (hrn.mono (PH.le_trans hle hw.imm)))
    refine D.callWU (fun us => [.pointer (some ⟨bt, 0, none⟩), us 47]) (fun v _ => v = .tuple #[]) (fun _ _ _ h _ => h) [tapHP bt (mkL l i ++ [r]) 0] ?_ (fun us σ' w' X hle hf hw => ?_)
    rotate_left
    · obtain ⟨τ, ⟨cs, h1, h2⟩, h3, _⟩ := hf.1
      have h2 := Rep.mono h2 h3
      show Calls _ _ #[.pointer (some ⟨bt, 0, none⟩), us 47] _ _
      rw [h1]
      exact (write_s (K := [X]) r cs hok ho (by omega) (lib.mono (PH.le_trans k2 hle)) (fun w hw => Rep.mono h2 hw.imm) w' (hw.front [X] [tapHP bt (mkL l i) 0])).mono fun _ _ ⟨v, σ', g1, g2, g3, g4⟩ => ⟨v, σ', g1, g2, g3, g4.front [_] [X]⟩
    refine D.done (fun us σ3 k3 hfs => ?_)
    refine RS.ow ?_
    refine zN ?_; refine mvI ?_; (first | refine addN ?_ | refine addI ?_); refine asI ?_; refine LS.done ?_
    refine zN ?_
    have hsu : mkL l (i + 1) = mkL l i ++ [r] := by rw [mkL_succ z.1, hcd, hrd]
    exact ih (i + 1, σ3) ⟨by (try dsimp only); omega, by (try dsimp only); omega, PH.le_trans hle2 k3⟩ (by (try dsimp only); omega) ⟨rfl, trivial⟩ (by repeat (first | with_reducible exact Out.refl _ _ _ | exact Out.hv | refine Out.upd ?_ | refine Out.hvIn ?_)) ⟨fun h => by simp only [hsu]; exact h⟩ rfl
  simp only [decide_eq_false_iff_not] at z
  have hmin : (if (30 : Int) < (l.length : Int) then 30 else (l.length : Int)) = (i : Int) := by split <;> omega
  obtain ⟨rs, hrs⟩ : ∃ rs, mkL l i = rs := ⟨_, rfl⟩
  have hget : ∀ j (hj : j < rs.length), ∃ hl : j < l.length, rs[j] = mk9 l[j] := fun j hj => by
    subst hrs
    have : j < l.length := by omega
    exact ⟨this, by simp [mkL]⟩
  rw [hrs] at hml ho ⊢
  clear ih
  refine RS.exit ?_
  refine zN ?_; refine mvP ?_
  refine callQ (fun v σ' => RepL σ' v rs) [tapHP bt rs 0] (fun v50 σ3 k3 hr3 => ?_) (hc := fun w' hw => all_s ho (by omega) (lib.mono k2) w' hw)
  obtain ⟨a3, c3, rfl⟩ := hr3.form
  refine mvP ?_
  refine callQ (fun v σ' => RepL σ' v (refL rs)) [tapHP bt rs 0] (fun v52 σ4 k4 hr4 => ?_) (hc := fun w' hw => lines_s ho (by omega) w' hw)
  obtain ⟨a4, c4, rfl⟩ := hr4.form
  have e4 : (refL rs).length = rs.length := refL_len _
  rw [e4]
  rw [e4] at hr4
  refine asL ?_; refine asL ?_; refine LS.done ?_
  have hr3 := hr3.mono k4
  have k14 := PH.le_trans k2 (PH.le_trans k3 k4)
  rw [← hml] at hmin
  refine zN ?_; refine mvL ?_; refine lenL ?_; refine mvL ?_; refine lenL ?_; refine neI ?_; rw [show (!decide ((rs.length : Int) = (rs.length : Int))) = false by simp]; refine mvB ?_; refine LS.on ?_; refine mvL ?_; refine LS.on ?_; refine lenL ?_; refine LS.on ?_; refine mvL ?_; refine LS.on ?_; refine lenL ?_; refine LS.on ?_; refine minJ ?_; rw [hmin]; refine LS.on ?_; refine neI ?_; rw [show (!decide ((rs.length : Int) = (rs.length : Int))) = false by simp]; refine pk (v := .bool _) ?_; refine LS.done ?_
  refine zN ?_
  refine RS.condF ?_
  refine zN ?_; refine asI ?_; refine LS.done ?_
  refine zN ?_
  refine RS.loopF (X := Nat × PH) 7 133 (fun x => x.1 ≤ rs.length ∧ PH.le σ4 x.2) (fun x => [(7, .int .i64 x.1)]) (fun x => x.2) (fun x => [tapHP bt rs 0]) (fun x => rs.length - x.1) (0, σ4) ⟨Nat.zero_le _, PH.le_refl _⟩ ⟨rfl, trivial⟩ rfl ⟨fun h => h⟩ ?_
  rintro ⟨j, σ5⟩ g ⟨hj, hle5⟩ ih
  dsimp only at hj hle5
  have k5 := PH.le_trans k14 hle5
  refine zN ?_; refine mvI ?_; refine mvL ?_; refine lenL ?_; refine ltI ?_; refine LS.done ?_
  refine zN ?_
  refine RS.cond (fun z => ?_) (fun z => ?_)
  · have z : (j : Int) < (rs.length : Int) := of_decide_eq_true z
    have hjr : j < rs.length := by omega
    obtain ⟨hjl, hrj⟩ := hget j hjr
    obtain ⟨r, hrr⟩ : ∃ r, rs[j] = r := ⟨_, rfl⟩
    have hok : checkP r = 0 := by rw [← hrr]; exact ho _ (List.getElem_mem hjr)
    obtain ⟨b3, o3, e3, row3⟩ := hr3.addr (fun e => by rw [e] at hjr; simp at hjr)
    obtain ⟨b4, o4, e5, row4⟩ := hr4.addr (fun e => by have h0 := congrArg List.length e; rw [e4, List.length_nil] at h0; omega)
    obtain ⟨bl, ol, e6, rowl⟩ := hr.addr (fun e => by rw [e] at hjl; simp at hjl)
    subst e3; subst e5; subst e6
    obtain ⟨c3', h3, g3⟩ := (row3.mono hle5) j hjr
    rw [hrr] at g3
    obtain ⟨f3, rfl⟩ := rep_form g3
    obtain ⟨h4, _⟩ := (row4.mono hle5).str j (by omega)
    rw [show (refL rs)[j]'(by omega) = B (textP r) by simp [refL, linesP, hrr]] at h4
    obtain ⟨cc, hcell, hrc⟩ := (rowl.mono k5) j hjl
    obtain ⟨c, hcd⟩ : ∃ c, l[j]'hjl = c := ⟨_, rfl⟩
    rw [hcd] at hrc
    obtain ⟨vns, rfl, hk64, hn64, hrn⟩ := hrc
    obtain ⟨an, cn, rfl⟩ := hrn.form
    have h0 := hcell 0 (by decide)
    have h1 := hcell 1 (by decide)
    have h2 := hcell 2 (by decide)
    have hc7 := tdivRange (b := 7) hn64 (by omega)
    have hrd : r = mk9 c := by rw [← hrr, hrj, hcd]
    refine RS.skip ?_
    refine zN ?_; refine mvL ?_; refine mvI ?_; refine idx (i := j) ?_; refine ldS h4 ?_
    refine callQ (ParseA (textP r)) [tapHP bt rs 0] (fun v σ6 k6 hq => ?_) (hc := fun w' hw => parseD_x (textP r) (text_small hok) w' hw)
    obtain ⟨cs, rfl, hrep⟩ := hq
    rw [parse_text hok] at hrep ⊢
    obtain ⟨f, rfl⟩ := rep_form hrep
    refine mvT ?_; refine extr (v := _) ?_; refine extr (v := .int _ _) ?_; refine alloc_ (fun b8 => ?_); refine st (.agg _) _ ?_; refine asI ?_; refine LS.done ?_
    refine RS.to (K' := [rcW b8 r f, tapHP bt rs 0]) ?_ ⟨fun h => h⟩
    have kk : PH.le σ5 σ6 := k6
    have h3' := PH.cells_mono (n := 10) kk rfl h3
    have g3' := Rep.mono g3 kk
    have h4' := PH.cell_mono kk h4
    have h0' := PH.cell_mono kk h0
    have h1' := PH.cell_mono kk h1
    have h2' := PH.cell_mono kk h2
    refine zD ?_; refine RS.drawG [(82, some false), (91, some false), (103, some false)] [.free, .free, .free, .ex, .free, .free, .free, .ex, .ex, .free, .free, .free, .free, .free, .free, .ex, .ex, .free, .free, .free, .ex, .free, .free, .free, .free, .free, .free, .ex, .free, .free, .free, .free, .ex, .free, .free, .free, .free, .ex, .free, .free, .free, .free, .ex, .free, .free, .free, .free, .ex, .free, .ex, .ex, .free, .free] _ ?_ (by kernel_rfl) (by kernel_rfl) (by kernel_rfl) ⟨fun h => h⟩; simp only [ers, ersO, onOff, glook, nthO, List.map_cons, List.map_nil, Option.bind_some, Option.map_some, Nat.beq, cond_true, cond_false, BEq.beq]; refine D.mvI ?_; refine D.neI ?_; refine D.mvB ?_; refine D.ldA (rcV r f) ?_; refine D.mvL ?_; refine D.mvI ?_; refine D.idx (i := j) ?_; refine D.ldSA (vs := rcV r f3) rfl h3' ?_
    refine D.callP ?_ (hc := fun _ σ' w hle _ hw => same_x _ _ r r w (Rep.mono hrep (PH.le_trans hle hw.imm)) (Rep.mono g3' (PH.le_trans hle hw.imm)))
    rw [decide_eq_true (show r = r from rfl)]
    refine D.not_ ?_; refine D.pk (v := .bool _) ?_; refine D.mvB ?_; refine D.mvL ?_; refine D.mvI ?_; refine D.idx (i := j) ?_; refine D.ldSA (vs := rcV r f3) rfl h3' ?_
    refine D.callP ?_ (hc := fun _ σ' w hle _ hw => textD_x _ r w (Rep.mono g3' (PH.le_trans hle hw.imm)) hok)
    refine D.mvL ?_; refine D.mvI ?_; refine D.idx (i := j) ?_; refine D.ldS h4' ?_; refine D.neS ?_; rw [decide_eq_true (show B (textP r) = B (textP r) from rfl)]; refine D.pk (v := .bool _) ?_; refine D.mvB ?_; refine D.mvL ?_; refine D.mvI ?_; refine D.idx (i := j) ?_; refine D.ldSA (vs := rcV r f3) rfl h3' ?_; refine D.mvL ?_; refine D.mvI ?_; refine D.idx (i := j) ?_; refine D.fld ?_; refine D.ldS h0' ?_; refine D.mvL ?_; refine D.mvI ?_; refine D.idx (i := j) ?_; refine D.fld ?_; refine D.ldS h1' ?_; refine D.mvL ?_; refine D.mvI ?_; refine D.idx (i := j) ?_; refine D.fld ?_; refine D.ldS h2' ?_; refine D.mvL ?_; refine D.mvI ?_; refine D.idx (i := j) ?_; refine D.fld ?_; refine D.ldS h1' ?_; refine D.quoN ?_
    refine D.callN (fun v τ => RepA τ v r) ?_ (hc := fun _ σ' w' hle _ hw => by rw [hrd]; exact make_c c.kind c.n (c.n.tdiv 7) c.ns _ w' (hrn.mono (PH.le_trans kk (PH.le_trans hle hw.imm))))
    refine D.callP (args := fun us => [.agg (List.toArray (rcV r f3)), us 129]) (v := .bool true) ?_ (hc := fun us σ' w hle hf hw => ?_)
    rotate_left
    · obtain ⟨τ, ⟨cs, e1, e2⟩, e3, _⟩ := hf.1
      have e2 := Rep.mono e2 e3
      show Calls _ _ #[.agg (List.toArray (rcV r f3)), us 129] _ _
      rw [e1]
      have := same_x (rcV r f3) cs r r w (Rep.mono g3' (PH.le_trans hle hw.imm)) (Rep.mono e2 hw.imm)
      rw [decide_eq_true (show r = r from rfl)] at this
      exact this
    refine D.not_ ?_; refine D.pk (v := .bool _) ?_; refine D.doneG [(82, some false), (91, some false), (103, some false)] ⟨⟨rfl, rfl⟩, ⟨rfl, rfl⟩, ⟨rfl, rfl⟩, trivial⟩ (fun us σ1 hle1 hfs => ?_)
    refine RS.ow ?_
    refine zN ?_
    refine RS.condF ?_
    refine zN ?_; refine mvI ?_; (first | refine addN ?_ | refine addI ?_); refine asI ?_; refine LS.done ?_
    refine zN ?_
    exact ih (j + 1, σ1) ⟨hjr, PH.le_trans hle5 (PH.le_trans kk hle1)⟩ (by (try dsimp only); omega) ⟨rfl, trivial⟩ (by repeat (first | with_reducible exact Out.refl _ _ _ | exact Out.hv | refine Out.upd ?_ | refine Out.hvIn ?_)) ⟨fun h => h.tail⟩ rfl
  · have z : ¬ (j : Int) < (rs.length : Int) := of_decide_eq_false z
    refine RS.exit ?_
    refine zN ?_; refine asB ?_; refine LS.done ?_
    refine zN ?_; refine RS.ret1 (v := .bool _) Tryz.func4 fun w hw => ?_
    exact ⟨rfl, hw.below⟩
end Go.Proofs.YtealabaiamaojaaGreatDoor
