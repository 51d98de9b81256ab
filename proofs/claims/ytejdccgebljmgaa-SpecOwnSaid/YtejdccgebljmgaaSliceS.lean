/- Contracts: a gang's pods of a shard, all new, that may be written. -/
import Derived.Test.YtejdccgebljmgaaOwnPod
namespace Go.JW

theorem SepIn.intoGroup {g : VH} {A B : HP} {R K : List HP} {F : Nat → Prop} (h : SepIn g (A :: B :: groupHP R :: K) F) : SepIn g (groupHP (R ++ [A, B]) :: K) F := by
  have h1 : SepIn g (groupHP R :: A :: B :: K) F := (SepIn.swap (SepIn.cons_sub (fun _ h => SepIn.swap h) h))
  have h2 := SepIn.append h1
  have e : R ++ A :: B :: K = (R ++ [A, B]) ++ K := by simp
  rw [e] at h2
  exact SepIn.group h2
theorem SepIn.nilGroup {g : VH} {K : List HP} {F : Nat → Prop} (h : SepIn g K F) : SepIn g (groupHP [] :: K) F := ⟨fun _ => False, trivial, fun _ h => h.elim, h.mono fun _ hb => ⟨hb, fun h => h⟩⟩
theorem SepIn.map {g g' : VH} : ∀ {R : List HP} {F : Nat → Prop}, SepIn g R F → (∀ A ∈ R, ∀ F, A.h g F → A.h g' F) → SepIn g' R F := by
  intro R
  induction R with
  | nil => intro F _ _; trivial
  | cons A R ih => rintro F ⟨F1, h1, h2, h3⟩ h; exact ⟨F1, h A (by simp) _ h1, h2, ih h3 fun B hB => h B (by simp [hB])⟩
section
variable {P : Program} {f : FuncId} {R : Ending → World → Prop} {k : List Item} {n : Nat} {fr : Nat → Value} {w0 : World} {M : Nat → Prop} {σ : PH} {K K' : List HP}
theorem RS.formRc {v : Value} {e s m : Nat} {cs : List Value} {put : HP → List HP} (hf : FindR v K e s m cs put K') (h : ∀ a cap, v = .slice a m cap → m ≤ cap → RS P f R k n fr w0 M σ K) : RS P f R k n fr w0 M σ K :=
  ⟨fun w hw => by
    obtain ⟨F, ⟨_, _, a, cap, e, h2, _⟩, _⟩ := hw.getR (i := hf)
    exact (h a cap e h2).out w hw⟩
/-- A row's spare room is not told any more. -/
theorem RS.cutCap {e s m cap : Nat} {a : Option Addr} {cs : List Value} {put : HP → List HP} (hf : FindR (.slice a m cap) K e s m cs put K') (h : RS P f R k n fr w0 M σ (rowH e s (.slice a m m) m cs :: K')) : RS P f R k n fr w0 M σ K :=
  ⟨fun w hw => h.out w (hw.weak fun F hF => by
    obtain ⟨F1, ⟨h1, h2, a', cap', e1, h3, h4, h5⟩, h6, h7⟩ := hf.get hF
    injection e1 with e1 _ e3
    subst e1; subst e3
    refine ⟨F1, ⟨h1, h2, a, m, rfl, Nat.le_refl _, by omega, ?_⟩, h6, h7⟩
    rcases h5 with ⟨h8, _⟩ | ⟨b, c0, k1, k2, k3, k4, k5⟩
    · exact .inl ⟨h8, h8⟩
    · exact .inr ⟨b, c0, k1, k2, k3, Nat.le_trans (Nat.mul_le_mul_right _ h3) k4, k5⟩)⟩
end
end Go.JW
namespace Go.Proofs.Ytejdccgebljmgaa
open Go.JW Go.RowKit

abbrev OwnP := PodD × Value × Value
def cellsO (L : List OwnP) : List Value := L.flatMap fun x => podC x.1 x.2.1 x.2.2
def rowsO (N : Nat) (L : List OwnP) : List HP := L.flatMap fun x => [rowD N 9 x.2.1 x.1.picks, rowD N 9 x.2.2 x.1.bears]
def podsO (L : List OwnP) : List PodD := L.map (·.1)
def sliceOf (l : List PodD) (s : Int) : List PodD := l.filter fun p => decide (p.shard = s)
def OkP (p : PodD) : Prop := p.name.size ≤ 140737488355328 ∧ I64 p.shard ∧ I64 p.cpu ∧ I64 p.mem
theorem cellsO_snoc (L : List OwnP) (x : OwnP) : cellsO (L ++ [x]) = cellsO L ++ podC x.1 x.2.1 x.2.2 := by simp [cellsO]
theorem rowsO_snoc (N : Nat) (L : List OwnP) (x : OwnP) : rowsO N (L ++ [x]) = rowsO N L ++ [rowD N 9 x.2.1 x.1.picks, rowD N 9 x.2.2 x.1.bears] := by simp [rowsO]
theorem rowsO_any {N : Nat} {g g' : VH} (hc : g'.cur = g.cur) {L : List OwnP} {F : Nat → Prop} (h : SepIn g (rowsO N L) F) : SepIn g' (rowsO N L) F := h.map fun A hA F hF => by
  simp only [rowsO, List.mem_flatMap] at hA
  obtain ⟨x, _, hx⟩ := hA
  simp only [List.mem_cons, List.mem_nil_iff, or_false] at hx
  rcases hx with rfl | rfl <;> exact rowD_str hF (fun _ _ => by rw [hc])
theorem slice_c (cs : List Value) (g : GangD) (s : Int) (N : Nat) (w : World) (hr : Rep.rep (hp w) cs g) (hb : g.pods.length ≤ 1000) (hbb : ∀ p ∈ g.pods, p.picks.length ≤ 1000 ∧ p.bears.length ≤ 1000) :
    Calls Try.prog 29 #[.agg cs.toArray, .int .i64 s] w fun e w' => ∃ (x : Value × List OwnP) (τ : PH), e = .returned x.1 ∧ Post τ [rowH 26 7 x.1 x.2.length (cellsO x.2), groupHP (rowsO N x.2)] w w' ∧ (podsO x.2 = sliceOf g.pods s ∧ ∀ p ∈ podsO x.2, OkP p) := by
  obtain ⟨v, rfl, hid, hl⟩ := hr
  obtain ⟨a, cap, rfl⟩ := hl.form
  have hlen : g.pods.length ≤ 140737488355328 := hl.1
  refine RS.enter Try.func29 Try.ntmps29 rfl rfl ?_
  (repeat (first | refine RS.seq ?_ | refine RS.region ?_ | refine RS.regionQ ?_ (by kernel_rfl) (by kernel_rfl) | refine RS.skip ?_ | refine RS.inBlock ?_ | refine RS.block ?_ | refine RS.exit ?_)); refine box_ (v := .agg _) (cs := [_, _]) (fun b2 => ?_); refine asL ?_; refine LS.done ?_
  (repeat (first | refine RS.seq ?_ | refine RS.region ?_ | refine RS.regionQ ?_ (by kernel_rfl) (by kernel_rfl) | refine RS.skip ?_ | refine RS.inBlock ?_ | refine RS.block ?_ | refine RS.exit ?_)); refine asL ?_; refine LS.done ?_
  (repeat (first | refine RS.seq ?_ | refine RS.region ?_ | refine RS.regionQ ?_ (by kernel_rfl) (by kernel_rfl) | refine RS.skip ?_ | refine RS.inBlock ?_ | refine RS.block ?_ | refine RS.exit ?_)); refine fld ?_; refine ld1 (v := .slice _ _ _) ?_; refine lenL ?_; refine mvI ?_; refine LS.done ?_
  refine RS.nilRow 26 7 ?_
  refine RS.to (K' := [rowH 26 7 (.slice none 0 0) 0 [], groupHP (rowsO N []), blk b2 (.cells (List.toArray [.int .i64 g.id, .slice a g.pods.length cap]) 48 (0, 0))]) ?_ ⟨fun h => SepIn.cons_sub (fun _ h => SepIn.nilGroup h) h⟩
  (repeat (first | refine RS.seq ?_ | refine RS.region ?_ | refine RS.regionQ ?_ (by kernel_rfl) (by kernel_rfl) | refine RS.skip ?_ | refine RS.inBlock ?_ | refine RS.block ?_ | refine RS.exit ?_))
  refine RS.loopF (X := Nat × Value × List OwnP × PH) 5 25 (fun x => x.1 ≤ g.pods.length ∧ PH.le (hp w) x.2.2.2 ∧ podsO x.2.2.1 = sliceOf (g.pods.take x.1) s ∧ x.2.2.1.length ≤ x.1 ∧ ∀ p ∈ podsO x.2.2.1, OkP p) (fun x => [(11, .int .i64 x.1), (5, x.2.1), (9, .slice a g.pods.length cap), (10, .int .i64 g.pods.length)]) (fun x => x.2.2.2) (fun x => [rowH 26 7 x.2.1 x.2.2.1.length (cellsO x.2.2.1), groupHP (rowsO N x.2.2.1), blk b2 (.cells (List.toArray [.int .i64 g.id, .slice a g.pods.length cap]) 48 (0, 0))]) (fun x => g.pods.length - x.1) (0, .slice none 0 0, [], hp w) ⟨by omega, PH.le_refl _, by simp [podsO, sliceOf], by simp, by simp [podsO]⟩ ⟨rfl, rfl, rfl, rfl, trivial⟩ rfl ⟨fun h => h⟩ ?_
  rintro ⟨i, v, L, σ⟩ gg ⟨hi, hle, hpo, hLl, hok⟩ ih
  simp only at hi hle hpo hLl hok ih ⊢
  (repeat (first | refine RS.seq ?_ | refine RS.region ?_ | refine RS.regionQ ?_ (by kernel_rfl) (by kernel_rfl) | refine RS.skip ?_ | refine RS.inBlock ?_ | refine RS.block ?_ | refine RS.exit ?_)); refine ltI ?_; refine LS.done ?_
  (repeat (first | refine RS.seq ?_ | refine RS.region ?_ | refine RS.regionQ ?_ (by kernel_rfl) (by kernel_rfl) | refine RS.skip ?_ | refine RS.inBlock ?_ | refine RS.block ?_ | refine RS.exit ?_))
  by_cases hlt : i < g.pods.length
  · refine RS.condT ?_ (h := by simp; omega)
    obtain ⟨b, o, rfl, hrow⟩ := hl.addr (fun h => by simp [h] at hlt)
    obtain ⟨vs, hvr, hvl, hvc⟩ := RowAt.pod (hrow.mono hle) i hlt
    have hvr0 := hvr
    obtain ⟨vp, vb, rfl, hnm, hs64, hc64, hm64, hvp, hvb⟩ := hvr
    obtain ⟨ap, cp, rfl⟩ := hvp.form
    obtain ⟨ab, cb, rfl⟩ := hvb.form
    have hpb := hbb g.pods[i] (List.getElem_mem _)
    have htk : sliceOf (g.pods.take (i + 1)) s = sliceOf (g.pods.take i) s ++ (if g.pods[i].shard = s then [g.pods[i]] else []) := by
      rw [List.take_add_one, List.getElem?_eq_getElem hlt, sliceOf, List.filter_append]; simp [sliceOf, List.filter_cons]
    (repeat (first | refine RS.seq ?_ | refine RS.region ?_ | refine RS.regionQ ?_ (by kernel_rfl) (by kernel_rfl) | refine RS.skip ?_ | refine RS.inBlock ?_ | refine RS.block ?_ | refine RS.exit ?_)); refine idx (i := i) ?_; refine ldSA (vs := podC g.pods[i] (.slice ap g.pods[i].picks.length cp) (.slice ab g.pods[i].bears.length cb)) hvl hvc ?_; refine alloc_ (fun b7 => ?_); refine st (.agg _) _ ?_; refine LS.done ?_
    (repeat (first | refine RS.seq ?_ | refine RS.region ?_ | refine RS.regionQ ?_ (by kernel_rfl) (by kernel_rfl) | refine RS.skip ?_ | refine RS.inBlock ?_ | refine RS.block ?_ | refine RS.exit ?_)); refine fld ?_; refine ld1 (v := .int _ _) ?_; refine mvI ?_; refine eqI ?_; refine LS.done ?_
    (repeat (first | refine RS.seq ?_ | refine RS.region ?_ | refine RS.regionQ ?_ (by kernel_rfl) (by kernel_rfl) | refine RS.skip ?_ | refine RS.inBlock ?_ | refine RS.block ?_ | refine RS.exit ?_))
    refine RS.cond (fun c => ?_) (fun c => ?_)
    · simp only [decide_eq_true_eq] at c
      (repeat (first | refine RS.seq ?_ | refine RS.region ?_ | refine RS.regionQ ?_ (by kernel_rfl) (by kernel_rfl) | refine RS.skip ?_ | refine RS.inBlock ?_ | refine RS.block ?_ | refine RS.exit ?_)); refine mv (v := v) ?_; refine ldA [_, _, _, _, _, _, _] ?_
      refine callO (fun x => .agg (List.toArray (podC g.pods[i] x.1 x.2))) (fun (x : Value × Value) => [rowD N 9 x.1 g.pods[i].picks, rowD N 9 x.2 g.pods[i].bears]) (fun _ _ => True) (fun x τ1 σ2 _ hN1 hle2 hτ1 => ?_) (fun w' hw => own_c _ g.pods[i] N w' (Rep.mono hvr0 hw.imm) hpb)
      obtain ⟨v1, v2⟩ := x
      refine LS.to (K' := [rowD N 9 v1 g.pods[i].picks, rowD N 9 v2 g.pods[i].bears, rowH 26 7 v L.length (cellsO L), groupHP (rowsO N L), blk b2 (.cells (List.toArray [.int .i64 g.id, .slice (some ⟨b, o, none⟩) g.pods.length cap]) 48 (0, 0))]) ?_ ⟨fun h => SepIn.cons_sub (fun _ h => SepIn.cons_sub (fun _ h => SepIn.tail h) h) h⟩
      refine LS.formD v1 (fun a1 c1 e1 _ => ?_); subst e1
      refine LS.formD v2 (fun a2 c2 e2 _ => ?_); subst e2
      refine bldS [.agg (List.toArray (podC g.pods[i] (.slice a1 g.pods[i].picks.length c1) (.slice a2 g.pods[i].bears.length c2)))] (podC g.pods[i] (.slice a1 g.pods[i].picks.length c1) (.slice a2 g.pods[i].bears.length c2)) (fun b22 => ?_); refine appR (v := v) (kk := 1) (vy := .slice (some ⟨b22, 0, none⟩) 1 1) (news := podC g.pods[i] (.slice a1 g.pods[i].picks.length c1) (.slice a2 g.pods[i].bears.length c2)) (fun w hw => srcB hw TSlice.eq) (fun v23 => ?_); refine as_ (v := v23) ?_; refine LS.done ?_
      (repeat (first | refine RS.seq ?_ | refine RS.region ?_ | refine RS.regionQ ?_ (by kernel_rfl) (by kernel_rfl) | refine RS.skip ?_ | refine RS.inBlock ?_ | refine RS.block ?_ | refine RS.exit ?_)); (first | refine addN ?_ | refine addI ?_); refine mvI ?_; refine LS.done ?_; (repeat (first | refine RS.seq ?_ | refine RS.region ?_ | refine RS.regionQ ?_ (by kernel_rfl) (by kernel_rfl) | refine RS.skip ?_ | refine RS.inBlock ?_ | refine RS.block ?_ | refine RS.exit ?_))
      have eC := cellsO_snoc L (g.pods[i], .slice a1 g.pods[i].picks.length c1, .slice a2 g.pods[i].bears.length c2)
      have eR := rowsO_snoc N L (g.pods[i], .slice a1 g.pods[i].picks.length c1, .slice a2 g.pods[i].bears.length c2)
      have eP : podsO (L ++ [(g.pods[i], .slice a1 g.pods[i].picks.length c1, .slice a2 g.pods[i].bears.length c2)]) = podsO L ++ [g.pods[i]] := by simp [podsO]
      refine ih (i + 1, v23, L ++ [(g.pods[i], .slice a1 g.pods[i].picks.length c1, .slice a2 g.pods[i].bears.length c2)], σ2) ⟨hlt, PH.le_trans hle hle2, ?_, ?_, ?_⟩ (by omega) ⟨rfl, rfl, rfl, rfl, trivial⟩ (by repeat (first | with_reducible exact Out.refl _ _ _ | exact Out.hv | refine Out.upd ?_ | refine Out.hvIn ?_)) ⟨fun h => ?_⟩ rfl
      · rw [htk, if_pos c, ← hpo]; exact eP
      · show (L ++ [_]).length ≤ i + 1; simp; omega
      · show ∀ p ∈ podsO (L ++ [_]), OkP p
        rw [eP]; intro p hp
        rcases List.mem_append.1 hp with hp | hp
        · exact hok p hp
        · simp at hp; subst hp; exact ⟨hnm, hs64, hc64, hm64⟩
      · simp only [eC, eR, List.length_append, List.length_singleton]
        exact (SepIn.intoGroup (SepIn.cons_sub (fun _ h => SepIn.cons_sub (fun _ h => SepIn.swap h) h) h.tail)).swap
    · simp only [decide_eq_false_iff_not] at c
      (repeat (first | refine RS.seq ?_ | refine RS.region ?_ | refine RS.regionQ ?_ (by kernel_rfl) (by kernel_rfl) | refine RS.skip ?_ | refine RS.inBlock ?_ | refine RS.block ?_ | refine RS.exit ?_)); (first | refine addN ?_ | refine addI ?_); refine mvI ?_; refine LS.done ?_; (repeat (first | refine RS.seq ?_ | refine RS.region ?_ | refine RS.regionQ ?_ (by kernel_rfl) (by kernel_rfl) | refine RS.skip ?_ | refine RS.inBlock ?_ | refine RS.block ?_ | refine RS.exit ?_))
      exact ih (i + 1, v, L, σ) ⟨hlt, hle, by rw [htk, if_neg c, List.append_nil]; exact hpo, Nat.le_succ_of_le hLl, hok⟩ (by omega) ⟨rfl, rfl, rfl, rfl, trivial⟩ (by repeat (first | with_reducible exact Out.refl _ _ _ | exact Out.hv | refine Out.upd ?_ | refine Out.hvIn ?_)) ⟨fun h => h.tail⟩ rfl
  · refine RS.condF ?_ (h := by simp; omega)
    obtain rfl : i = g.pods.length := by omega
    rw [List.take_length] at hpo
    clear ih hlt
    refine RS.formRc (v := v) inferInstance (fun av cv ev hcv => ?_); subst ev
    (repeat (first | refine RS.seq ?_ | refine RS.region ?_ | refine RS.regionQ ?_ (by kernel_rfl) (by kernel_rfl) | refine RS.skip ?_ | refine RS.inBlock ?_ | refine RS.block ?_ | refine RS.exit ?_)); refine mvL ?_; refine mvL ?_; refine lenL ?_; refine mvL ?_; refine lenL ?_; refine slcCut L.length ?_; refine asL ?_; refine LS.done ?_
    refine RS.cutCap (a := av) (m := L.length) (cap := cv) inferInstance ?_
    (repeat (first | refine RS.seq ?_ | refine RS.region ?_ | refine RS.regionQ ?_ (by kernel_rfl) (by kernel_rfl) | refine RS.skip ?_ | refine RS.inBlock ?_ | refine RS.block ?_ | refine RS.exit ?_)); refine RS.ret1 (v := .slice _ _ _) Try.func29 fun w hw => ?_
    refine ⟨(_, L), fun _ => none, rfl, ?_, hpo, hok⟩
    refine Sat.post hw (fun _ _ => rfl) (fun b o h => (by cases h)) fun F hF => ?_
    obtain ⟨F1, h1, h2, F2, h3, h4, _⟩ := hF
    exact ⟨F1, h1, h2, F2, (rowsO_any (N := N) (L := L) (show (⟨fun _ => none, hp w⟩ : VH).cur = (⟨σ, hp w⟩ : VH).cur from rfl) h3), h4, trivial⟩
end Go.Proofs.Ytejdccgebljmgaa
