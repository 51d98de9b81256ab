/- Walk: LedgerPlays. -/
import Derived.Test.YtbinkokafbpnoaaGives
namespace Go.JW
section
variable {P : Program} {q : Bool} {ops : Array Oper} {f : FuncId} {R : Ending → World → Prop} {k : List Item} {n : Nat} {fr : Nat → Value} {w0 : World} {M : Nat → Prop} {σ : PH} {K K' : List HP}
variable {rest : List Oper} {d : Nat} {ty : TypeId} {pos : String} {aft : Array Edge} {x y z : Operand} {t t' : TypeId} {H : HS} {O : List (Nat × Obj)} {Kf : Us → List HP} {Kb : List HP} {E : List Nat} {tags : List Tag}
theorem D.neqX {kk : IntKind} {a b : Int} {x y : Operand} (h : LD P f R k n w0 M σ Kb rest tags ⟨upd fr d (.bool (!decide (a = b))), H, O, Kf, E, false⟩)
    (hx : ∀ us σ', Facts H (readsTmp ⟨some d, .binOp .neq t x y t, ty, pos, aft, none⟩) us σ' → ev n (fill fr H us) x = .int kk a) (hy : ∀ us σ', Facts H (readsTmp ⟨some d, .binOp .neq t x y t, ty, pos, aft, none⟩) us σ' → ev n (fill fr H us) y = .int kk b) :
    LD P f R k n w0 M σ Kb (⟨some d, .binOp .neq t x y t, ty, pos, aft, none⟩ :: rest) (.ex :: tags) ⟨fr, H, O, Kf, E, false⟩ :=
  D.ex h fun us σ' w _ hf _ => exec_bin (hx us σ' hf) (hy us σ' hf) (by simp [binOp, Op.intCmp]; rfl)
end
end Go.JW
namespace Go.Proofs.Ytbinkokafbpnoaa
open Go.JW Go.RowKit
section
variable {q : Bool} {ops : Array Oper} {f : FuncId} {R : Ending → World → Prop} {k : List Item} {n : Nat} {fr : Nat → Value} {w0 : World} {M : Nat → Prop} {σ : PH} {K K' : List HP}
variable {rest : List Oper} {d : Nat} {ty : TypeId} {pos : String} {aft : Array Edge} {xs : Array Operand} {ts : Array TypeId} {br : Nat} {S : LedD} {put : HP → List HP}
variable {H : HS} {O : List (Nat × Obj)} {Kf : Us → List HP} {Kb : List HP} {E0 : List Nat} {tags : List Tag}
theorem D.rputL (nd : NodeD) (am at_ : Option Addr) (cm ct : Nat) {kk : Nat} (hi : LedInv S kk) (hk : kk ≤ 1000000) (hl : S.taken.length ≤ 1000) (hr : Rep.rep σ (nodeC nd (.slice am nd.marks.length cm) (.slice at_ nd.taints.length ct)) nd)
    (h : LD Try.prog f R k n w0 M σ Kb rest tags ⟨fr, (d, fun u _ => u = .int .i64 (putE S nd)) :: H, O, fun _ => put (refHP br ⟨putN S nd, S.taken⟩), d :: ((Stg.mk fr H O (fun _ => K) E0 false).seen ⟨some d, .call ⟨.value (.func 24), xs, ts⟩, ty, pos, aft, none⟩ ++ E0), false⟩)
    (hx : ∀ us, xs.toList.map (ev n (fill fr H us)) = [.pointer (some ⟨br, 0, none⟩), .agg (List.toArray (nodeC nd (.slice am nd.marks.length cm) (.slice at_ nd.taints.length ct)))] := by intro _; rfl) (hf : FindX br K S put K' := by infer_instance) (hL : Less (put (refHP br ⟨putN S nd, S.taken⟩)) Kb := by infer_instance) :
    LD Try.prog f R k n w0 M σ Kb (⟨some d, .call ⟨.value (.func 24), xs, ts⟩, ty, pos, aft, none⟩ :: rest) (.eff :: tags) ⟨fr, H, O, fun _ => K, E0, false⟩ :=
  D.eff (fun u _ => u = .int .i64 (putE S nd)) (fun _ => put (refHP br ⟨putN S nd, S.taken⟩)) _ (fun _ _ _ h _ => h) (fun _ => hL) h fun us σ' w X hle hfs hw => by
    refine .inr ⟨_, _, exec_call Fun.eq (hx us) w, ?_⟩
    have hw' : Sat w0 M σ' (refHP br S :: X :: K') w := hw.weak fun _ h => (SepIn.cons_sub (fun _ => hf.get) h).swap
    exact (rput_c nd am at_ cm ct (ArgAt.of (Rep.mono hr hle)) hi hk hl hw').mono fun _ _ ⟨he, σ'', h1, h2⟩ => ⟨_, he, σ'', h1, h2.weak fun _ h => SepIn.cons_sub (fun _ => hf.set) h.swap, rfl⟩
end
theorem rowWriteP {σ : PH} {c0 : List Value} {l : List PlaceD} (h : CellsL σ (c0.take (l.length * 5)) l) (hl : l.length * 5 ≤ c0.length) (i : Nat) (hi : i < l.length) (f : Nat) (vs : List Value) (hf : f + vs.length ≤ 5) (x' : PlaceD) (hx : ∀ c, Rep.rep σ c l[i] → Rep.rep σ (setAt c f vs) x') :
    CellsL σ ((setAt c0 (0 + i * 5 + f) vs).take (l.length * 5)) (l.set i x') := by
  have hmul : i * 5 + 5 ≤ l.length * 5 := by omega
  rw [take_setAt _ _ _ _ (by omega) hl, Nat.zero_add]
  exact h.write i hi f vs hf x' hx
theorem ledPlays_c (ns ms : List Int) (raw : Int) (hraw : I64 raw) (vn vm : Value) (w : World) (hr : RepL (hp w) vn ns) (hrm : RepL (hp w) vm ms) : Calls Try.prog 10 #[vn, vm, .int .i64 raw] w fun e w' => e = .returned (.bool true) ∧ Below w.heap.size w w' := by
  obtain ⟨an, cn, rfl⟩ := hr.form
  obtain ⟨am, cm, rfl⟩ := hrm.form
  have hlen : ns.length ≤ 140737488355328 := hr.1
  refine RS.enter Try.func10 Try.ntmps10 rfl rfl ?_
  (repeat (first | refine RS.seq ?_ | refine RS.region ?_ | refine RS.regionQ ?_ (by kernel_rfl) (by kernel_rfl) | refine RS.skip ?_ | refine RS.inBlock ?_ | refine RS.block ?_ | refine RS.exit ?_)); refine asB ?_; refine LS.done ?_
  (repeat (first | refine RS.seq ?_ | refine RS.region ?_ | refine RS.regionQ ?_ (by kernel_rfl) (by kernel_rfl) | refine RS.skip ?_ | refine RS.inBlock ?_ | refine RS.block ?_ | refine RS.exit ?_)); skip
  refine callP ?_ (hc := fun w _ => known7_c w)
  refine not_ ?_; refine LS.done ?_
  (repeat (first | refine RS.seq ?_ | refine RS.region ?_ | refine RS.regionQ ?_ (by kernel_rfl) (by kernel_rfl) | refine RS.skip ?_ | refine RS.inBlock ?_ | refine RS.block ?_ | refine RS.exit ?_)); refine RS.condF ?_
  (repeat (first | refine RS.seq ?_ | refine RS.region ?_ | refine RS.regionQ ?_ (by kernel_rfl) (by kernel_rfl) | refine RS.skip ?_ | refine RS.inBlock ?_ | refine RS.block ?_ | refine RS.exit ?_)); skip
  refine newL (fun bl => ?_)
  refine bld (vals := []) [_, _] ?_; refine box_ (v := .agg _) (cs := [_, _]) (fun b18 => ?_); refine asP ?_; refine asP ?_; refine LS.done ?_
  (repeat (first | refine RS.seq ?_ | refine RS.region ?_ | refine RS.regionQ ?_ (by kernel_rfl) (by kernel_rfl) | refine RS.skip ?_ | refine RS.inBlock ?_ | refine RS.block ?_ | refine RS.exit ?_)); refine mvP ?_; refine bin_eql_P ?_; refine LS.done ?_
  (repeat (first | refine RS.seq ?_ | refine RS.region ?_ | refine RS.regionQ ?_ (by kernel_rfl) (by kernel_rfl) | refine RS.skip ?_ | refine RS.inBlock ?_ | refine RS.block ?_ | refine RS.exit ?_)); refine RS.condF ?_
  refine RS.skip ?_
  refine RS.to (K' := [ledHP bl ⟨[], []⟩, refHP b18 ⟨[], []⟩]) ?_ ⟨fun h => (newRef h).swap⟩
  (repeat (first | refine RS.seq ?_ | refine RS.region ?_ | refine RS.regionQ ?_ (by kernel_rfl) (by kernel_rfl) | refine RS.skip ?_ | refine RS.inBlock ?_ | refine RS.block ?_ | refine RS.exit ?_)); refine asI ?_; refine LS.done ?_
  (repeat (first | refine RS.seq ?_ | refine RS.region ?_ | refine RS.regionQ ?_ (by kernel_rfl) (by kernel_rfl) | refine RS.skip ?_ | refine RS.inBlock ?_ | refine RS.block ?_ | refine RS.exit ?_))
  refine RS.loopF (X := Nat × LedD × PH) 9 114 (fun x => x.1 ≤ 70 ∧ x.1 ≤ ns.length ∧ LedInv x.2.1 (3 * x.1) ∧ x.2.1.taken.length ≤ x.1 ∧ PH.le (hp w) x.2.2) (fun x => [(9, .int .i64 x.1)]) (fun x => x.2.2) (fun x => [ledHP bl x.2.1, refHP b18 x.2.1]) (fun x => 70 - x.1) (0, ⟨[], []⟩, hp w) ⟨by omega, by omega, LedInv.empty 0, Nat.le_refl _, PH.le_refl _⟩ ⟨rfl, trivial⟩ rfl ⟨fun h => h⟩ ?_
  rintro ⟨i, S0, σ2⟩ gg ⟨hi70, hin, hi0, ht0, hle2⟩ ih
  simp only at hi70 hin hi0 ht0 hle2 ih ⊢
  (repeat (first | refine RS.seq ?_ | refine RS.region ?_ | refine RS.regionQ ?_ (by kernel_rfl) (by kernel_rfl) | refine RS.skip ?_ | refine RS.inBlock ?_ | refine RS.block ?_ | refine RS.exit ?_)); refine mvI ?_; refine mvL ?_; refine lenL ?_; refine ltI ?_; refine mvB ?_
  refine LS.cut 25 29 [(28, .bool (decide (i < 70 ∧ i < ns.length)))] (fun gg => ?_) (fun J => ?_)
  rotate_left
  · refine LS.part 25 (fun g1 => ?_) (fun g1 => ?_)
    · refine LS.on ?_; refine mvI ?_; refine LS.on ?_; refine ltI ?_; refine pk (v := .bool _) ?_; refine LS.done ?_
      simp only [decide_eq_true_eq] at g1
      exact J ⟨boolV (decide_eq_decide.2 (by omega)), trivial⟩ (by repeat (first | with_reducible exact Out.refl _ _ _ | exact Out.hv | refine Out.upd ?_ | refine Out.hvIn ?_))
    · refine LS.off ?_; refine LS.off ?_; refine pk (v := .bool _) ?_; refine LS.done ?_
      simp only [decide_eq_false_iff_not] at g1
      exact J ⟨boolV (by symm; exact decide_eq_false (by omega)), trivial⟩ (by repeat (first | with_reducible exact Out.refl _ _ _ | exact Out.hv | refine Out.upd ?_ | refine Out.hvIn ?_))
  (repeat (first | refine RS.seq ?_ | refine RS.region ?_ | refine RS.regionQ ?_ (by kernel_rfl) (by kernel_rfl) | refine RS.skip ?_ | refine RS.inBlock ?_ | refine RS.block ?_ | refine RS.exit ?_))
  refine RS.cond (fun z => ?_) (fun z => ?_)
  · simp only [decide_eq_true_eq] at z
    obtain ⟨b, o, rfl, hrow⟩ := hr.addr (fun h => by simp [h] at z)
    obtain ⟨hcell, h64⟩ := (hrow.mono hle2).int i z.2
    have hq := tdivRange (b := 8) h64 (by omega)
    (repeat (first | refine RS.seq ?_ | refine RS.region ?_ | refine RS.regionQ ?_ (by kernel_rfl) (by kernel_rfl) | refine RS.skip ?_ | refine RS.inBlock ?_ | refine RS.block ?_ | refine RS.exit ?_)); refine mvL ?_; refine mvI ?_; refine idx (i := i) ?_; refine ldS hcell ?_; refine quoN ?_; refine asI ?_; refine LS.done ?_
    obtain ⟨k, hk⟩ : ∃ k, k = ns[i].tdiv 8 := ⟨_, rfl⟩
    rw [← hk] at hq ⊢
    obtain ⟨q1, q2⟩ := wmod k 10 (by omega)
    have hq8 := tdivRange (b := 8) (show I64 k from hq) (by omega)
    (repeat (first | refine RS.seq ?_ | refine RS.region ?_ | refine RS.regionQ ?_ (by kernel_rfl) (by kernel_rfl) | refine RS.skip ?_ | refine RS.inBlock ?_ | refine RS.block ?_ | refine RS.exit ?_)); refine mvI ?_
    refine callP ?_ (hc := fun w _ => w7_c _ _ (by omega) (by omega) w)
    refine asI ?_; refine LS.done ?_
    (repeat (first | refine RS.seq ?_ | refine RS.region ?_ | refine RS.regionQ ?_ (by kernel_rfl) (by kernel_rfl) | refine RS.skip ?_ | refine RS.inBlock ?_ | refine RS.block ?_ | refine RS.exit ?_)); refine mvL ?_; refine mvI ?_; refine idx (i := i) ?_; refine ldS hcell ?_
    refine callP ?_ (hc := fun w _ => w7_c _ _ (by omega) (by omega) w)
    refine LS.done ?_
    (repeat (first | refine RS.seq ?_ | refine RS.region ?_ | refine RS.regionQ ?_ (by kernel_rfl) (by kernel_rfl) | refine RS.skip ?_ | refine RS.inBlock ?_ | refine RS.block ?_ | refine RS.exit ?_)); refine eqI ?_; refine asB ?_; refine LS.done ?_
    (repeat (first | refine RS.seq ?_ | refine RS.region ?_ | refine RS.skip ?_ | refine RS.inBlock ?_ | refine RS.block ?_ | refine RS.exit ?_))
    refine RS.cut (X := Bool) 69 114 (fun _ => True) (fun x => [(69, .bool x)]) (fun _ => σ2) (fun _ => [ledHP bl S0, refHP b18 S0]) ?_ (fun J => ?_)
    rotate_left
    · refine RS.cond (fun y => ?_) (fun y => ?_)
      · refine RS.skip ?_
        exact J _ trivial ⟨rfl, trivial⟩ (by repeat (first | with_reducible exact Out.refl _ _ _ | exact Out.hv | refine Out.upd ?_ | refine Out.hvIn ?_)) ⟨fun h => h⟩ rfl
      · (repeat (first | refine RS.seq ?_ | refine RS.region ?_ | refine RS.regionQ ?_ (by kernel_rfl) (by kernel_rfl) | refine RS.skip ?_ | refine RS.inBlock ?_ | refine RS.block ?_ | refine RS.exit ?_)); refine eqI ?_; refine asB ?_; refine LS.done ?_
        (repeat (first | refine RS.seq ?_ | refine RS.region ?_ | refine RS.skip ?_ | refine RS.inBlock ?_ | refine RS.block ?_ | refine RS.exit ?_))
        refine RS.cond (fun y => ?_) (fun y => ?_)
        · refine RS.skip ?_
          exact J _ trivial ⟨rfl, trivial⟩ (by repeat (first | with_reducible exact Out.refl _ _ _ | exact Out.hv | refine Out.upd ?_ | refine Out.hvIn ?_)) ⟨fun h => h⟩ rfl
        · (repeat (first | refine RS.seq ?_ | refine RS.region ?_ | refine RS.regionQ ?_ (by kernel_rfl) (by kernel_rfl) | refine RS.skip ?_ | refine RS.inBlock ?_ | refine RS.block ?_ | refine RS.exit ?_)); refine eqI ?_; refine asB ?_; refine LS.done ?_
          exact J _ trivial ⟨rfl, trivial⟩ (by repeat (first | with_reducible exact Out.refl _ _ _ | exact Out.hv | refine Out.upd ?_ | refine Out.hvIn ?_)) ⟨fun h => h⟩ rfl
    rintro bb g4 _
    (repeat (first | refine RS.seq ?_ | refine RS.region ?_ | refine RS.skip ?_ | refine RS.inBlock ?_ | refine RS.block ?_ | refine RS.exit ?_))
    refine RS.cut (X := LedD × PH) 10 114 (fun x => LedInv x.1 (3 * (i + 1)) ∧ x.1.taken.length ≤ i + 1 ∧ PH.le (hp w) x.2) (fun _ => []) (fun x => x.2) (fun x => [ledHP bl x.1, refHP b18 x.1]) ?_ (fun J => ?_)
    rotate_left
    · have up : ∀ {S : LedD} {a : Nat}, LedInv S a → a ≤ 3 * (i + 1) → LedInv S (3 * (i + 1)) := fun h ha => ⟨h.nodes, h.keys, h.some_, h.right, h.there, h.fits, fun nm => by have := h.count nm; omega, h.size⟩
      refine RS.cond (fun y => ?_) (fun y => ?_)
      · (repeat (first | refine RS.seq ?_ | refine RS.region ?_ | refine RS.regionQ ?_ (by kernel_rfl) (by kernel_rfl) | refine RS.skip ?_ | refine RS.inBlock ?_ | refine RS.block ?_ | refine RS.exit ?_)); refine mvI ?_; refine mvI ?_; refine quoN ?_
        refine callT (fun v τ => RepA τ v (nodeOf k (k.tdiv 8))) (fun v τ1 σ3 hq1 hN1 hle3 hτ1 => ?_) (fun w' hw => lnode_c _ _ hq8 w')
        obtain ⟨cs, rfl, hrp⟩ := hq1
        have hrp' := Rep.mono hrp hτ1
        obtain ⟨nd0, hnd0⟩ : ∃ nd0, nd0 = nodeOf k (k.tdiv 8) := ⟨_, rfl⟩
        rw [← hnd0] at hrp hrp'
        obtain ⟨v1, v2, rfl, hh1, hh2, hh3, hv1, hv2⟩ := hrp
        obtain ⟨a1, c1, rfl⟩ := hv1.form
        obtain ⟨a2, c2, rfl⟩ := hv2.form
        have hrc : ∀ c, I64 c → Rep.rep σ3 (nodeC { nd0 with cpu := c } (.slice a1 nd0.marks.length c1) (.slice a2 nd0.taints.length c2)) { nd0 with cpu := c } := fun c hc => ⟨_, _, rfl, hh1, hc, hh3, hv1.mono hτ1, hv2.mono hτ1⟩
        refine alloc_ (fun b12 => ?_); refine st (.agg _) _ ?_; refine LS.done ?_
        (repeat (first | refine RS.seq ?_ | refine RS.region ?_ | refine RS.regionQ ?_ (by kernel_rfl) (by kernel_rfl) | refine RS.skip ?_ | refine RS.inBlock ?_ | refine RS.block ?_ | refine RS.exit ?_)); refine mvI ?_
        refine callP ?_ (hc := fun w _ => w7_c _ _ (by omega) (by omega) w)
        refine eqI ?_; refine LS.done ?_
        (repeat (first | refine RS.seq ?_ | refine RS.region ?_ | refine RS.skip ?_ | refine RS.inBlock ?_ | refine RS.block ?_ | refine RS.exit ?_))
        refine RS.cut (X := Int) 77 114 (fun c => I64 c) (fun _ => []) (fun _ => σ3) (fun c => [blk b12 (.cells (List.toArray (nodeC { nd0 with cpu := c } (.slice a1 nd0.marks.length c1) (.slice a2 nd0.taints.length c2))) 33 (0, 0)), ledHP bl S0, refHP b18 S0]) ?_ (fun J2 => ?_)
        rotate_left
        · refine RS.cond (fun y => ?_) (fun y => ?_)
          · (repeat (first | refine RS.seq ?_ | refine RS.region ?_ | refine RS.regionQ ?_ (by kernel_rfl) (by kernel_rfl) | refine RS.skip ?_ | refine RS.inBlock ?_ | refine RS.block ?_ | refine RS.exit ?_)); refine mvI ?_; refine fld ?_; refine fld ?_; refine st (.int _ _) _ ?_; refine LS.done ?_
            exact J2 raw hraw trivial (by repeat (first | with_reducible exact Out.refl _ _ _ | exact Out.hv | refine Out.upd ?_ | refine Out.hvIn ?_)) ⟨fun h => h⟩ rfl
          · refine RS.skip ?_
            exact J2 nd0.cpu hh2 trivial (by repeat (first | with_reducible exact Out.refl _ _ _ | exact Out.hv | refine Out.upd ?_ | refine Out.hvIn ?_)) ⟨fun h => h⟩ rfl
        rintro c g5 hc64
        have hrn := hrc c hc64
        obtain ⟨nd, hnd⟩ : ∃ nd : NodeD, nd = { nd0 with cpu := c } := ⟨_, rfl⟩
        have e1 : nd0.marks.length = nd.marks.length := by rw [hnd]
        have e2 : nd0.taints.length = nd.taints.length := by rw [hnd]
        rw [← hnd, e1, e2] at hrn
        rw [← hnd, e1, e2]
        (repeat (first | refine RS.seq ?_ | refine RS.region ?_ | refine RS.skip ?_ | refine RS.inBlock ?_ | refine RS.block ?_ | refine RS.exit ?_)); refine RS.draw [.free, .ex, .eff, .free, .ex, .eff, .ex] [blk b12 (.cells (List.toArray (nodeC nd (.slice a1 nd.marks.length c1) (.slice a2 nd.taints.length c2))) 33 (0, 0))] ?_ (by kernel_rfl) (by kernel_rfl) (by infer_instance); refine D.mvP ?_; refine D.ldA (nodeC nd (.slice a1 nd.marks.length c1) (.slice a2 nd.taints.length c2)) ?_
        refine D.putL nd a1 a2 c1 c2 (putE S0 nd) ⟨putN S0 nd, S0.taken⟩ hi0 (by omega) (fun σ' hle => Rep.mono hrn hle) rfl rfl ?_
        refine D.mvP ?_; refine D.ldA (nodeC nd (.slice a1 nd.marks.length c1) (.slice a2 nd.taints.length c2)) ?_
        refine D.rputL nd a1 a2 c1 c2 hi0 (by omega) (by omega) hrn ?_
        refine D.neqX (kk := .i64) (a := putE S0 nd) (b := putE S0 nd) ?_ (fun us σ' hf => hf.2.1) (fun us σ' hf => hf.1)
        refine D.done (fun us σ4 hle4 hfs => ?_)
        refine RS.ow ?_
        (repeat (first | refine RS.seq ?_ | refine RS.region ?_ | refine RS.regionQ ?_ (by kernel_rfl) (by kernel_rfl) | refine RS.skip ?_ | refine RS.inBlock ?_ | refine RS.block ?_ | refine RS.exit ?_)); refine RS.condF ?_ (h := by simp)
        refine RS.skip ?_
        exact J (_, σ4) ⟨up (hi0.put nd) (by omega), by (try dsimp only); omega, PH.le_trans hle2 (PH.le_trans hle3 hle4)⟩ trivial (by repeat (first | with_reducible exact Out.refl _ _ _ | exact Out.hv | refine Out.upd ?_ | refine Out.hvIn ?_)) ⟨fun h => h.tail⟩ rfl
      · (repeat (first | refine RS.seq ?_ | refine RS.region ?_ | refine RS.regionQ ?_ (by kernel_rfl) (by kernel_rfl) | refine RS.skip ?_ | refine RS.inBlock ?_ | refine RS.block ?_ | refine RS.exit ?_)); refine eqI ?_; refine asB ?_; refine LS.done ?_
        (repeat (first | refine RS.seq ?_ | refine RS.region ?_ | refine RS.skip ?_ | refine RS.inBlock ?_ | refine RS.block ?_ | refine RS.exit ?_))
        refine RS.cond (fun y => ?_) (fun y => ?_)
        · (repeat (first | refine RS.seq ?_ | refine RS.region ?_ | refine RS.regionQ ?_ (by kernel_rfl) (by kernel_rfl) | refine RS.skip ?_ | refine RS.inBlock ?_ | refine RS.block ?_ | refine RS.exit ?_)); refine mvP ?_; refine mvI ?_
          refine callP ?_ (hc := fun w _ => lname_c _ w)
          skip
          refine goneL (nameOf k) hi0 (by omega) ?_
          refine mvP ?_; refine mvI ?_
          refine callP ?_ (hc := fun w _ => lname_c _ w)
          skip
          refine rgoneL (nameOf k) hi0 (by omega) (by omega) (fun σ4 hle4 => ?_)
          refine neI ?_; refine LS.done ?_
          (repeat (first | refine RS.seq ?_ | refine RS.region ?_ | refine RS.regionQ ?_ (by kernel_rfl) (by kernel_rfl) | refine RS.skip ?_ | refine RS.inBlock ?_ | refine RS.block ?_ | refine RS.exit ?_)); refine RS.condF ?_ (h := by simp)
          refine RS.skip ?_
          exact J (_, σ4) ⟨up (hi0.goneI _) (by omega), by (try dsimp only); omega, PH.le_trans hle2 hle4⟩ trivial (by repeat (first | with_reducible exact Out.refl _ _ _ | exact Out.hv | refine Out.upd ?_ | refine Out.hvIn ?_)) ⟨fun h => h⟩ rfl
        · (repeat (first | refine RS.seq ?_ | refine RS.region ?_ | refine RS.regionQ ?_ (by kernel_rfl) (by kernel_rfl) | refine RS.skip ?_ | refine RS.inBlock ?_ | refine RS.block ?_ | refine RS.exit ?_)); refine eqI ?_; refine asB ?_; refine LS.done ?_
          (repeat (first | refine RS.seq ?_ | refine RS.region ?_ | refine RS.skip ?_ | refine RS.inBlock ?_ | refine RS.block ?_ | refine RS.exit ?_))
          refine RS.cond (fun y => ?_) (fun y => ?_)
          · (repeat (first | refine RS.seq ?_ | refine RS.region ?_ | refine RS.regionQ ?_ (by kernel_rfl) (by kernel_rfl) | refine RS.skip ?_ | refine RS.inBlock ?_ | refine RS.block ?_ | refine RS.exit ?_)); refine mvP ?_; refine mvI ?_
            refine giveL (k % 10) ?_
            refine mvP ?_; refine mvI ?_
            refine rgiveL (k % 10) hi0 (by omega) (fun σ4 hle4 => ?_)
            refine neI ?_; refine LS.done ?_
            (repeat (first | refine RS.seq ?_ | refine RS.region ?_ | refine RS.regionQ ?_ (by kernel_rfl) (by kernel_rfl) | refine RS.skip ?_ | refine RS.inBlock ?_ | refine RS.block ?_ | refine RS.exit ?_)); refine RS.condF ?_ (h := by simp)
            refine RS.skip ?_
            have htl := giveT_len S0.taken (k % 10)
            exact J (⟨S0.nodes, giveT S0.taken (k % 10)⟩, σ4) ⟨up (hi0.give _) (by omega), by (try dsimp only); omega, PH.le_trans hle2 hle4⟩ trivial (by repeat (first | with_reducible exact Out.refl _ _ _ | exact Out.hv | refine Out.upd ?_ | refine Out.hvIn ?_)) ⟨fun h => h⟩ rfl
          · have hpl := placesOf_len ms k
            (repeat (first | refine RS.seq ?_ | refine RS.region ?_ | refine RS.regionQ ?_ (by kernel_rfl) (by kernel_rfl) | refine RS.skip ?_ | refine RS.inBlock ?_ | refine RS.block ?_ | refine RS.exit ?_)); refine mvL ?_; refine mvI ?_
            refine callO (X := Value) (fun x => x) (fun x => [rowD 0 43 x (placesOf ms k)]) (fun _ _ => True) (fun v τ1 σ3 _ hN1 hle3 hτ1 => ?_) (fun w' hw => (lplacesO_c ms k _ w' (hrm.mono (PH.le_trans hle2 hw.imm))).mono fun _ _ ⟨v, τ, he, hp'⟩ => ⟨v, τ, he, hp', trivial⟩)
            refine LS.to (K' := [rowD 0 43 v (placesOf ms k), ledHP bl S0, refHP b18 S0]) ?_ ⟨fun h => h⟩
            refine LS.formD (l := placesOf ms k) v (fun a1 c1 e1 _ => ?_); subst e1
            obtain ⟨m1, m2⟩ := wmod k 31 (by omega)
            refine asL ?_; refine LS.done ?_
            (repeat (first | refine RS.seq ?_ | refine RS.region ?_ | refine RS.regionQ ?_ (by kernel_rfl) (by kernel_rfl) | refine RS.skip ?_ | refine RS.inBlock ?_ | refine RS.block ?_ | refine RS.exit ?_)); refine mvL ?_; refine lenL ?_; refine gtI ?_; refine mvB ?_
            refine LS.cut 49 54 [(53, .bool (decide (0 < (placesOf ms k).length) && decide (k % 31 = 0)))] (fun gg => ?_) (fun J3 => ?_)
            rotate_left
            · refine LS.part 49 (fun g1 => ?_) (fun g1 => ?_)
              · simp only [decide_eq_true_eq] at g1
                refine LS.on ?_; refine mvI ?_; refine LS.on ?_
                refine callP ?_ (hc := fun w _ => w7_c _ _ (by omega) (by omega) w)
                refine LS.on ?_; refine eqI ?_; refine pk (v := .bool _) ?_; refine LS.done ?_
                exact J3 ⟨boolV (by rw [decide_eq_true (show 0 < (placesOf ms k).length by omega)]; rfl), trivial⟩ (by repeat (first | with_reducible exact Out.refl _ _ _ | exact Out.hv | refine Out.upd ?_ | refine Out.hvIn ?_))
              · simp only [decide_eq_false_iff_not] at g1
                refine LS.off ?_; refine LS.off ?_; refine LS.off ?_; refine pk (v := .bool _) ?_; refine LS.done ?_
                exact J3 ⟨boolV (by rw [decide_eq_false (show ¬ 0 < (placesOf ms k).length by omega)]; rfl), trivial⟩ (by repeat (first | with_reducible exact Out.refl _ _ _ | exact Out.hv | refine Out.upd ?_ | refine Out.hvIn ?_))
            (repeat (first | refine RS.seq ?_ | refine RS.region ?_ | refine RS.skip ?_ | refine RS.inBlock ?_ | refine RS.block ?_ | refine RS.exit ?_))
            refine RS.cut (X := List PlaceD) 54 114 (fun ps => ps.length = (placesOf ms k).length) (fun _ => []) (fun _ => σ3) (fun ps => [rowD 0 43 (.slice a1 (placesOf ms k).length c1) ps, ledHP bl S0, refHP b18 S0]) ?_ (fun J4 => ?_)
            rotate_left
            · refine RS.cond (fun y => ?_) (fun y => ?_)
              · simp only [Bool.and_eq_true, decide_eq_true_eq] at y
                refine RS.openRowD (l := placesOf ms k) (.slice a1 (placesOf ms k).length c1) (fun bR c0 cap eR hcR hcM hlR htR => ?_) (hn := y.1)
                injection eR with eR1 _ eR2
                subst eR1; subst eR2
                have hlR : c1 * 5 ≤ c0.length := hlR
                have hle : (placesOf ms k).length * 5 ≤ c0.length := by omega
                (repeat (first | refine RS.seq ?_ | refine RS.region ?_ | refine RS.regionQ ?_ (by kernel_rfl) (by kernel_rfl) | refine RS.skip ?_ | refine RS.inBlock ?_ | refine RS.block ?_ | refine RS.exit ?_)); refine mvL ?_; refine mvI ?_
                refine callP ?_ (hc := fun w _ => edge_c _ hraw w)
                refine idx (i := 0) ?_; refine fld ?_; refine fld ?_; refine st (.int .i64 (edge raw)) (setAt c0 (0 + 0 * 5 + 3) [.int .i64 (edge raw)]) ?_ (hr := Nat.ble_eq_true_of_le (by omega)); refine LS.done ?_
                obtain ⟨p0, hp0⟩ : ∃ p0, p0 = (placesOf ms k)[0]'y.1 := ⟨_, rfl⟩
                refine RS.closeRowD 0 ((placesOf ms k).set 0 { p0 with mem := edge raw }) (b := bR) (c0 := setAt c0 (0 + 0 * 5 + 3) [.int .i64 (edge raw)]) (m := (placesOf ms k).length) (s := 5) hcR hcM (by rw [setAt_len]; exact hlR) (rowWriteP htR hle 0 y.1 3 _ (by simp) _ (fun c hc => ?_)) ?_ (hml := by simp)
                · obtain ⟨rfl, g1, g2, g3, g4⟩ := hc
                  rw [← hp0] at g1 g2 g3
                  rw [← hp0]
                  exact ⟨rfl, g1, g2, g3, edge_in raw⟩
                exact J4 ((placesOf ms k).set 0 { p0 with mem := edge raw }) (by simp) trivial (by repeat (first | with_reducible exact Out.refl _ _ _ | exact Out.hv | refine Out.upd ?_ | refine Out.hvIn ?_)) ⟨fun h => h⟩ rfl
              · refine RS.skip ?_
                exact J4 (placesOf ms k) rfl trivial (by repeat (first | with_reducible exact Out.refl _ _ _ | exact Out.hv | refine Out.upd ?_ | refine Out.hvIn ?_)) ⟨fun h => h⟩ rfl
            rintro ps g6 hps
            rw [← hps]
            refine RS.freeze0 (l := ps) (.slice a1 ps.length c1) (fun σ4 hle4 hr4 => ?_) (hf := FindD.head)
            (repeat (first | refine RS.seq ?_ | refine RS.region ?_ | refine RS.regionQ ?_ (by kernel_rfl) (by kernel_rfl) | refine RS.skip ?_ | refine RS.inBlock ?_ | refine RS.block ?_ | refine RS.exit ?_)); refine mvP ?_; refine mvI ?_; refine mvL ?_
            refine takeL (k % 10) _ ps hi0 (by omega) (by omega) (ArgL.of hr4) (fun σ5 hle5 => ?_)
            refine mvP ?_; refine mvI ?_; refine mvL ?_
            refine rtakeL (k % 10) (by show I64 (k % 10); omega) _ ps hi0 (by omega) (by omega) (by omega) (hr4.mono hle5) (fun σ6 hle6 => ?_)
            refine neI ?_; refine LS.done ?_
            (repeat (first | refine RS.seq ?_ | refine RS.region ?_ | refine RS.regionQ ?_ (by kernel_rfl) (by kernel_rfl) | refine RS.skip ?_ | refine RS.inBlock ?_ | refine RS.block ?_ | refine RS.exit ?_)); refine RS.condF ?_ (h := by simp)
            refine RS.skip ?_
            have htl := takeT_len S0 (k % 10) ps
            exact J (⟨S0.nodes, takeT S0 (k % 10) ps⟩, σ6) ⟨up (hi0.take (m := 3) (by omega) (by omega)) (by omega), by (try dsimp only); omega, PH.le_trans hle2 (PH.le_trans hle3 (PH.le_trans hle4 (PH.le_trans hle5 hle6)))⟩ trivial (by repeat (first | with_reducible exact Out.refl _ _ _ | exact Out.hv | refine Out.upd ?_ | refine Out.hvIn ?_)) ⟨fun h => h⟩ rfl
    rintro ⟨S, σ3⟩ g7 ⟨(hi : LedInv S _), (ht : S.taken.length ≤ i + 1), (hle3 : PH.le (hp w) σ3)⟩
    dsimp only
    (repeat (first | refine RS.seq ?_ | refine RS.region ?_ | refine RS.regionQ ?_ (by kernel_rfl) (by kernel_rfl) | refine RS.skip ?_ | refine RS.inBlock ?_ | refine RS.block ?_ | refine RS.exit ?_)); refine mvP ?_; refine mvP ?_
    refine sameL hi (by omega) (by omega) (fun σ4 hle4 => ?_)
    refine not_ ?_; refine LS.done ?_
    (repeat (first | refine RS.seq ?_ | refine RS.region ?_ | refine RS.regionQ ?_ (by kernel_rfl) (by kernel_rfl) | refine RS.skip ?_ | refine RS.inBlock ?_ | refine RS.block ?_ | refine RS.exit ?_)); refine RS.condF ?_
    (repeat (first | refine RS.seq ?_ | refine RS.region ?_ | refine RS.regionQ ?_ (by kernel_rfl) (by kernel_rfl) | refine RS.skip ?_ | refine RS.inBlock ?_ | refine RS.block ?_ | refine RS.exit ?_)); refine mvI ?_; (first | refine addN ?_ | refine addI ?_); refine asI ?_; refine LS.done ?_; (repeat (first | refine RS.seq ?_ | refine RS.region ?_ | refine RS.regionQ ?_ (by kernel_rfl) (by kernel_rfl) | refine RS.skip ?_ | refine RS.inBlock ?_ | refine RS.block ?_ | refine RS.exit ?_))
    exact ih (i + 1, S, σ4) ⟨by (try dsimp only); omega, by (try dsimp only); omega, hi, ht, PH.le_trans hle3 hle4⟩ (by (try dsimp only); omega) ⟨rfl, trivial⟩ (by repeat (first | with_reducible exact Out.refl _ _ _ | exact Out.hv | refine Out.upd ?_ | refine Out.hvIn ?_)) ⟨fun h => h⟩ rfl
  · (repeat (first | refine RS.seq ?_ | refine RS.region ?_ | refine RS.regionQ ?_ (by kernel_rfl) (by kernel_rfl) | refine RS.skip ?_ | refine RS.inBlock ?_ | refine RS.block ?_ | refine RS.exit ?_)); refine asB ?_; refine LS.done ?_; (repeat (first | refine RS.seq ?_ | refine RS.region ?_ | refine RS.regionQ ?_ (by kernel_rfl) (by kernel_rfl) | refine RS.skip ?_ | refine RS.inBlock ?_ | refine RS.block ?_ | refine RS.exit ?_)); refine RS.ret1 (v := .bool _) Try.func10 fun w hw => ?_
    exact ⟨rfl, hw.below⟩
end Go.Proofs.Ytbinkokafbpnoaa
