/- The law LedgerOrder answers true. -/
import Derived.Test.YtbinkokafbpnoaaFull
namespace Go.JW
section
variable {P : Program} {q : Bool} {ops : Array Oper} {f : FuncId} {R : Ending → World → Prop} {k : List Item} {n : Nat} {fr : Nat → Value} {w0 : World} {M : Nat → Prop} {σ : PH} {K : List HP}
variable {rest : List Oper} {d : Nat} {ty : TypeId} {pos : String} {aft : Array Edge} {x y : Operand} {t t' : TypeId}
theorem minI {a b : Int} (h : LS P q ops f R k rest n (upd fr d (.int .i64 (if b < a then b else a))) w0 M σ K) (hx : ev n fr x = .int .i64 a := by rfl) (hy : ev n fr y = .int .i64 b := by rfl) :
    LS P q ops f R k (⟨some d, .call ⟨.builtin .min, #[x, y], #[t, t']⟩, ty, pos, aft, none⟩ :: rest) n fr w0 M σ K :=
  LS.val rfl rfl (fun w _ => by
    have := run_min_int2 (P := P) w #[t, t'] ty .i64 .i64 a b
    simp [execOp, resolve, invoke, builtin, hx, hy, this]) h
end
theorem nth_bool (l : List Bool) (i : Nat) (h : i < l.length) : nth (l.map Value.bool) (0 + i * 1) = some (.bool (l.getD i false)) := by
  rw [nth_eq]; simp [h]
theorem set_bool : ∀ (l : List Bool) (i : Nat) (b : Bool), i < l.length → setAt (l.map Value.bool) (0 + i * 1) [.bool b] = (l.set i b).map Value.bool := by
  intro l
  induction l with
  | nil => intro i b h; simp at h
  | cons a l ih =>
    intro i b h
    cases i with
    | zero => simp [setAt, setAt_nil]
    | succ i =>
      have := ih i b (by simpa using h)
      simp only [Nat.zero_add, Nat.mul_one] at this ⊢
      simp [setAt, this]
theorem getD_set (l : List Bool) (i j : Nat) (b : Bool) (h : i < l.length) : (l.set i b).getD j false = if j = i then b else l.getD j false := by
  by_cases e : j = i
  · subst e; simp [List.getD_eq_getElem?_getD, h]
  · rw [if_neg e]; simp [List.getD_eq_getElem?_getD, List.getElem?_set_ne (Ne.symm e)]
end Go.JW
namespace Go.Proofs.Ytbinkokafbpnoaa
open Go.JW Go.RowKit
def needAt (ns : List Int) (g : Nat) : Int := ns.getD (g - 1) 0 % 9
structure OrdInv (ns : List Int) (k : Nat) (S : LedD) (th : List Bool) (sum : Int) : Prop where
  inv : LedInv S 20
  node : S.nodes = (oneN 1000 1000).nodes
  used : usedC S.taken nmN = sum
  mem : usedM S.taken nmN = 0
  len : th.length = k + 1
  at_ : ∀ g : Nat, 1 ≤ g → g ≤ k → asg S.taken (g : Int) = if th.getD g false = true then some [placeP nmP nmN (needAt ns g) 0] else none
theorem needAt_in (ns : List Int) (g : Nat) : 0 ≤ needAt ns g ∧ needAt ns g ≤ 8 := by
  have := wmod (ns.getD (g - 1) 0) 9 (by omega)
  unfold needAt; omega
theorem OrdInv.sum_in {ns : List Int} {k : Nat} {S : LedD} {th : List Bool} {sum : Int} (h : OrdInv ns k S th sum) : 0 ≤ sum ∧ sum ≤ 1000 := by
  have h1 := (used_pos (h.inv.takenOk (by omega)) nmN).1
  have h2 := (h.inv.fits nmN (nodeN nmN 1000 1000) (by rw [h.node]; rfl)).1
  rw [h.used] at h1 h2
  exact ⟨h1, h2⟩
theorem OrdInv.takeE {ns : List Int} {k : Nat} {S : LedD} {th : List Bool} {sum : Int} (h : OrdInv ns k S th sum) {g : Nat} (h1 : 1 ≤ g) (h2 : g ≤ k) (h3 : th.getD g false = false) (hs : sum + needAt ns g ≤ 1000) : takeE S g [placeP nmP nmN (needAt ns g) 0] = 0 := by
  have hn := h.at_ g h1 h2
  rw [h3] at hn
  rw [takeE_one (n := nodeN nmN 1000 1000) (by unfold tk; rw [hn]; rfl) (by show asg S.nodes nmN = _; rw [h.node]; rfl) ⟨(needAt_in ns g).1, Int.le_refl 0⟩, if_pos]
  show usedC S.taken nmN + needAt ns g ≤ 1000 ∧ usedM S.taken nmN + 0 ≤ 1000
  rw [h.used, h.mem]; omega
theorem OrdInv.take {ns : List Int} {k : Nat} {S : LedD} {th : List Bool} {sum : Int} (h : OrdInv ns k S th sum) {g m : Nat} (hm : LedInv S m) (hm2 : m + 1 ≤ 20) (h1 : 1 ≤ g) (h2 : g ≤ k) (h3 : th.getD g false = false) (hs : sum + needAt ns g ≤ 1000) :
    OrdInv ns k ⟨S.nodes, takeT S g [placeP nmP nmN (needAt ns g) 0]⟩ (th.set g true) (sum + needAt ns g) ∧ LedInv ⟨S.nodes, takeT S g [placeP nmP nmN (needAt ns g) 0]⟩ (m + 1) := by
  have e := h.takeE h1 h2 h3 hs
  have hn := h.at_ g h1 h2
  rw [h3, if_neg (by simp)] at hn
  have hi := hm.take (g := (g : Int)) (ps := [placeP nmP nmN (needAt ns g) 0]) (m := 1) (by simp) (by simp)
  have ht : takeT S g [placeP nmP nmN (needAt ns g) 0] = aset S.taken g [placeP nmP nmN (needAt ns g) 0] := by rw [takeT, if_pos e]
  have hsu : ∀ f : PlaceD → Int, usedF f (aset S.taken (g : Int) [placeP nmP nmN (needAt ns g) 0]) nmN = usedF f S.taken nmN + f (placeP nmP nmN (needAt ns g) 0) := fun f => by
    rw [show usedF f (aset S.taken (g : Int) [placeP nmP nmN (needAt ns g) 0]) nmN = usedF f S.taken nmN + needF f nmN [placeP nmP nmN (needAt ns g) 0] from sumA_aset hn, show needF f nmN [placeP nmP nmN (needAt ns g) 0] = f (placeP nmP nmN (needAt ns g) 0) from (needF_one _ _ _).trans (if_pos rfl)]
  rw [ht] at hi ⊢
  refine ⟨⟨⟨hi.nodes, hi.keys, hi.some_, hi.right, hi.there, hi.fits, fun nm => by have := hi.count nm; omega, hi.size⟩, h.node, (hsu (·.cpu)).trans (by rw [← usedC_eq, h.used]; rfl), (hsu (·.mem)).trans (by rw [← usedM_eq, h.mem]; rfl), by rw [List.length_set]; exact h.len, fun j j1 j2 => ?_⟩, hi⟩
  have hl := h.len
  rw [getD_set _ _ _ _ (by omega)]
  by_cases e : j = g
  · subst e; rw [if_pos rfl, if_pos rfl]; exact asg_aset_same _ _ _
  · rw [if_neg e]
    show asg (aset S.taken (g : Int) _) (j : Int) = _
    rw [asg_aset_ne _ _ (by omega)]; exact h.at_ j j1 j2
theorem OrdInv.give {ns : List Int} {k : Nat} {S : LedD} {th : List Bool} {sum : Int} (h : OrdInv ns k S th sum) {g : Nat} (h1 : 1 ≤ g) (h2 : g ≤ k) :
    giveE S.taken g = (if th.getD g false = true then 0 else 5) ∧ OrdInv ns k ⟨S.nodes, giveT S.taken g⟩ (th.set g false) (if th.getD g false = true then sum - needAt ns g else sum) := by
  have hn := h.at_ g h1 h2
  have hi := h.inv.give (g : Int)
  have hl := h.len
  cases e : th.getD g false with
  | true =>
    rw [e, if_pos rfl] at hn
    have htk : tk S.taken (g : Int) = [placeP nmP nmN (needAt ns g) 0] := by unfold tk; rw [hn]; rfl
    have hT : giveT S.taken (g : Int) = adel S.taken (g : Int) := by rw [giveT, htk, if_neg (by simp)]
    have hsu : ∀ f : PlaceD → Int, usedF f (adel S.taken (g : Int)) nmN = usedF f S.taken nmN - f (placeP nmP nmN (needAt ns g) 0) := fun f => by
      rw [show usedF f (adel S.taken (g : Int)) nmN = usedF f S.taken nmN - needF f nmN [placeP nmP nmN (needAt ns g) 0] from sumA_adel hn, show needF f nmN [placeP nmP nmN (needAt ns g) 0] = f (placeP nmP nmN (needAt ns g) 0) from (needF_one _ _ _).trans (if_pos rfl)]
    refine ⟨by rw [giveE, htk, if_neg (by simp)]; rfl, ?_⟩
    rw [hT] at hi ⊢
    refine ⟨hi, h.node, (hsu (·.cpu)).trans (by rw [← usedC_eq, h.used, if_pos rfl]; rfl), (hsu (·.mem)).trans (by rw [← usedM_eq, h.mem]; rfl), by rw [List.length_set]; exact hl, fun j j1 j2 => ?_⟩
    rw [getD_set _ _ _ _ (by omega)]
    by_cases e2 : j = g
    · subst e2; rw [if_pos rfl, if_neg (by simp)]; exact asg_adel_same h.inv.keys
    · rw [if_neg e2]
      show asg (adel S.taken (g : Int)) (j : Int) = _
      rw [asg_adel_ne (by omega)]; exact h.at_ j j1 j2
  | false =>
    rw [e, if_neg (by simp)] at hn
    have htk : tk S.taken (g : Int) = [] := by unfold tk; rw [hn]; rfl
    have hT : giveT S.taken (g : Int) = S.taken := by rw [giveT, htk]; rfl
    refine ⟨by rw [giveE, htk]; rfl, ?_⟩
    rw [hT, if_neg (by simp)]
    refine ⟨h.inv, h.node, h.used, h.mem, by rw [List.length_set]; exact hl, fun j j1 j2 => ?_⟩
    rw [getD_set _ _ _ _ (by omega)]
    by_cases e2 : j = g
    · subst e2; rw [if_pos rfl, if_neg (by simp)]; exact hn
    · rw [if_neg e2]; exact h.at_ j j1 j2
theorem OrdInv.start (ns : List Int) (k : Nat) : OrdInv ns k (oneN 1000 1000) (List.replicate (k + 1) false) 0 := by
  have hi := oneInv (c := 1000) (m := 1000) (by omega) (by omega)
  refine ⟨⟨hi.nodes, hi.keys, hi.some_, hi.right, hi.there, hi.fits, fun nm => by have := hi.count nm; omega, hi.size⟩, rfl, rfl, rfl, by simp, fun g g1 g2 => ?_⟩
  have : (List.replicate (k + 1) false).getD g false = false := by simp [List.getD_eq_getElem?_getD, List.getElem?_replicate]; split <;> rfl
  rw [this]; rfl
theorem order_c (ns os : List Int) (vn vo : Value) (w : World) (hr : RepL (hp w) vn ns) (hro : RepL (hp w) vo os) : Calls Try.prog 8 #[vn, vo] w fun e w' => e = .returned (.bool true) ∧ Below w.heap.size w w' := by
  obtain ⟨an, cn, rfl⟩ := hr.form
  obtain ⟨ao, co, rfl⟩ := hro.form
  have hlen : ns.length ≤ 140737488355328 := hr.1
  have hlen2 : os.length ≤ 140737488355328 := hro.1
  refine RS.enter Try.func8 Try.ntmps8 rfl rfl ?_
  (repeat (first | refine RS.seq ?_ | refine RS.region ?_ | refine RS.regionQ ?_ (by kernel_rfl) (by kernel_rfl) | refine RS.skip ?_ | refine RS.inBlock ?_ | refine RS.block ?_ | refine RS.exit ?_)); refine asB ?_; refine LS.done ?_
  (repeat (first | refine RS.seq ?_ | refine RS.region ?_ | refine RS.regionQ ?_ (by kernel_rfl) (by kernel_rfl) | refine RS.skip ?_ | refine RS.inBlock ?_ | refine RS.block ?_ | refine RS.exit ?_)); skip
  refine callP ?_ (hc := fun w _ => known7_c w)
  refine not_ ?_; refine LS.done ?_
  (repeat (first | refine RS.seq ?_ | refine RS.region ?_ | refine RS.regionQ ?_ (by kernel_rfl) (by kernel_rfl) | refine RS.skip ?_ | refine RS.inBlock ?_ | refine RS.block ?_ | refine RS.exit ?_)); refine RS.condF ?_
  (repeat (first | refine RS.seq ?_ | refine RS.region ?_ | refine RS.regionQ ?_ (by kernel_rfl) (by kernel_rfl) | refine RS.skip ?_ | refine RS.inBlock ?_ | refine RS.block ?_ | refine RS.exit ?_)); skip
  refine callX (X := Nat × PH) (fun x => .pointer (some ⟨x.1, 0, none⟩)) (fun x => x.2) (fun x => ledHP x.1 (oneN 1000 1000) :: _) (fun x => PH.le _ x.2) (fun ⟨bl, σ1⟩ hle1 => ?_) (fun w' hw => room7_c 1000 1000 (by omega) (by omega) w' hw)
  simp only at hle1 ⊢
  refine asP ?_; refine LS.done ?_
  (repeat (first | refine RS.seq ?_ | refine RS.region ?_ | refine RS.regionQ ?_ (by kernel_rfl) (by kernel_rfl) | refine RS.skip ?_ | refine RS.inBlock ?_ | refine RS.block ?_ | refine RS.exit ?_)); refine mvP ?_; refine bin_eql_P ?_; refine LS.done ?_
  (repeat (first | refine RS.seq ?_ | refine RS.region ?_ | refine RS.regionQ ?_ (by kernel_rfl) (by kernel_rfl) | refine RS.skip ?_ | refine RS.inBlock ?_ | refine RS.block ?_ | refine RS.exit ?_)); refine RS.condF ?_
  obtain ⟨k, hk⟩ : ∃ k : Nat, k = min ns.length 20 := ⟨_, rfl⟩
  (repeat (first | refine RS.seq ?_ | refine RS.region ?_ | refine RS.regionQ ?_ (by kernel_rfl) (by kernel_rfl) | refine RS.skip ?_ | refine RS.inBlock ?_ | refine RS.block ?_ | refine RS.exit ?_)); refine mvL ?_; refine lenL ?_; refine minI ?_; rw [show (if (20 : Int) < (ns.length : Int) then (20 : Int) else (ns.length : Int)) = (k : Int) by split <;> omega]; refine asI ?_; refine LS.done ?_
  (repeat (first | refine RS.seq ?_ | refine RS.region ?_ | refine RS.regionQ ?_ (by kernel_rfl) (by kernel_rfl) | refine RS.skip ?_ | refine RS.inBlock ?_ | refine RS.block ?_ | refine RS.exit ?_)); refine asI ?_; refine LS.done ?_
  (repeat (first | refine RS.seq ?_ | refine RS.region ?_ | refine RS.regionQ ?_ (by kernel_rfl) (by kernel_rfl) | refine RS.skip ?_ | refine RS.inBlock ?_ | refine RS.block ?_ | refine RS.exit ?_)); refine mvI ?_; (first | refine addN ?_ | refine addI ?_); refine mkSl (m := k + 1) (fun b24 => ?_); refine asL ?_; refine LS.done ?_
  rw [show List.replicate (k + 1) (Value.bool false) = (List.replicate (k + 1) false).map Value.bool by rw [List.map_replicate]]
  (repeat (first | refine RS.seq ?_ | refine RS.region ?_ | refine RS.regionQ ?_ (by kernel_rfl) (by kernel_rfl) | refine RS.skip ?_ | refine RS.inBlock ?_ | refine RS.block ?_ | refine RS.exit ?_)); refine asI ?_; refine LS.done ?_
  (repeat (first | refine RS.seq ?_ | refine RS.region ?_ | refine RS.regionQ ?_ (by kernel_rfl) (by kernel_rfl) | refine RS.skip ?_ | refine RS.inBlock ?_ | refine RS.block ?_ | refine RS.exit ?_))
  refine RS.loopF (X := Nat × LedD × List Bool × Int × PH) 7 108 (fun x => 1 ≤ x.1 ∧ x.1 ≤ k + 1 ∧ OrdInv ns k x.2.1 x.2.2.1 x.2.2.2.1 ∧ LedInv x.2.1 (x.1 - 1) ∧ x.2.2.2.1 ≤ 8 * (x.1 - 1 : Nat) ∧ (∀ j, x.1 ≤ j → x.2.2.1.getD j false = false) ∧ PH.le (hp w) x.2.2.2.2) (fun x => [(7, .int .i64 x.2.2.2.1), (8, .slice (some ⟨b24, 0, none⟩) (k + 1) (k + 1)), (9, .int .i64 x.1)]) (fun x => x.2.2.2.2) (fun x => [blk b24 (.cells (List.toArray (x.2.2.1.map Value.bool)) 4 (0, 0)), ledHP bl x.2.1]) (fun x => k + 1 - x.1) (1, oneN 1000 1000, List.replicate (k + 1) false, 0, σ1) ⟨by omega, by omega, OrdInv.start ns k, oneInv (by omega) (by omega), Int.le_refl 0, fun j _ => by simp [List.getD_eq_getElem?_getD, List.getElem?_replicate]; split <;> rfl, hle1⟩ ⟨rfl, rfl, rfl, trivial⟩ rfl ⟨fun h => h⟩ ?_
  rintro ⟨i, S, th, sum, σ2⟩ gg ⟨hi1, hik, ho, hinv, hsum, hfr, hle2⟩ ih
  simp only at hi1 hik ho hinv hsum hfr hle2 ih ⊢
  have hsi := ho.sum_in
  (repeat (first | refine RS.seq ?_ | refine RS.region ?_ | refine RS.regionQ ?_ (by kernel_rfl) (by kernel_rfl) | refine RS.skip ?_ | refine RS.inBlock ?_ | refine RS.block ?_ | refine RS.exit ?_)); refine mvI ?_; refine mvI ?_; refine leI ?_; refine LS.done ?_
  (repeat (first | refine RS.seq ?_ | refine RS.region ?_ | refine RS.regionQ ?_ (by kernel_rfl) (by kernel_rfl) | refine RS.skip ?_ | refine RS.inBlock ?_ | refine RS.block ?_ | refine RS.exit ?_))
  by_cases hlt : i ≤ k
  · refine RS.condT ?_ (h := by simp; omega)
    obtain ⟨b, o, rfl, hrow⟩ := hr.addr (fun h => by simp [h] at hk; omega)
    obtain ⟨hcell, h64⟩ := (hrow.mono hle2).int (i - 1) (by omega)
    have hgd : ns[i - 1] = ns.getD (i - 1) 0 := by rw [List.getD_eq_getElem?_getD, List.getElem?_eq_getElem (by omega)]; rfl
    rw [hgd] at hcell
    obtain ⟨n1, n2⟩ := needAt_in ns i
    have hth := ho.len
    have hs' : sum + needAt ns i ≤ 1000 := by omega
    have hE := ho.takeE hi1 hlt (hfr i (Nat.le_refl _)) hs'
    obtain ⟨ho2, hi2⟩ := ho.take hinv (by omega) hi1 hlt (hfr i (Nat.le_refl _)) hs'
    obtain ⟨S2, hS2⟩ : ∃ S2 : LedD, S2 = ⟨S.nodes, takeT S (i : Int) [placeP nmP nmN (needAt ns i) 0]⟩ := ⟨_, rfl⟩
    rw [← hS2] at ho2 hi2
    (repeat (first | refine RS.seq ?_ | refine RS.region ?_ | refine RS.regionQ ?_ (by kernel_rfl) (by kernel_rfl) | refine RS.skip ?_ | refine RS.inBlock ?_ | refine RS.block ?_ | refine RS.exit ?_)); refine mvP ?_; refine mvI ?_; refine mvL ?_; refine mvI ?_; (first | refine subN ?_ | refine subI ?_); refine idx (i := i - 1) ?_ (hj := by omega); refine ldS hcell ?_
    refine callP ?_ (hc := fun w _ => w7_c _ _ (by omega) (by omega) w)
    rw [show ns.getD (i - 1) 0 % 9 = needAt ns i from rfl]
    refine bld (vals := [(0, .int _ _)]) [_, _] ?_; refine bld (vals := [(0, .string _), (1, .string _), (2, .agg (List.toArray [_, _]))]) [_, _, _, _, _] ?_; refine bldS [.agg (List.toArray (placeC (placeP nmP nmN (needAt ns i) 0)))] (placeC (placeP nmP nmN (needAt ns i) 0)) (fun b40 => ?_)
    refine takeL' (i : Int) _ [placeP nmP nmN (needAt ns i) 0] 0 S2 hinv (by omega) hE hS2.symm (by simp) (argP (by decide) (by decide) (by omega) (by omega) inferInstance) (fun σ4 hle4 => ?_)
    refine neI ?_; refine LS.done ?_
    (repeat (first | refine RS.seq ?_ | refine RS.region ?_ | refine RS.regionQ ?_ (by kernel_rfl) (by kernel_rfl) | refine RS.skip ?_ | refine RS.inBlock ?_ | refine RS.block ?_ | refine RS.exit ?_)); refine RS.condF ?_
    (repeat (first | refine RS.seq ?_ | refine RS.region ?_ | refine RS.regionQ ?_ (by kernel_rfl) (by kernel_rfl) | refine RS.skip ?_ | refine RS.inBlock ?_ | refine RS.block ?_ | refine RS.exit ?_)); refine mvL ?_; refine mvI ?_; refine mvI ?_; refine mvL ?_; refine mvI ?_; (first | refine subN ?_ | refine subI ?_); refine idx (i := i - 1) ?_ (hj := by omega); refine ldS (PH.cell_mono hle4 hcell) ?_
    refine callP ?_ (hc := fun w _ => w7_c _ _ (by omega) (by omega) w)
    rw [show ns.getD (i - 1) 0 % 9 = needAt ns i from rfl]
    (first | refine addN ?_ | refine addI ?_); refine asI ?_; refine idx (i := i) ?_; refine st (.bool true) ((th.set i true).map Value.bool) ?_ (hr := by simp; omega) (hc := set_bool _ _ _ (by omega)); refine LS.done ?_
    (repeat (first | refine RS.seq ?_ | refine RS.region ?_ | refine RS.regionQ ?_ (by kernel_rfl) (by kernel_rfl) | refine RS.skip ?_ | refine RS.inBlock ?_ | refine RS.block ?_ | refine RS.exit ?_)); refine mvI ?_; (first | refine addN ?_ | refine addI ?_); refine asI ?_; refine LS.done ?_; (repeat (first | refine RS.seq ?_ | refine RS.region ?_ | refine RS.regionQ ?_ (by kernel_rfl) (by kernel_rfl) | refine RS.skip ?_ | refine RS.inBlock ?_ | refine RS.block ?_ | refine RS.exit ?_))
    refine ih (i + 1, S2, th.set i true, sum + needAt ns i, σ4) ⟨by (try dsimp only); omega, by (try dsimp only); omega, ho2, by rw [show (i + 1, S2, th.set i true, sum + needAt ns i, σ4).1 - 1 = i - 1 + 1 by (try dsimp only); omega]; exact hi2, by (try dsimp only); omega, fun j hj => ?_, PH.le_trans hle2 hle4⟩ (by (try dsimp only); omega) ⟨rfl, rfl, rfl, trivial⟩ (by repeat (first | with_reducible exact Out.refl _ _ _ | exact Out.hv | refine Out.upd ?_ | refine Out.hvIn ?_)) ⟨fun h => h.tail⟩ rfl
    (try dsimp only at hj)
    dsimp only
    rw [getD_set _ _ _ _ (by omega), if_neg (by omega)]; exact hfr j (by omega)
  · refine RS.condF ?_ (h := by simp; omega)
    clear ih
    (repeat (first | refine RS.seq ?_ | refine RS.region ?_ | refine RS.regionQ ?_ (by kernel_rfl) (by kernel_rfl) | refine RS.skip ?_ | refine RS.inBlock ?_ | refine RS.block ?_ | refine RS.exit ?_)); refine asI ?_; refine LS.done ?_
    (repeat (first | refine RS.seq ?_ | refine RS.region ?_ | refine RS.regionQ ?_ (by kernel_rfl) (by kernel_rfl) | refine RS.skip ?_ | refine RS.inBlock ?_ | refine RS.block ?_ | refine RS.exit ?_))
    refine RS.loopF (X := Nat × LedD × List Bool × Int × PH) 7 108 (fun x => x.1 ≤ 30 ∧ x.1 ≤ os.length ∧ OrdInv ns k x.2.1 x.2.2.1 x.2.2.2.1 ∧ PH.le (hp w) x.2.2.2.2) (fun x => [(7, .int .i64 x.2.2.2.1), (8, .slice (some ⟨b24, 0, none⟩) (k + 1) (k + 1)), (10, .int .i64 x.1)]) (fun x => x.2.2.2.2) (fun x => [blk b24 (.cells (List.toArray (x.2.2.1.map Value.bool)) 4 (0, 0)), ledHP bl x.2.1]) (fun x => 30 - x.1) (0, S, th, sum, σ2) ⟨by omega, by omega, ho, hle2⟩ ⟨rfl, rfl, rfl, trivial⟩ rfl ⟨fun h => h⟩ ?_
    clear hinv hsum hfr hle2 ho hsi
    rintro ⟨i2, S, th, sum, σ2⟩ g2 ⟨hi30, hio, ho, hle2⟩ ih
    simp only at hi30 hio ho hle2 ih ⊢
    have hsi := ho.sum_in
    have hth := ho.len
    (repeat (first | refine RS.seq ?_ | refine RS.region ?_ | refine RS.regionQ ?_ (by kernel_rfl) (by kernel_rfl) | refine RS.skip ?_ | refine RS.inBlock ?_ | refine RS.block ?_ | refine RS.exit ?_)); refine mvI ?_; refine mvL ?_; refine lenL ?_; refine ltI ?_; refine mvB ?_
    refine LS.cut 58 66 [(65, .bool (decide (i2 < 30 ∧ i2 < os.length ∧ 0 < k)))] (fun gg => ?_) (fun J => ?_)
    rotate_left
    · refine LS.part 58 (fun g1 => ?_) (fun g1 => ?_)
      · refine LS.on ?_; refine mvI ?_; refine LS.on ?_; refine ltI ?_; refine pk (v := .bool _) ?_; refine mvB ?_
        refine LS.part 62 (fun g3 => ?_) (fun g3 => ?_)
        · refine LS.on ?_; refine mvI ?_; refine LS.on ?_; refine gtI ?_; refine pk (v := .bool _) ?_; refine LS.done ?_
          simp only [decide_eq_true_eq] at g1 g3
          exact J ⟨boolV (decide_eq_decide.2 (by omega)), trivial⟩ (by repeat (first | with_reducible exact Out.refl _ _ _ | exact Out.hv | refine Out.upd ?_ | refine Out.hvIn ?_))
        · refine LS.off ?_; refine LS.off ?_; refine pk (v := .bool _) ?_; refine LS.done ?_
          simp only [decide_eq_true_eq] at g1
          simp only [decide_eq_false_iff_not] at g3
          exact J ⟨boolV (by symm; exact decide_eq_false (by omega)), trivial⟩ (by repeat (first | with_reducible exact Out.refl _ _ _ | exact Out.hv | refine Out.upd ?_ | refine Out.hvIn ?_))
      · refine LS.off ?_; refine LS.off ?_; refine pk (v := .bool _) ?_; refine mvB ?_; refine LS.off ?_; refine LS.off ?_; refine pk (v := .bool _) ?_; refine LS.done ?_
        simp only [decide_eq_false_iff_not] at g1
        exact J ⟨boolV (by symm; exact decide_eq_false (by omega)), trivial⟩ (by repeat (first | with_reducible exact Out.refl _ _ _ | exact Out.hv | refine Out.upd ?_ | refine Out.hvIn ?_))
    (repeat (first | refine RS.seq ?_ | refine RS.region ?_ | refine RS.regionQ ?_ (by kernel_rfl) (by kernel_rfl) | refine RS.skip ?_ | refine RS.inBlock ?_ | refine RS.block ?_ | refine RS.exit ?_))
    refine RS.cond (fun z => ?_) (fun z => ?_)
    · simp only [decide_eq_true_eq] at z
      obtain ⟨b, o, rfl, hrow⟩ := hro.addr (fun h => by simp [h] at z)
      obtain ⟨hcell, h64⟩ := (hrow.mono hle2).int i2 z.2.1
      obtain ⟨bn, on_, rfl, hrown⟩ := hr.addr (fun h => by simp [h] at hk; omega)
      obtain ⟨k1, k2⟩ := wmod os[i2] k (by omega)
      obtain ⟨g, hg⟩ : ∃ g : Nat, (g : Int) = 1 + os[i2] % k := ⟨(1 + os[i2] % k).toNat, by omega⟩
      have hg1 : 1 ≤ g := by omega
      have hgk : g ≤ k := by omega
      obtain ⟨hcn, _⟩ := (hrown.mono hle2).int (g - 1) (by omega)
      have hgd : ns[g - 1] = ns.getD (g - 1) 0 := by rw [List.getD_eq_getElem?_getD, List.getElem?_eq_getElem (by omega)]; rfl
      rw [hgd] at hcn
      obtain ⟨n1, n2⟩ := needAt_in ns g
      obtain ⟨hE, ho2⟩ := ho.give hg1 hgk
      have hsi2 := ho2.sum_in
      obtain ⟨S2, hS2⟩ : ∃ S2 : LedD, S2 = ⟨S.nodes, giveT S.taken (g : Int)⟩ := ⟨_, rfl⟩
      rw [← hS2] at ho2
      (repeat (first | refine RS.seq ?_ | refine RS.region ?_ | refine RS.regionQ ?_ (by kernel_rfl) (by kernel_rfl) | refine RS.skip ?_ | refine RS.inBlock ?_ | refine RS.block ?_ | refine RS.exit ?_)); refine mvL ?_; refine mvI ?_; refine idx (i := i2) ?_; refine ldS hcell ?_; refine mvI ?_
      refine callP ?_ (hc := fun w _ => w7_c _ _ (by omega) (by omega) w)
      (first | refine addN ?_ | refine addI ?_); refine asI ?_; refine LS.done ?_
      rw [← hg]
      (repeat (first | refine RS.seq ?_ | refine RS.region ?_ | refine RS.skip ?_ | refine RS.inBlock ?_ | refine RS.block ?_ | refine RS.exit ?_)); refine RS.draw [.free, .free, .eff, .ex, .free, .free, .free, .ex, .free] [blk b24 (.cells (List.toArray (th.map Value.bool)) 4 (0, 0))] ?_ (by kernel_rfl) (by kernel_rfl) (by infer_instance); refine D.mvP ?_; refine D.mvI ?_
      refine D.giveL (g : Int) (giveE S.taken g) S2 rfl hS2.symm ?_
      refine D.eqX (kk := .i64) (a := giveE S.taken g) (b := 0) ?_ (fun us σ' hf => hf.1) (fun _ _ _ => rfl)
      refine D.mvL ?_; refine D.mvI ?_; refine D.idx (i := g) ?_; refine D.ld1 (v := .bool (th.getD g false)) ?_ (hv := nth_bool th g (by omega)); refine D.bin_neq_B ?_; rw [show (!(decide (giveE S.taken (g : Int) = 0) == th.getD g false)) = false by rw [hE]; cases th.getD g false <;> rfl]; refine D.done (fun us σ1 hle1 hfs => ?_)
      refine RS.ow ?_
      (repeat (first | refine RS.seq ?_ | refine RS.region ?_ | refine RS.regionQ ?_ (by kernel_rfl) (by kernel_rfl) | refine RS.skip ?_ | refine RS.inBlock ?_ | refine RS.block ?_ | refine RS.exit ?_)); refine RS.condF ?_
      (repeat (first | refine RS.seq ?_ | refine RS.region ?_ | refine RS.regionQ ?_ (by kernel_rfl) (by kernel_rfl) | refine RS.skip ?_ | refine RS.inBlock ?_ | refine RS.block ?_ | refine RS.exit ?_)); refine mvL ?_; refine mvI ?_; refine idx (i := g) ?_; refine ld1 (v := .bool (th.getD g false)) ?_ (hv := nth_bool th g (by omega)); refine LS.done ?_
      cases hb : th.getD g false with
      | true =>
        rw [hb, if_pos rfl] at ho2 hsi2
        (repeat (first | refine RS.seq ?_ | refine RS.region ?_ | refine RS.regionQ ?_ (by kernel_rfl) (by kernel_rfl) | refine RS.skip ?_ | refine RS.inBlock ?_ | refine RS.block ?_ | refine RS.exit ?_)); refine RS.condT ?_
        (repeat (first | refine RS.seq ?_ | refine RS.region ?_ | refine RS.regionQ ?_ (by kernel_rfl) (by kernel_rfl) | refine RS.skip ?_ | refine RS.inBlock ?_ | refine RS.block ?_ | refine RS.exit ?_)); refine mvL ?_; refine mvI ?_; refine mvI ?_; refine mvL ?_; refine mvI ?_; (first | refine subN ?_ | refine subI ?_); refine idx (i := g - 1) ?_ (hj := by omega); refine ldS (PH.cell_mono hle1 hcn) ?_
        refine callP ?_ (hc := fun w _ => w7_c _ _ (by omega) (by omega) w)
        rw [show ns.getD (g - 1) 0 % 9 = needAt ns g from rfl]
        (first | refine subN ?_ | refine subI ?_); refine asI ?_; refine idx (i := g) ?_; refine st (.bool false) ((th.set g false).map Value.bool) ?_ (hr := by simp; omega) (hc := set_bool _ _ _ (by omega)); refine LS.done ?_
        (repeat (first | refine RS.seq ?_ | refine RS.region ?_ | refine RS.regionQ ?_ (by kernel_rfl) (by kernel_rfl) | refine RS.skip ?_ | refine RS.inBlock ?_ | refine RS.block ?_ | refine RS.exit ?_)); refine mvP ?_
        refine usedL nmN ho2.inv (by omega) (fun σ5 hle5 => ?_)
        rw [ho2.used]
        refine mvT ?_; refine extr (v := _) ?_; refine extr (v := .int _ _) ?_; refine alloc_ (fun b12 => ?_); refine st (.agg _) _ ?_; refine asI ?_; refine LS.done ?_
        (repeat (first | refine RS.seq ?_ | refine RS.region ?_ | refine RS.regionQ ?_ (by kernel_rfl) (by kernel_rfl) | refine RS.skip ?_ | refine RS.inBlock ?_ | refine RS.block ?_ | refine RS.exit ?_)); refine fld ?_; refine ld1 (v := .int _ _) ?_; refine mvI ?_; refine neI ?_; rw [decide_eq_true (show (sum - needAt ns g) = (sum - needAt ns g) from rfl)]; refine LS.done ?_
        (repeat (first | refine RS.seq ?_ | refine RS.region ?_ | refine RS.regionQ ?_ (by kernel_rfl) (by kernel_rfl) | refine RS.skip ?_ | refine RS.inBlock ?_ | refine RS.block ?_ | refine RS.exit ?_)); refine RS.condF ?_
        (repeat (first | refine RS.seq ?_ | refine RS.region ?_ | refine RS.regionQ ?_ (by kernel_rfl) (by kernel_rfl) | refine RS.skip ?_ | refine RS.inBlock ?_ | refine RS.block ?_ | refine RS.exit ?_)); refine mvI ?_; (first | refine addN ?_ | refine addI ?_); refine asI ?_; refine LS.done ?_; (repeat (first | refine RS.seq ?_ | refine RS.region ?_ | refine RS.regionQ ?_ (by kernel_rfl) (by kernel_rfl) | refine RS.skip ?_ | refine RS.inBlock ?_ | refine RS.block ?_ | refine RS.exit ?_))
        refine ih (i2 + 1, S2, th.set g false, (sum - needAt ns g), σ5) ⟨by (try dsimp only); omega, by (try dsimp only); omega, ho2, PH.le_trans hle2 (PH.le_trans hle1 hle5)⟩ (by (try dsimp only); omega) ⟨rfl, rfl, rfl, trivial⟩ (by repeat (first | with_reducible exact Out.refl _ _ _ | exact Out.hv | refine Out.upd ?_ | refine Out.hvIn ?_)) ⟨fun h => ?_⟩ rfl
        first | exact h.tail | (rw [hset]; exact h.tail)
      | false =>
        rw [hb, if_neg (by simp)] at ho2 hsi2
        have hset : th.set g false = th := by
          apply List.ext_getElem?
          intro j
          by_cases e : j = g
          · subst e
            rw [List.getElem?_set_self (by omega), List.getElem?_eq_getElem (by omega)]
            rw [List.getD_eq_getElem?_getD, List.getElem?_eq_getElem (by omega)] at hb
            exact congrArg some hb.symm
          · rw [List.getElem?_set_ne (Ne.symm e)]
        (repeat (first | refine RS.seq ?_ | refine RS.region ?_ | refine RS.regionQ ?_ (by kernel_rfl) (by kernel_rfl) | refine RS.skip ?_ | refine RS.inBlock ?_ | refine RS.block ?_ | refine RS.exit ?_)); refine RS.condF ?_
        (repeat (first | refine RS.seq ?_ | refine RS.region ?_ | refine RS.regionQ ?_ (by kernel_rfl) (by kernel_rfl) | refine RS.skip ?_ | refine RS.inBlock ?_ | refine RS.block ?_ | refine RS.exit ?_)); refine mvP ?_
        refine usedL nmN ho2.inv (by omega) (fun σ5 hle5 => ?_)
        rw [ho2.used]
        refine mvT ?_; refine extr (v := _) ?_; refine extr (v := .int _ _) ?_; refine alloc_ (fun b12 => ?_); refine st (.agg _) _ ?_; refine asI ?_; refine LS.done ?_
        (repeat (first | refine RS.seq ?_ | refine RS.region ?_ | refine RS.regionQ ?_ (by kernel_rfl) (by kernel_rfl) | refine RS.skip ?_ | refine RS.inBlock ?_ | refine RS.block ?_ | refine RS.exit ?_)); refine fld ?_; refine ld1 (v := .int _ _) ?_; refine mvI ?_; refine neI ?_; rw [decide_eq_true (show sum = sum from rfl)]; refine LS.done ?_
        (repeat (first | refine RS.seq ?_ | refine RS.region ?_ | refine RS.regionQ ?_ (by kernel_rfl) (by kernel_rfl) | refine RS.skip ?_ | refine RS.inBlock ?_ | refine RS.block ?_ | refine RS.exit ?_)); refine RS.condF ?_
        (repeat (first | refine RS.seq ?_ | refine RS.region ?_ | refine RS.regionQ ?_ (by kernel_rfl) (by kernel_rfl) | refine RS.skip ?_ | refine RS.inBlock ?_ | refine RS.block ?_ | refine RS.exit ?_)); refine mvI ?_; (first | refine addN ?_ | refine addI ?_); refine asI ?_; refine LS.done ?_; (repeat (first | refine RS.seq ?_ | refine RS.region ?_ | refine RS.regionQ ?_ (by kernel_rfl) (by kernel_rfl) | refine RS.skip ?_ | refine RS.inBlock ?_ | refine RS.block ?_ | refine RS.exit ?_))
        refine ih (i2 + 1, S2, th.set g false, sum, σ5) ⟨by (try dsimp only); omega, by (try dsimp only); omega, ho2, PH.le_trans hle2 (PH.le_trans hle1 hle5)⟩ (by (try dsimp only); omega) ⟨rfl, rfl, rfl, trivial⟩ (by repeat (first | with_reducible exact Out.refl _ _ _ | exact Out.hv | refine Out.upd ?_ | refine Out.hvIn ?_)) ⟨fun h => ?_⟩ rfl
        first | exact h.tail | (rw [hset]; exact h.tail)
    · (repeat (first | refine RS.seq ?_ | refine RS.region ?_ | refine RS.regionQ ?_ (by kernel_rfl) (by kernel_rfl) | refine RS.skip ?_ | refine RS.inBlock ?_ | refine RS.block ?_ | refine RS.exit ?_)); refine asB ?_; refine LS.done ?_; (repeat (first | refine RS.seq ?_ | refine RS.region ?_ | refine RS.regionQ ?_ (by kernel_rfl) (by kernel_rfl) | refine RS.skip ?_ | refine RS.inBlock ?_ | refine RS.block ?_ | refine RS.exit ?_)); refine RS.ret1 (v := .bool _) Try.func8 fun w hw => ?_
      exact ⟨rfl, hw.below⟩
end Go.Proofs.Ytbinkokafbpnoaa
