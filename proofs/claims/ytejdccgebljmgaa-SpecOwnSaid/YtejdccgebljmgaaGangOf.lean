/- Contracts: gangs that may be, made of numbers. -/
import Derived.Test.YtejdccgebljmgaaMadePod
import Derived.Test.YtejdccgebljmgaaRowD
namespace Go.Proofs.Ytejdccgebljmgaa
open Go.JW Go.RowKit

def podsTo (ns : List Int) (s : Int) (k : Nat) : List PodD := (List.range k).map fun (i : Nat) => podOf (i : Int) (ns.getD i 0) s
def gangOf (id : Int) (ns : List Int) (s : Int) : GangD := ⟨1 + id % 999999, if ns.length = 0 then [podOf 0 id s] else podsTo ns s (min 8 ns.length)⟩
theorem podsTo_succ (ns : List Int) (s : Int) (k : Nat) : podsTo ns s (k + 1) = podsTo ns s k ++ [podOf (k : Int) (ns.getD k 0) s] := by simp [podsTo, List.range_succ]
theorem podsTo_length (ns : List Int) (s : Int) (k : Nat) : (podsTo ns s k).length = k := by simp [podsTo]
theorem gangOf_len (id : Int) (ns : List Int) (s : Int) : 1 ≤ (gangOf id ns s).pods.length ∧ (gangOf id ns s).pods.length ≤ 8 := by
  simp only [gangOf]
  split
  · simp
  · rw [podsTo_length]; omega
theorem lgang_c (id s : Int) (ns : List Int) (vn : Value) (hid : I64 id) (hs : 0 < s ∧ s ≤ 1000) (N : Nat) (w : World) (hn : RepL (hp w) vn ns) (hN : N ≤ w.heap.size) : Calls Try.prog 25 #[.int .i64 id, vn, .int .i64 s] w fun e w' =>
    ∃ v τ, e = .returned (.agg (List.toArray [.int .i64 (1 + id % 999999), v])) ∧ Post τ [rowD N 26 v (gangOf id ns s).pods] w w' ∧ True := by
  obtain ⟨an, cn, rfl⟩ := hn.form
  have hlen : ns.length ≤ 140737488355328 := hn.1
  obtain ⟨a1, a2⟩ := wmod id 999999 (by omega)
  refine RS.enter Try.func25 Try.ntmps25 rfl rfl ?_
  (repeat (first | refine RS.seq ?_ | refine RS.region ?_ | refine RS.regionQ ?_ (by kernel_rfl) (by kernel_rfl) | refine RS.skip ?_ | refine RS.inBlock ?_ | refine RS.block ?_ | refine RS.exit ?_)); refine alloc_ (fun b6 => ?_); refine LS.done ?_
  (repeat (first | refine RS.seq ?_ | refine RS.region ?_ | refine RS.regionQ ?_ (by kernel_rfl) (by kernel_rfl) | refine RS.skip ?_ | refine RS.inBlock ?_ | refine RS.block ?_ | refine RS.exit ?_)); refine mvI ?_
  refine callP ?_ (hc := fun w _ => w3_c _ _ (by omega) (by omega) w)
  (first | refine addN ?_ | refine addI ?_); refine bld (vals := [(0, .int _ _)]) [_, _] ?_; refine alloc_ (fun b7 => ?_); refine st (.agg _) _ ?_; refine LS.done ?_
  refine RS.nilD w.heap.size PodD 26 ?_
  (repeat (first | refine RS.seq ?_ | refine RS.region ?_ | refine RS.regionQ ?_ (by kernel_rfl) (by kernel_rfl) | refine RS.skip ?_ | refine RS.inBlock ?_ | refine RS.block ?_ | refine RS.exit ?_)); refine asI ?_; refine LS.done ?_
  (repeat (first | refine RS.seq ?_ | refine RS.region ?_ | refine RS.regionQ ?_ (by kernel_rfl) (by kernel_rfl) | refine RS.skip ?_ | refine RS.inBlock ?_ | refine RS.block ?_ | refine RS.exit ?_))
  refine RS.loopF (X := Nat × Value × PH) 8 35 (fun x => x.1 ≤ 8 ∧ x.1 ≤ ns.length ∧ PH.le (hp w) x.2.2) (fun x => [(8, .int .i64 x.1)]) (fun x => x.2.2) (fun x => [rowD w.heap.size 26 x.2.1 (podsTo ns s x.1), blk b7 (.cells (List.toArray [.int .i64 (1 + id % 999999), x.2.1]) 48 (0, 0)), blk b6 (.cells (List.toArray [.int .i64 0, .slice none 0 0]) 48 (0, 0))]) (fun x => 8 - x.1) (0, .slice none 0 0, hp w) ⟨by omega, by omega, PH.le_refl _⟩ ⟨rfl, trivial⟩ rfl ⟨fun h => h⟩ ?_
  rintro ⟨i, v, σ⟩ g ⟨hi8, hin, hle⟩ ih
  simp only at hi8 hin hle ih ⊢
  (repeat (first | refine RS.seq ?_ | refine RS.region ?_ | refine RS.regionQ ?_ (by kernel_rfl) (by kernel_rfl) | refine RS.skip ?_ | refine RS.inBlock ?_ | refine RS.block ?_ | refine RS.exit ?_)); refine mvI ?_; refine ltI ?_; refine mvB ?_
  refine LS.cut 14 21 [(20, .bool (decide (i < 8 ∧ i < ns.length)))] (fun gg => ?_) (fun J => ?_)
  rotate_left
  · refine LS.part 15 (fun g1 => ?_) (fun g1 => ?_)
    · refine LS.on ?_; refine mvI ?_; refine LS.on ?_; refine mvL ?_; refine LS.on ?_; refine lenL ?_; refine LS.on ?_; refine ltI ?_; refine pk (v := .bool _) ?_; refine LS.done ?_
      simp only [decide_eq_true_eq] at g1
      exact J ⟨boolV (decide_eq_decide.2 (by omega)), trivial⟩ (by repeat (first | with_reducible exact Out.refl _ _ _ | exact Out.hv | refine Out.upd ?_ | refine Out.hvIn ?_))
    · refine LS.off ?_; refine LS.off ?_; refine LS.off ?_; refine LS.off ?_; refine pk (v := .bool _) ?_; refine LS.done ?_
      simp only [decide_eq_false_iff_not] at g1
      exact J ⟨boolV (by symm; exact decide_eq_false (by omega)), trivial⟩ (by repeat (first | with_reducible exact Out.refl _ _ _ | exact Out.hv | refine Out.upd ?_ | refine Out.hvIn ?_))
  (repeat (first | refine RS.seq ?_ | refine RS.region ?_ | refine RS.regionQ ?_ (by kernel_rfl) (by kernel_rfl) | refine RS.skip ?_ | refine RS.inBlock ?_ | refine RS.block ?_ | refine RS.exit ?_))
  refine RS.cond (fun c => ?_) (fun c => ?_)
  · simp only [decide_eq_true_eq] at c
    obtain ⟨b, o, rfl, hr⟩ := hn.addr (fun h => by simp [h] at c)
    obtain ⟨hcell, h64⟩ := (hr.mono hle).int i c.2
    have hgd : ns[i] = ns.getD i 0 := by simp [List.getD_eq_getElem?_getD, c.2]
    rw [hgd] at hcell h64
    have hpl := podsTo_length ns s i
    (repeat (first | refine RS.seq ?_ | refine RS.region ?_ | refine RS.skip ?_ | refine RS.inBlock ?_ | refine RS.block ?_ | refine RS.exit ?_)); refine RS.draw [.free, .ex, .free, .free, .free, .free, .ex, .free, .ex, .ex, .eff, .free, .st] [blk b7 (.cells (List.toArray [.int .i64 (1 + id % 999999), v]) 48 (0, 0))] ?_ (by kernel_rfl) (by kernel_rfl) (by infer_instance); refine D.fld ?_; refine D.ld1 (v := v) ?_; refine D.mvI ?_; refine D.mvL ?_; refine D.mvI ?_; refine D.idx (i := i) ?_; refine D.ldS hcell ?_; refine D.mvI ?_
    refine D.callN (fun v τ => RepA τ v (podOf (i : Int) (ns.getD i 0) s)) ?_ (hc := fun _ _ w _ _ _ => lpod_c _ _ _ (by omega) h64 hs w)
    refine D.litT w.heap.size [podOf (i : Int) (ns.getD i 0) s] (vs := fun us => [us 31]) ?_ (fun us σ' _ ⟨⟨τ, h1, h2, h3⟩, _⟩ => ⟨(h1.mono (h3.le_from (Nat.le_refl _) h2)).cv, trivial⟩)
    refine D.appD v [podOf (i : Int) (ns.getD i 0) s] (vy := fun us => us 32) ?_ (fun us σ' _ ⟨h1, _⟩ => ⟨_, h1, PH.le_refl _⟩)
    refine D.fld ?_
    refine D.stU 33 (fun us => [.int .i64 (1 + id % 999999), us 33]) ?_
    refine D.done (fun us σ1 hle1 hfs => ?_)
    rw [← podsTo_succ]
    (repeat (first | refine RS.seq ?_ | refine RS.region ?_ | refine RS.regionQ ?_ (by kernel_rfl) (by kernel_rfl) | refine RS.skip ?_ | refine RS.inBlock ?_ | refine RS.block ?_ | refine RS.exit ?_)); refine mvI ?_; (first | refine addN ?_ | refine addI ?_); refine asI ?_; refine LS.done ?_; (repeat (first | refine RS.seq ?_ | refine RS.region ?_ | refine RS.regionQ ?_ (by kernel_rfl) (by kernel_rfl) | refine RS.skip ?_ | refine RS.inBlock ?_ | refine RS.block ?_ | refine RS.exit ?_))
    exact ih (i + 1, us 33, σ1) ⟨by omega, by omega, PH.le_trans hle hle1⟩ (by omega) ⟨rfl, trivial⟩ (by repeat (first | with_reducible exact Out.refl _ _ _ | exact Out.hv | refine Out.upd ?_ | refine Out.hvIn ?_)) ⟨fun h => h⟩ rfl
  · simp only [decide_eq_false_iff_not] at c
    have hpl := podsTo_length ns s i
    (repeat (first | refine RS.seq ?_ | refine RS.region ?_ | refine RS.regionQ ?_ (by kernel_rfl) (by kernel_rfl) | refine RS.skip ?_ | refine RS.inBlock ?_ | refine RS.block ?_ | refine RS.exit ?_)); refine fld ?_; refine ld1 (v := v) ?_; refine lenD v ?_; refine eqI ?_; refine LS.done ?_
    (repeat (first | refine RS.seq ?_ | refine RS.region ?_ | refine RS.regionQ ?_ (by kernel_rfl) (by kernel_rfl) | refine RS.skip ?_ | refine RS.inBlock ?_ | refine RS.block ?_ | refine RS.exit ?_))
    refine RS.cond (fun z => ?_) (fun z => ?_)
    · simp only [decide_eq_true_eq] at z
      have hns : ns = [] := List.eq_nil_of_length_eq_zero (by omega)
      (repeat (first | refine RS.seq ?_ | refine RS.region ?_ | refine RS.skip ?_ | refine RS.inBlock ?_ | refine RS.block ?_ | refine RS.exit ?_)); refine RS.draw [.free, .ex, .free, .free, .ex, .ex, .eff, .free, .st] [blk b7 (.cells (List.toArray [.int .i64 (1 + id % 999999), v]) 48 (0, 0))] ?_ (by kernel_rfl) (by kernel_rfl) (by infer_instance); refine D.fld ?_; refine D.ld1 (v := v) ?_; refine D.mvI ?_; refine D.mvI ?_
      refine D.callN (fun v τ => RepA τ v (podOf 0 id s)) ?_ (hc := fun _ _ w _ _ _ => lpod_c _ _ _ (by omega) hid hs w)
      refine D.litT w.heap.size [podOf 0 id s] (vs := fun us => [us 43]) ?_ (fun us σ' _ ⟨⟨τ, h1, h2, h3⟩, _⟩ => ⟨(h1.mono (h3.le_from (Nat.le_refl _) h2)).cv, trivial⟩)
      refine D.appD v [podOf 0 id s] (vy := fun us => us 44) ?_ (fun us σ' _ ⟨h1, _⟩ => ⟨_, h1, PH.le_refl _⟩)
      refine D.fld ?_
      refine D.stU 45 (fun us => [.int .i64 (1 + id % 999999), us 45]) ?_
      refine D.done (fun us σ1 hle1 hfs => ?_)
      have eG : gangOf id ns s = ⟨1 + id % 999999, podsTo ns s i ++ [podOf 0 id s]⟩ := by
        subst hns
        obtain rfl : i = 0 := by simpa using hin
        rfl
      refine RS.to (K' := [rowD w.heap.size 26 (us 45) (podsTo ns s i ++ [podOf 0 id s]), blk b7 (.cells (List.toArray [.int .i64 (1 + id % 999999), us 45]) 48 (0, 0)), blk b6 (.cells (List.toArray [.int .i64 0, .slice none 0 0]) 48 (0, 0))]) ?_ ⟨fun h => h⟩
      generalize us 45 = v'
      refine RS.formD v' (fun a' c' e' _ => ?_); subst e'
      (repeat (first | refine RS.seq ?_ | refine RS.region ?_ | refine RS.regionQ ?_ (by kernel_rfl) (by kernel_rfl) | refine RS.skip ?_ | refine RS.inBlock ?_ | refine RS.block ?_ | refine RS.exit ?_)); refine ldA [_, _] ?_; refine st (.agg _) _ ?_; refine LS.done ?_; (repeat (first | refine RS.seq ?_ | refine RS.region ?_ | refine RS.regionQ ?_ (by kernel_rfl) (by kernel_rfl) | refine RS.skip ?_ | refine RS.inBlock ?_ | refine RS.block ?_ | refine RS.exit ?_)); refine RS.retC (ty := 48) Try.func25 [_, _] fun w hw => ?_
      exact ⟨_, _, rfl, (by rw [eG]; exact (hw.postD rfl).rowN hN), trivial⟩
    · refine RS.formD v (fun a' c' e' _ => ?_); subst e'
      (repeat (first | refine RS.seq ?_ | refine RS.region ?_ | refine RS.regionQ ?_ (by kernel_rfl) (by kernel_rfl) | refine RS.skip ?_ | refine RS.inBlock ?_ | refine RS.block ?_ | refine RS.exit ?_)); refine ldA [_, _] ?_; refine st (.agg _) _ ?_; refine LS.done ?_; (repeat (first | refine RS.seq ?_ | refine RS.region ?_ | refine RS.regionQ ?_ (by kernel_rfl) (by kernel_rfl) | refine RS.skip ?_ | refine RS.inBlock ?_ | refine RS.block ?_ | refine RS.exit ?_)); refine RS.retC (ty := 48) Try.func25 [_, _] fun w hw => ?_
      have hi : i = min 8 ns.length := by omega
      have z' : ¬ (ns.length = 0) := by rw [hpl] at z; simp at z; omega
      have eG : gangOf id ns s = ⟨1 + id % 999999, podsTo ns s i⟩ := by simp only [gangOf]; rw [if_neg z', ← hi]
      exact ⟨_, _, rfl, (by rw [eG]; exact (hw.postD rfl).rowN hN), trivial⟩
end Go.Proofs.Ytejdccgebljmgaa
