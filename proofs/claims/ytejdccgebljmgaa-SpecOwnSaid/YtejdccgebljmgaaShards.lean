/- Contracts: a gang's shards. -/
import Derived.Test.YtejdccgebljmgaaGang
import Derived.Test.YtejdccgebljmgaaSort
import Derived.Test.YtejdccgebljmgaaFun
namespace Go.Proofs.Ytejdccgebljmgaa
open Go.JW Go.RowKit

def shardL (l : List PodD) : List Int := l.map PodD.shard
def shardsOf (l : List PodD) : List Int := Lib.compact ((shardL l).mergeSort fun x y => decide (x ≤ y))
theorem mem_shards (l : List PodD) (x : Int) : x ∈ shardsOf l ↔ x ∈ shardL l := by
  rw [shardsOf, compact_mem]; exact (List.mergeSort_perm _ _).mem_iff
theorem shards_rising (l : List PodD) : Rising (shardsOf l) := by
  refine compact_rising ?_
  have := List.pairwise_mergeSort (le := fun (x y : Int) => decide (x ≤ y)) (fun a b c h1 h2 => by simp at *; omega) (fun a b => by simp; omega) (shardL l)
  simpa using this
theorem shards_len (l : List PodD) : (shardsOf l).length ≤ l.length := by
  refine Nat.le_trans (compact_len _) ?_
  simp [shardL]
theorem RowAt.podShard {σ : PH} {b o : Nat} {l : List PodD} (h : RowAt σ b o l) (i : Nat) (hi : i < l.length) : σ.cell b (o + i * 7 + 1) = some (.int .i64 l[i].shard) ∧ I64 l[i].shard := by
  obtain ⟨vs, h1, _, h2⟩ := RowAt.pod h i hi
  obtain ⟨vp, vb, rfl, _, hs, _⟩ := h1
  exact ⟨h2 1 (by omega), hs⟩
theorem shards64 {σ : PH} {v : Value} {l : List PodD} (h : RepL σ v l) : ∀ z ∈ shardsOf l, I64 z := fun z hz => by
  rw [mem_shards] at hz
  obtain ⟨p, hp, rfl⟩ := List.mem_map.1 hz
  obtain ⟨i, hi, rfl⟩ := List.mem_iff_getElem.1 hp
  obtain ⟨a, c, rfl⟩ := h.form
  obtain ⟨b, o, _, hrow⟩ := h.addr (fun h0 => by simp [h0] at hi)
  exact (RowAt.podShard hrow i hi).2
theorem shards_c (cs : List Value) (g : GangD) (w : World) (hr : Rep.rep (hp w) cs g) (hb : g.pods.length ≤ 1000) : Calls Try.prog 26 #[.agg cs.toArray] w fun e w' => ∃ v, e = .returned v ∧ Below w.heap.size w w' ∧ RepL (since w w') v (shardsOf g.pods) := by
  obtain ⟨v, rfl, hid, hl⟩ := hr
  obtain ⟨a, cap, rfl⟩ := hl.form
  have hlen : g.pods.length ≤ 140737488355328 := hl.1
  refine RS.enter Try.func26 Try.ntmps26 rfl rfl ?_
  (repeat (first | refine RS.seq ?_ | refine RS.region ?_ | refine RS.regionQ ?_ (by kernel_rfl) (by kernel_rfl) | refine RS.skip ?_ | refine RS.inBlock ?_ | refine RS.block ?_ | refine RS.exit ?_)); refine box_ (v := .agg _) (cs := [_, _]) (fun b1 => ?_); refine asL ?_; refine LS.done ?_
  (repeat (first | refine RS.seq ?_ | refine RS.region ?_ | refine RS.regionQ ?_ (by kernel_rfl) (by kernel_rfl) | refine RS.skip ?_ | refine RS.inBlock ?_ | refine RS.block ?_ | refine RS.exit ?_)); refine asL ?_; refine LS.done ?_
  (repeat (first | refine RS.seq ?_ | refine RS.region ?_ | refine RS.regionQ ?_ (by kernel_rfl) (by kernel_rfl) | refine RS.skip ?_ | refine RS.inBlock ?_ | refine RS.block ?_ | refine RS.exit ?_)); refine fld ?_; refine ld1 (v := .slice _ _ _) ?_; refine lenL ?_; refine mvI ?_; refine LS.done ?_
  refine RS.nilRow 3 1 ?_
  (repeat (first | refine RS.seq ?_ | refine RS.region ?_ | refine RS.regionQ ?_ (by kernel_rfl) (by kernel_rfl) | refine RS.skip ?_ | refine RS.inBlock ?_ | refine RS.block ?_ | refine RS.exit ?_))
  refine RS.loopF (X := Nat × Value) 3 19 (fun x => x.1 ≤ g.pods.length) (fun x => [(9, .int .i64 x.1), (3, x.2), (7, .slice a g.pods.length cap), (8, .int .i64 g.pods.length)]) (fun _ => hp w) (fun x => [rowH 3 1 x.2 x.1 ((shardL (g.pods.take x.1)).map (Value.int .i64)), blk b1 (.cells (List.toArray [.int .i64 g.id, .slice a g.pods.length cap]) 48 (0, 0))]) (fun x => g.pods.length - x.1) (0, .slice none 0 0) (by simp) ⟨rfl, rfl, rfl, rfl, trivial⟩ rfl ⟨fun h => h⟩ ?_
  rintro ⟨i, v⟩ gg hi ih
  simp only at hi ih ⊢
  (repeat (first | refine RS.seq ?_ | refine RS.region ?_ | refine RS.regionQ ?_ (by kernel_rfl) (by kernel_rfl) | refine RS.skip ?_ | refine RS.inBlock ?_ | refine RS.block ?_ | refine RS.exit ?_)); refine ltI ?_; refine LS.done ?_
  (repeat (first | refine RS.seq ?_ | refine RS.region ?_ | refine RS.regionQ ?_ (by kernel_rfl) (by kernel_rfl) | refine RS.skip ?_ | refine RS.inBlock ?_ | refine RS.block ?_ | refine RS.exit ?_))
  by_cases hlt : i < g.pods.length
  · refine RS.condT ?_ (h := by simp; omega)
    obtain ⟨b, o, rfl, hrow⟩ := hl.addr (fun h => by simp [h] at hlt)
    obtain ⟨vs, hvr, hvl, hvc⟩ := RowAt.pod hrow i hlt
    obtain ⟨vp, vb, rfl, _, hs64, _, _, hvp, hvb⟩ := hvr
    obtain ⟨ap, cp, rfl⟩ := hvp.form
    obtain ⟨ab, cb, rfl⟩ := hvb.form
    (repeat (first | refine RS.seq ?_ | refine RS.region ?_ | refine RS.regionQ ?_ (by kernel_rfl) (by kernel_rfl) | refine RS.skip ?_ | refine RS.inBlock ?_ | refine RS.block ?_ | refine RS.exit ?_)); refine idx (i := i) ?_; refine ldSA (vs := podC g.pods[i] (.slice ap g.pods[i].picks.length cp) (.slice ab g.pods[i].bears.length cb)) hvl hvc ?_; refine alloc_ (fun b5 => ?_); refine st (.agg _) _ ?_; refine LS.done ?_
    (repeat (first | refine RS.seq ?_ | refine RS.region ?_ | refine RS.regionQ ?_ (by kernel_rfl) (by kernel_rfl) | refine RS.skip ?_ | refine RS.inBlock ?_ | refine RS.block ?_ | refine RS.exit ?_)); refine mv (v := v) ?_; refine fld ?_; refine ld1 (v := .int _ _) ?_; refine bldS [.int _ _] [.int _ _] (fun b16 => ?_); refine appR (v := v) (kk := 1) (vy := .slice (some ⟨b16, 0, none⟩) 1 1) (news := [.int _ _]) (fun w hw => srcB hw (TSlice.eq (P := Try.prog))) (fun v17 => ?_); refine as_ (v := v17) ?_; refine LS.done ?_
    (repeat (first | refine RS.seq ?_ | refine RS.region ?_ | refine RS.regionQ ?_ (by kernel_rfl) (by kernel_rfl) | refine RS.skip ?_ | refine RS.inBlock ?_ | refine RS.block ?_ | refine RS.exit ?_)); (first | refine addN ?_ | refine addI ?_); refine mvI ?_; refine LS.done ?_; (repeat (first | refine RS.seq ?_ | refine RS.region ?_ | refine RS.regionQ ?_ (by kernel_rfl) (by kernel_rfl) | refine RS.skip ?_ | refine RS.inBlock ?_ | refine RS.block ?_ | refine RS.exit ?_))
    have e1 : (shardL (g.pods.take (i + 1))).map (Value.int .i64) = (shardL (g.pods.take i)).map (Value.int .i64) ++ [.int .i64 g.pods[i].shard] := by rw [List.take_add_one, List.getElem?_eq_getElem hlt]; simp only [shardL, Option.toList_some, List.map_append, List.map_cons, List.map_nil]
    exact ih (i + 1, v17) hlt (by omega) ⟨rfl, rfl, rfl, rfl, trivial⟩ (by repeat (first | with_reducible exact Out.refl _ _ _ | exact Out.hv | refine Out.upd ?_ | refine Out.hvIn ?_)) ⟨fun h => by simp only [e1]; exact h.tail.tail⟩ rfl
  · refine RS.condF ?_ (h := by simp; omega)
    obtain rfl : i = g.pods.length := by omega
    clear ih hlt
    rw [List.take_length]
    have hsl : (shardL g.pods).length = g.pods.length := by simp [shardL]
    (repeat (first | refine RS.seq ?_ | refine RS.region ?_ | refine RS.regionQ ?_ (by kernel_rfl) (by kernel_rfl) | refine RS.skip ?_ | refine RS.inBlock ?_ | refine RS.block ?_ | refine RS.exit ?_)); refine mv (v := v) ?_
    refine callX (X := Unit) (fun _ => .tuple #[]) (fun _ => hp w) (fun _ => [rowH 3 1 v g.pods.length (((shardL g.pods).mergeSort fun x y => decide (x ≤ y)).map (Value.int .i64)), blk b1 (.cells (List.toArray [.int .i64 g.id, .slice a g.pods.length cap]) 48 (0, 0))]) (fun _ => True) (fun _ _ => ?_) (fun w' hw => (sort_c (v := v) hw hsl.symm (by omega)).mono fun e w' h => ⟨(), h.1, h.2, trivial⟩)
    refine LS.done ?_
    (repeat (first | refine RS.seq ?_ | refine RS.region ?_ | refine RS.regionQ ?_ (by kernel_rfl) (by kernel_rfl) | refine RS.skip ?_ | refine RS.inBlock ?_ | refine RS.block ?_ | refine RS.exit ?_)); refine mv (v := v) ?_
    refine callX (X := Value) (fun v => v) (fun _ => hp w) (fun v2 => [rowH 3 1 v2 (shardsOf g.pods).length ((shardsOf g.pods).map (Value.int .i64)), blk b1 (.cells (List.toArray [.int .i64 g.id, .slice a g.pods.length cap]) 48 (0, 0))]) (fun _ => True) (fun v2 _ => ?_) (fun w' hw => (compact_c (v := v) (m := g.pods.length) (zs := (shardL g.pods).mergeSort fun x y => decide (x ≤ y)) hw (by simp [hsl]) (compact_len _)))
    refine as_ (v := v2) ?_; refine LS.done ?_
    refine RS.closeD w.heap.size (shardsOf g.pods) (v := v2) inferInstance (CellsL.ofInts _ (shards64 hl)) ?_
    have hsl2 := shards_len g.pods
    refine RS.freezeD (l := shardsOf g.pods) v2 (fun σ2 hle2 hrep => ?_)
    obtain ⟨a2, c2, rfl⟩ := hrep.form
    have hc2 := hrep.cap
    (repeat (first | refine RS.seq ?_ | refine RS.region ?_ | refine RS.regionQ ?_ (by kernel_rfl) (by kernel_rfl) | refine RS.skip ?_ | refine RS.inBlock ?_ | refine RS.block ?_ | refine RS.exit ?_)); refine mvL ?_; refine mvL ?_; refine lenL ?_; refine mvL ?_; refine lenL ?_; refine slcCut (shardsOf g.pods).length ?_; refine asL ?_; refine LS.done ?_
    (repeat (first | refine RS.seq ?_ | refine RS.region ?_ | refine RS.regionQ ?_ (by kernel_rfl) (by kernel_rfl) | refine RS.skip ?_ | refine RS.inBlock ?_ | refine RS.block ?_ | refine RS.exit ?_)); refine RS.ret1 (v := .slice _ _ _) Try.func26 fun w hw => ?_
    refine ⟨_, rfl, hw.below, (hrep.recap (Nat.le_refl _)).mono hw.since_le⟩
end Go.Proofs.Ytejdccgebljmgaa
