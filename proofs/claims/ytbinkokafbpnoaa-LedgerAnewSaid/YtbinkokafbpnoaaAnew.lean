/- The law LedgerAnew answers true. -/
import Derived.Test.YtbinkokafbpnoaaLaw7
namespace Go.Proofs.Ytbinkokafbpnoaa
open Go.JW Go.RowKit
def nmA : ByteArray := ⟨#[97]⟩
def nmZ : ByteArray := ⟨#[122]⟩
def anewN (c : Int) (z : Bool) : NodeD := ⟨nmN, c, 0, [nmZ], [], z⟩
theorem isSet_z : isSet [nmZ] = true := by decide +kernel
theorem nodeErr_anew {c : Int} (hc : 0 ≤ c ∧ c ≤ 1099511627776) (z : Bool) : nodeErr (anewN c z) = 0 := by
  unfold nodeErr
  have h1 : isName (anewN c z).name = true := isName_n
  have h2 : sizeOk (anewN c z).cpu (anewN c z).mem = true := by
    show sizeOk c 0 = true
    simp [sizeOk, size1, hc]
  have h3 : isSet (anewN c z).marks = true := isSet_z
  rw [h1, h2, h3]
  rfl
theorem anew_c (cpu more : Int) (closed : Bool) (hcpu : I64 cpu) (hmore : I64 more) (w : World) : Calls Try.prog 9 #[.int .i64 cpu, .int .i64 more, .bool closed] w fun e w' => e = .returned (.bool true) ∧ Below w.heap.size w w' := by
  obtain ⟨a1, a2⟩ := wmod cpu 50 (by omega)
  obtain ⟨d1, d2⟩ := wmod more 9 (by omega)
  refine RS.enter Try.func9 Try.ntmps9 rfl rfl ?_
  (repeat (first | refine RS.seq ?_ | refine RS.region ?_ | refine RS.regionQ ?_ (by kernel_rfl) (by kernel_rfl) | refine RS.skip ?_ | refine RS.inBlock ?_ | refine RS.block ?_ | refine RS.exit ?_)); refine asB ?_; refine LS.done ?_
  (repeat (first | refine RS.seq ?_ | refine RS.region ?_ | refine RS.regionQ ?_ (by kernel_rfl) (by kernel_rfl) | refine RS.skip ?_ | refine RS.inBlock ?_ | refine RS.block ?_ | refine RS.exit ?_)); skip
  refine callP ?_ (hc := fun w _ => known7_c w)
  refine not_ ?_; refine LS.done ?_
  (repeat (first | refine RS.seq ?_ | refine RS.region ?_ | refine RS.regionQ ?_ (by kernel_rfl) (by kernel_rfl) | refine RS.skip ?_ | refine RS.inBlock ?_ | refine RS.block ?_ | refine RS.exit ?_)); refine RS.condF ?_
  (repeat (first | refine RS.seq ?_ | refine RS.region ?_ | refine RS.regionQ ?_ (by kernel_rfl) (by kernel_rfl) | refine RS.skip ?_ | refine RS.inBlock ?_ | refine RS.block ?_ | refine RS.exit ?_)); refine mvI ?_
  refine callP ?_ (hc := fun w _ => w7_c _ _ (by omega) (by omega) w)
  refine asI ?_; refine LS.done ?_
  obtain ⟨c, hc⟩ : ∃ c, c = cpu % 50 := ⟨_, rfl⟩
  obtain ⟨m, hm⟩ : ∃ m, m = more % 9 := ⟨_, rfl⟩
  rw [← hc] at a1 a2 ⊢
  rw [← hm] at d1 d2
  have i1 := oneInv (c := c) (m := 5) (by omega) (by omega)
  have e3 : takeE (oneN c 5) 1 [placeP nmA nmN c 0] = 0 := by
    rw [takeE_one (n := nodeN nmN c 5) rfl rfl ⟨a1, Int.le_refl 0⟩, if_pos]
    exact ⟨by show (0 : Int) + c ≤ c; omega, by show (0 : Int) + 0 ≤ 5; omega⟩
  have i2 := i1.take (g := 1) (ps := [placeP nmA nmN c 0]) (m := 1) (by simp) (by simp)
  have hn2 : takeT (oneN c 5) 1 [placeP nmA nmN c 0] = [(1, [placeP nmA nmN c 0])] := by rw [takeT, if_pos e3]; rfl
  rw [hn2] at i2
  (repeat (first | refine RS.seq ?_ | refine RS.region ?_ | refine RS.regionQ ?_ (by kernel_rfl) (by kernel_rfl) | refine RS.skip ?_ | refine RS.inBlock ?_ | refine RS.block ?_ | refine RS.exit ?_)); refine mvI ?_
  refine callX (X := Nat × PH) (fun x => .pointer (some ⟨x.1, 0, none⟩)) (fun x => x.2) (fun x => ledHP x.1 (oneN c 5) :: _) (fun x => PH.le _ x.2) (fun ⟨bl, σ1⟩ hle1 => ?_) (fun w' hw => room7_c c 5 (by omega) (by omega) w' hw)
  simp only at hle1 ⊢
  refine asP ?_; refine LS.done ?_
  (repeat (first | refine RS.seq ?_ | refine RS.region ?_ | refine RS.regionQ ?_ (by kernel_rfl) (by kernel_rfl) | refine RS.skip ?_ | refine RS.inBlock ?_ | refine RS.block ?_ | refine RS.exit ?_)); refine mvP ?_; refine bin_eql_P ?_; refine mvB ?_; refine LS.on ?_; refine mvP ?_; refine LS.on ?_; refine mvI ?_; refine LS.on ?_; refine bld (vals := [(0, .int _ _)]) [_, _] ?_; refine LS.on ?_; refine bld (vals := [(0, .string _), (1, .string _), (2, .agg (List.toArray [_, _]))]) [_, _, _, _, _] ?_; refine LS.on ?_; refine bldS [.agg (List.toArray (placeC (placeP nmA nmN c 0)))] (placeC (placeP nmA nmN c 0)) (fun b27 => ?_); refine LS.on ?_
  refine takeL 1 _ [placeP nmA nmN c 0] i1 (by omega) (by simp) (argP (by decide) (by decide) (by omega) (by omega) inferInstance) (fun σ2 hle2 => ?_)
  rw [e3, hn2]
  refine LS.on ?_; refine neI ?_; refine pk (v := .bool _) ?_; refine LS.done ?_
  (repeat (first | refine RS.seq ?_ | refine RS.region ?_ | refine RS.regionQ ?_ (by kernel_rfl) (by kernel_rfl) | refine RS.skip ?_ | refine RS.inBlock ?_ | refine RS.block ?_ | refine RS.exit ?_)); refine RS.condF ?_
  (repeat (first | refine RS.seq ?_ | refine RS.region ?_ | refine RS.regionQ ?_ (by kernel_rfl) (by kernel_rfl) | refine RS.skip ?_ | refine RS.inBlock ?_ | refine RS.block ?_ | refine RS.exit ?_)); refine mvI ?_; refine mvI ?_
  refine callP ?_ (hc := fun w _ => w7_c _ _ (by omega) (by omega) w)
  rw [← hm]
  (first | refine addN ?_ | refine addI ?_); refine bld (vals := [(0, .int _ _)]) [_, _] ?_; refine bldS [.string _] [.string _] (fun b36 => ?_); refine mvB ?_; refine bld (vals := [(0, .string _), (1, .agg (List.toArray [_, _])), (2, .slice _ _ _), (4, .bool _)]) [_, _, _, _, _, _] ?_; refine alloc_ (fun b9 => ?_); refine st (.agg _) _ ?_; refine LS.done ?_
  have hne : nodeErr (anewN (c + m) closed) = 0 := nodeErr_anew (by omega) closed
  have hu1 : usedC [(1, [placeP nmA nmN c 0])] nmN = c := by
    show (if nmN = nmN then c else 0) + 0 + 0 = c; rw [if_pos rfl]; omega
  have hu2 : usedM [(1, [placeP nmA nmN c 0])] nmN = 0 := by rfl
  have hu3 : usedN [(1, [placeP nmA nmN c 0])] nmN = 1 := by rfl
  have e4 : putE ⟨(oneN c 5).nodes, [(1, [placeP nmA nmN c 0])]⟩ (anewN (c + m) closed) = 0 := by
    rw [putE_fits hne rfl, if_pos]
    show fitsB (usedC [(1, [placeP nmA nmN c 0])] nmN) (usedM [(1, [placeP nmA nmN c 0])] nmN) (c + m) 0 = true
    rw [hu1, hu2]; exact decide_eq_true ⟨by omega, by omega⟩
  have hn4 : putN ⟨(oneN c 5).nodes, [(1, [placeP nmA nmN c 0])]⟩ (anewN (c + m) closed) = [(nmN, anewN (c + m) closed)] := by rw [putN, if_pos e4]; rfl
  have i3 := i2.put (anewN (c + m) closed)
  rw [hn4] at i3
  refine RS.freeze (b := b36) inferInstance (fun σ3 hle3 hb36 => ?_)
  have hz : RepL σ3 (.slice (some ⟨b36, 0, none⟩) 1 1) [nmZ] := repLit hb36 (cellsStr σ3 (l := [nmZ]) (by decide)) rfl (by simp) (by simp)
  (repeat (first | refine RS.seq ?_ | refine RS.region ?_ | refine RS.regionQ ?_ (by kernel_rfl) (by kernel_rfl) | refine RS.skip ?_ | refine RS.inBlock ?_ | refine RS.block ?_ | refine RS.exit ?_)); refine mvP ?_; refine ldA [_, _, _, _, _, _] ?_
  refine putL (anewN (c + m) closed) (some ⟨b36, 0, none⟩) none 1 0 i2 (by omega) (ArgAt.of ⟨_, _, rfl, (show nmN.size ≤ _ by decide), (show I64 (c + m) by omega), (show I64 0 by decide), hz, RepL.nil _ _ _⟩) (fun σ4 hle4 => ?_)
  rw [e4, hn4]
  refine asI ?_; refine LS.done ?_
  (repeat (first | refine RS.seq ?_ | refine RS.region ?_ | refine RS.regionQ ?_ (by kernel_rfl) (by kernel_rfl) | refine RS.skip ?_ | refine RS.inBlock ?_ | refine RS.block ?_ | refine RS.exit ?_)); refine mvP ?_
  refine usedL nmN i3 (by omega) (fun σ5 hle5 => ?_)
  rw [hu1, hu2, hu3]
  refine mvT ?_; refine extr (v := _) ?_; refine extr (v := .int _ _) ?_; refine alloc_ (fun b11 => ?_); refine st (.agg _) _ ?_; refine asI ?_; refine LS.done ?_
  (repeat (first | refine RS.seq ?_ | refine RS.region ?_ | refine RS.regionQ ?_ (by kernel_rfl) (by kernel_rfl) | refine RS.skip ?_ | refine RS.inBlock ?_ | refine RS.block ?_ | refine RS.exit ?_)); refine mvP ?_
  refine nodesL i3 (fun v5 σ6 hle6 hr6 => ?_)
  have hnl : nodesOf ⟨[(nmN, anewN (c + m) closed)], [(1, [placeP nmA nmN c 0])]⟩ = [anewN (c + m) closed] := rfl
  rw [hnl] at hr6
  obtain ⟨a6, c6, rfl⟩ := hr6.form
  obtain ⟨b6, o6, rfl, hrow⟩ := hr6.addr (by simp)
  obtain ⟨vs, hcs, hrep⟩ := hrow 0 (by simp)
  obtain ⟨vm, vt, rfl, _, _, _, hvm, hvt⟩ := hrep
  obtain ⟨am, cm, rfl⟩ := hvm.form
  obtain ⟨at_, ct, rfl⟩ := hvt.form
  have hcap : ∀ j, j < 2 → σ6.cell b6 (o6 + 0 * 6 + 1 + j) = [Value.int .i64 (c + m), .int .i64 0][j]? := fun j hj => by
    have := hcs (j + 1) (by show j + 1 < 6; omega)
    rw [show o6 + 0 * Rep.sz NodeD + (j + 1) = o6 + 0 * 6 + 1 + j by show o6 + 0 * 6 + (j + 1) = _; omega] at this
    rw [this]
    have : j = 0 ∨ j = 1 := by omega
    rcases this with rfl | rfl <;> rfl
  have hcl : σ6.cell b6 (o6 + 0 * 6 + 5) = some (.bool closed) := hcs 5 (by decide)
  have hmk : σ6.cell b6 (o6 + 0 * 6 + 3) = some (.slice am 1 cm) := hcs 3 (by decide)
  refine asL ?_; refine LS.done ?_
  (repeat (first | refine RS.seq ?_ | refine RS.region ?_ | refine RS.regionQ ?_ (by kernel_rfl) (by kernel_rfl) | refine RS.skip ?_ | refine RS.inBlock ?_ | refine RS.block ?_ | refine RS.exit ?_)); refine mvI ?_; refine eqI ?_; refine mvB ?_; refine LS.on ?_; refine fld ?_; refine LS.on ?_; refine ld1 (v := .int _ _) ?_; refine LS.on ?_; refine mvI ?_; refine LS.on ?_; refine eqI ?_; rw [decide_eq_true (show c = c from rfl)]; refine pk (v := .bool _) ?_; refine mvB ?_; refine LS.on ?_; refine mvI ?_; refine LS.on ?_; refine eqI ?_; refine pk (v := .bool _) ?_; refine mvB ?_; refine LS.on ?_; refine mvL ?_; refine LS.on ?_; refine lenL ?_; refine LS.on ?_; refine eqI ?_; refine pk (v := .bool _) ?_; refine mvB ?_; refine LS.on ?_; refine mvL ?_; refine LS.on ?_; refine idx (i := 0) ?_ (hi := by simp); refine LS.on ?_; refine fld ?_; refine LS.on ?_; refine ldSA (vs := [.int .i64 (c + m), .int .i64 0]) rfl hcap ?_; refine LS.on ?_; refine fld ?_; refine LS.on ?_; refine ldA [_, _] ?_; refine LS.on ?_; refine eqA (b := true) (us1 := [.int .i64 (c + m), .int .i64 0]) (us2 := [.int .i64 (c + m), .int .i64 0]) (fun w => by rw [eq_vec]; simp) (by kernel_rfl) ?_; refine pk (v := .bool _) ?_; refine mvB ?_; refine LS.on ?_; refine mvL ?_; refine LS.on ?_; refine idx (i := 0) ?_ (hi := by simp); refine LS.on ?_; refine fld ?_; refine LS.on ?_; refine ldS hcl ?_; refine LS.on ?_; refine mvB ?_; refine LS.on ?_; refine bin_eql_B ?_; rw [beq_self_eq_true]; refine pk (v := .bool _) ?_; refine mvB ?_; refine LS.on ?_; refine mvL ?_; refine LS.on ?_; refine idx (i := 0) ?_ (hi := by simp); refine LS.on ?_; refine fld ?_; refine LS.on ?_; refine ldS hmk ?_; refine LS.on ?_; refine lenL ?_; refine LS.on ?_; refine eqI ?_; refine pk (v := .bool _) ?_; refine asB ?_; refine LS.done ?_
  (repeat (first | refine RS.seq ?_ | refine RS.region ?_ | refine RS.regionQ ?_ (by kernel_rfl) (by kernel_rfl) | refine RS.skip ?_ | refine RS.inBlock ?_ | refine RS.block ?_ | refine RS.exit ?_)); refine RS.ret1 (v := .bool _) Try.func9 fun w hw => ?_
  exact ⟨rfl, hw.below⟩
end Go.Proofs.Ytbinkokafbpnoaa
