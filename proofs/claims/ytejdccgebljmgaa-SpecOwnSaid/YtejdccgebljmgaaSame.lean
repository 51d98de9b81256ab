/- Contracts: two rows that are the same are told to be. -/
import Derived.Test.YtejdccgebljmgaaShardsR
namespace Go.Proofs.Ytejdccgebljmgaa
open Go.JW Go.RowKit

theorem rints_c (va vb : Value) (l : List Int) (w : World) (ha : RepL (hp w) va l) (hb : RepL (hp w) vb l) : Calls Try.prog 27 #[va, vb] w fun e w' => e = .returned (.bool true) ∧ Below w.heap.size w w' := by
  obtain ⟨aa, ca, rfl⟩ := ha.form
  obtain ⟨ab, cb, rfl⟩ := hb.form
  have hlen : l.length ≤ 140737488355328 := ha.1
  refine RS.enter Try.func27 Try.ntmps27 rfl rfl ?_
  (repeat (first | refine RS.seq ?_ | refine RS.region ?_ | refine RS.regionQ ?_ (by kernel_rfl) (by kernel_rfl) | refine RS.skip ?_ | refine RS.inBlock ?_ | refine RS.block ?_ | refine RS.exit ?_)); refine asB ?_; refine LS.done ?_
  (repeat (first | refine RS.seq ?_ | refine RS.region ?_ | refine RS.regionQ ?_ (by kernel_rfl) (by kernel_rfl) | refine RS.skip ?_ | refine RS.inBlock ?_ | refine RS.block ?_ | refine RS.exit ?_)); refine mvL ?_; refine lenL ?_; refine mvL ?_; refine lenL ?_; refine neI ?_; refine LS.done ?_
  (repeat (first | refine RS.seq ?_ | refine RS.region ?_ | refine RS.regionQ ?_ (by kernel_rfl) (by kernel_rfl) | refine RS.skip ?_ | refine RS.inBlock ?_ | refine RS.block ?_ | refine RS.exit ?_)); refine RS.condF ?_ (h := by simp)
  (repeat (first | refine RS.seq ?_ | refine RS.region ?_ | refine RS.regionQ ?_ (by kernel_rfl) (by kernel_rfl) | refine RS.skip ?_ | refine RS.inBlock ?_ | refine RS.block ?_ | refine RS.exit ?_)); refine asI ?_; refine LS.done ?_
  (repeat (first | refine RS.seq ?_ | refine RS.region ?_ | refine RS.regionQ ?_ (by kernel_rfl) (by kernel_rfl) | refine RS.skip ?_ | refine RS.inBlock ?_ | refine RS.block ?_ | refine RS.exit ?_))
  refine RS.loopF (X := Nat) 5 26 (fun k => k ≤ l.length) (fun k => [(5, .int .i64 k)]) (fun _ => hp w) (fun _ => []) (fun k => l.length - k) 0 (by omega) ⟨rfl, trivial⟩ rfl inferInstance ?_
  rintro k g hk ih
  (repeat (first | refine RS.seq ?_ | refine RS.region ?_ | refine RS.regionQ ?_ (by kernel_rfl) (by kernel_rfl) | refine RS.skip ?_ | refine RS.inBlock ?_ | refine RS.block ?_ | refine RS.exit ?_)); refine mvI ?_; refine mvL ?_; refine lenL ?_; refine ltI ?_; refine LS.done ?_
  (repeat (first | refine RS.seq ?_ | refine RS.region ?_ | refine RS.regionQ ?_ (by kernel_rfl) (by kernel_rfl) | refine RS.skip ?_ | refine RS.inBlock ?_ | refine RS.block ?_ | refine RS.exit ?_))
  by_cases hlt : k < l.length
  · refine RS.condT ?_ (h := by simp; omega)
    obtain ⟨b1, o1, rfl, r1⟩ := ha.addr (fun h => by simp [h] at hlt)
    obtain ⟨b2, o2, rfl, r2⟩ := hb.addr (fun h => by simp [h] at hlt)
    obtain ⟨h1, _⟩ := r1.int k hlt
    obtain ⟨h2, _⟩ := r2.int k hlt
    (repeat (first | refine RS.seq ?_ | refine RS.region ?_ | refine RS.regionQ ?_ (by kernel_rfl) (by kernel_rfl) | refine RS.skip ?_ | refine RS.inBlock ?_ | refine RS.block ?_ | refine RS.exit ?_)); refine mvL ?_; refine mvI ?_; refine idx (i := k) ?_; refine ldS h1 ?_; refine mvL ?_; refine mvI ?_; refine idx (i := k) ?_; refine ldS h2 ?_; refine neI ?_; refine LS.done ?_
    (repeat (first | refine RS.seq ?_ | refine RS.region ?_ | refine RS.regionQ ?_ (by kernel_rfl) (by kernel_rfl) | refine RS.skip ?_ | refine RS.inBlock ?_ | refine RS.block ?_ | refine RS.exit ?_)); refine RS.condF ?_ (h := by simp)
    (repeat (first | refine RS.seq ?_ | refine RS.region ?_ | refine RS.regionQ ?_ (by kernel_rfl) (by kernel_rfl) | refine RS.skip ?_ | refine RS.inBlock ?_ | refine RS.block ?_ | refine RS.exit ?_)); refine mvI ?_; (first | refine addN ?_ | refine addI ?_); refine asI ?_; refine LS.done ?_; (repeat (first | refine RS.seq ?_ | refine RS.region ?_ | refine RS.regionQ ?_ (by kernel_rfl) (by kernel_rfl) | refine RS.skip ?_ | refine RS.inBlock ?_ | refine RS.block ?_ | refine RS.exit ?_))
    exact ih (k + 1) hlt (by omega) ⟨rfl, trivial⟩ (by repeat (first | with_reducible exact Out.refl _ _ _ | exact Out.hv | refine Out.upd ?_ | refine Out.hvIn ?_)) ⟨fun h => h⟩ rfl
  · refine RS.condF ?_ (h := by simp; omega)
    (repeat (first | refine RS.seq ?_ | refine RS.region ?_ | refine RS.regionQ ?_ (by kernel_rfl) (by kernel_rfl) | refine RS.skip ?_ | refine RS.inBlock ?_ | refine RS.block ?_ | refine RS.exit ?_)); refine asB ?_; refine LS.done ?_; (repeat (first | refine RS.seq ?_ | refine RS.region ?_ | refine RS.regionQ ?_ (by kernel_rfl) (by kernel_rfl) | refine RS.skip ?_ | refine RS.inBlock ?_ | refine RS.block ?_ | refine RS.exit ?_)); refine RS.ret1 (v := .bool _) Try.func27 fun w hw => ?_
    exact ⟨rfl, hw.below⟩
theorem rsame_c (va vb : Value) (l : List ByteArray) (w : World) (ha : RepL (hp w) va l) (hb : RepL (hp w) vb l) : Calls Try.prog 48 #[va, vb] w fun e w' => e = .returned (.bool true) ∧ Below w.heap.size w w' := by
  obtain ⟨aa, ca, rfl⟩ := ha.form
  obtain ⟨ab, cb, rfl⟩ := hb.form
  have hlen : l.length ≤ 140737488355328 := ha.1
  refine RS.enter Try.func48 Try.ntmps48 rfl rfl ?_
  (repeat (first | refine RS.seq ?_ | refine RS.region ?_ | refine RS.regionQ ?_ (by kernel_rfl) (by kernel_rfl) | refine RS.skip ?_ | refine RS.inBlock ?_ | refine RS.block ?_ | refine RS.exit ?_)); refine asB ?_; refine LS.done ?_
  (repeat (first | refine RS.seq ?_ | refine RS.region ?_ | refine RS.regionQ ?_ (by kernel_rfl) (by kernel_rfl) | refine RS.skip ?_ | refine RS.inBlock ?_ | refine RS.block ?_ | refine RS.exit ?_)); refine mvL ?_; refine lenL ?_; refine mvL ?_; refine lenL ?_; refine neI ?_; refine LS.done ?_
  (repeat (first | refine RS.seq ?_ | refine RS.region ?_ | refine RS.regionQ ?_ (by kernel_rfl) (by kernel_rfl) | refine RS.skip ?_ | refine RS.inBlock ?_ | refine RS.block ?_ | refine RS.exit ?_)); refine RS.condF ?_ (h := by simp)
  (repeat (first | refine RS.seq ?_ | refine RS.region ?_ | refine RS.regionQ ?_ (by kernel_rfl) (by kernel_rfl) | refine RS.skip ?_ | refine RS.inBlock ?_ | refine RS.block ?_ | refine RS.exit ?_)); refine asI ?_; refine LS.done ?_
  (repeat (first | refine RS.seq ?_ | refine RS.region ?_ | refine RS.regionQ ?_ (by kernel_rfl) (by kernel_rfl) | refine RS.skip ?_ | refine RS.inBlock ?_ | refine RS.block ?_ | refine RS.exit ?_))
  refine RS.loopF (X := Nat) 5 26 (fun k => k ≤ l.length) (fun k => [(5, .int .i64 k)]) (fun _ => hp w) (fun _ => []) (fun k => l.length - k) 0 (by omega) ⟨rfl, trivial⟩ rfl inferInstance ?_
  rintro k g hk ih
  (repeat (first | refine RS.seq ?_ | refine RS.region ?_ | refine RS.regionQ ?_ (by kernel_rfl) (by kernel_rfl) | refine RS.skip ?_ | refine RS.inBlock ?_ | refine RS.block ?_ | refine RS.exit ?_)); refine mvI ?_; refine mvL ?_; refine lenL ?_; refine ltI ?_; refine LS.done ?_
  (repeat (first | refine RS.seq ?_ | refine RS.region ?_ | refine RS.regionQ ?_ (by kernel_rfl) (by kernel_rfl) | refine RS.skip ?_ | refine RS.inBlock ?_ | refine RS.block ?_ | refine RS.exit ?_))
  by_cases hlt : k < l.length
  · refine RS.condT ?_ (h := by simp; omega)
    obtain ⟨b1, o1, rfl, r1⟩ := ha.addr (fun h => by simp [h] at hlt)
    obtain ⟨b2, o2, rfl, r2⟩ := hb.addr (fun h => by simp [h] at hlt)
    obtain ⟨h1, _⟩ := r1.str k hlt
    obtain ⟨h2, _⟩ := r2.str k hlt
    (repeat (first | refine RS.seq ?_ | refine RS.region ?_ | refine RS.regionQ ?_ (by kernel_rfl) (by kernel_rfl) | refine RS.skip ?_ | refine RS.inBlock ?_ | refine RS.block ?_ | refine RS.exit ?_)); refine mvL ?_; refine mvI ?_; refine idx (i := k) ?_; refine ldS h1 ?_; refine mvL ?_; refine mvI ?_; refine idx (i := k) ?_; refine ldS h2 ?_; refine neS ?_; refine LS.done ?_
    (repeat (first | refine RS.seq ?_ | refine RS.region ?_ | refine RS.regionQ ?_ (by kernel_rfl) (by kernel_rfl) | refine RS.skip ?_ | refine RS.inBlock ?_ | refine RS.block ?_ | refine RS.exit ?_)); refine RS.condF ?_ (h := by simp)
    (repeat (first | refine RS.seq ?_ | refine RS.region ?_ | refine RS.regionQ ?_ (by kernel_rfl) (by kernel_rfl) | refine RS.skip ?_ | refine RS.inBlock ?_ | refine RS.block ?_ | refine RS.exit ?_)); refine mvI ?_; (first | refine addN ?_ | refine addI ?_); refine asI ?_; refine LS.done ?_; (repeat (first | refine RS.seq ?_ | refine RS.region ?_ | refine RS.regionQ ?_ (by kernel_rfl) (by kernel_rfl) | refine RS.skip ?_ | refine RS.inBlock ?_ | refine RS.block ?_ | refine RS.exit ?_))
    exact ih (k + 1) hlt (by omega) ⟨rfl, trivial⟩ (by repeat (first | with_reducible exact Out.refl _ _ _ | exact Out.hv | refine Out.upd ?_ | refine Out.hvIn ?_)) ⟨fun h => h⟩ rfl
  · refine RS.condF ?_ (h := by simp; omega)
    (repeat (first | refine RS.seq ?_ | refine RS.region ?_ | refine RS.regionQ ?_ (by kernel_rfl) (by kernel_rfl) | refine RS.skip ?_ | refine RS.inBlock ?_ | refine RS.block ?_ | refine RS.exit ?_)); refine asB ?_; refine LS.done ?_; (repeat (first | refine RS.seq ?_ | refine RS.region ?_ | refine RS.regionQ ?_ (by kernel_rfl) (by kernel_rfl) | refine RS.skip ?_ | refine RS.inBlock ?_ | refine RS.block ?_ | refine RS.exit ?_)); refine RS.ret1 (v := .bool _) Try.func48 fun w hw => ?_
    exact ⟨rfl, hw.below⟩
theorem eq_vec (c m c' m' : Int) (w : World) : (Op.equalIn 10000 23 (.agg (List.toArray [.int .i64 c, .int .i64 m])) (.agg (List.toArray [.int .i64 c', .int .i64 m']))).run Try.prog w = .ok (c == c' && m == m') w := by
  have ht : Try.prog.underlying 23 = some (.struct (Try.prog.fieldsOf 23)) := by kernel_rfl
  have hf : (Try.prog.fieldsOf 23).toList = [⟨"Cpu", 3, 0, false, "", "", 0⟩, ⟨"Mem", 3, 1, false, "", "", 8⟩] := by kernel_rfl
  have hi : Try.prog.underlying 3 = some (.int .i64) := TInt.eq
  have hag := fun w => run_agg (P := Try.prog) (t := 3) w TOne.agg
  rw [run_equalIn_agg w 9999 _ _ _ ht (by kernel_rfl), hf]
  simp [Op.eqFields, part, hag, run_equalIn_int _ 9998 3 .i64 .i64 _ _ hi]
  by_cases h : c = c' <;> by_cases h2 : m = m' <;> simp [h, h2]
theorem rpods_c (va vb : Value) (l : List PodD) (w : World) (ha : RepL (hp w) va l) (hb : RepL (hp w) vb l) : Calls Try.prog 30 #[va, vb] w fun e w' => e = .returned (.bool true) ∧ Below w.heap.size w w' := by
  obtain ⟨aa, ca, rfl⟩ := ha.form
  obtain ⟨ab, cb, rfl⟩ := hb.form
  have hlen : l.length ≤ 140737488355328 := ha.1
  refine RS.enter Try.func30 Try.ntmps30 rfl rfl ?_
  (repeat (first | refine RS.seq ?_ | refine RS.region ?_ | refine RS.regionQ ?_ (by kernel_rfl) (by kernel_rfl) | refine RS.skip ?_ | refine RS.inBlock ?_ | refine RS.block ?_ | refine RS.exit ?_)); refine asB ?_; refine LS.done ?_
  (repeat (first | refine RS.seq ?_ | refine RS.region ?_ | refine RS.regionQ ?_ (by kernel_rfl) (by kernel_rfl) | refine RS.skip ?_ | refine RS.inBlock ?_ | refine RS.block ?_ | refine RS.exit ?_)); refine mvL ?_; refine lenL ?_; refine mvL ?_; refine lenL ?_; refine neI ?_; refine LS.done ?_
  (repeat (first | refine RS.seq ?_ | refine RS.region ?_ | refine RS.regionQ ?_ (by kernel_rfl) (by kernel_rfl) | refine RS.skip ?_ | refine RS.inBlock ?_ | refine RS.block ?_ | refine RS.exit ?_)); refine RS.condF ?_ (h := by simp)
  (repeat (first | refine RS.seq ?_ | refine RS.region ?_ | refine RS.regionQ ?_ (by kernel_rfl) (by kernel_rfl) | refine RS.skip ?_ | refine RS.inBlock ?_ | refine RS.block ?_ | refine RS.exit ?_)); refine asI ?_; refine LS.done ?_
  (repeat (first | refine RS.seq ?_ | refine RS.region ?_ | refine RS.regionQ ?_ (by kernel_rfl) (by kernel_rfl) | refine RS.skip ?_ | refine RS.inBlock ?_ | refine RS.block ?_ | refine RS.exit ?_))
  refine RS.loopF (X := Nat × PH) 5 69 (fun x => x.1 ≤ l.length ∧ PH.le (hp w) x.2) (fun x => [(5, .int .i64 x.1)]) (fun x => x.2) (fun _ => []) (fun x => l.length - x.1) (0, hp w) ⟨by omega, PH.le_refl _⟩ ⟨rfl, trivial⟩ rfl inferInstance ?_
  rintro ⟨k, σ⟩ g ⟨hk, hle0⟩ ih
  simp only at hk hle0 ih ⊢
  (repeat (first | refine RS.seq ?_ | refine RS.region ?_ | refine RS.regionQ ?_ (by kernel_rfl) (by kernel_rfl) | refine RS.skip ?_ | refine RS.inBlock ?_ | refine RS.block ?_ | refine RS.exit ?_)); refine mvI ?_; refine mvL ?_; refine lenL ?_; refine ltI ?_; refine LS.done ?_
  (repeat (first | refine RS.seq ?_ | refine RS.region ?_ | refine RS.regionQ ?_ (by kernel_rfl) (by kernel_rfl) | refine RS.skip ?_ | refine RS.inBlock ?_ | refine RS.block ?_ | refine RS.exit ?_))
  by_cases hlt : k < l.length
  · refine RS.condT ?_ (h := by simp; omega)
    obtain ⟨b1, o1, rfl, r1⟩ := ha.addr (fun h => by simp [h] at hlt)
    obtain ⟨b2, o2, rfl, r2⟩ := hb.addr (fun h => by simp [h] at hlt)
    obtain ⟨vs1, hr1, hl1, hc1⟩ := RowAt.pod (r1.mono hle0) k hlt
    obtain ⟨vs2, hr2, hl2, hc2⟩ := RowAt.pod (r2.mono hle0) k hlt
    obtain ⟨vp1, vb1, rfl, _, _, _, _, hp1, hb1⟩ := hr1
    obtain ⟨vp2, vb2, rfl, _, _, _, _, hp2, hb2⟩ := hr2
    obtain ⟨ap1, cp1, rfl⟩ := hp1.form
    obtain ⟨ab1, cb1, rfl⟩ := hb1.form
    obtain ⟨ap2, cp2, rfl⟩ := hp2.form
    obtain ⟨ab2, cb2, rfl⟩ := hb2.form
    (repeat (first | refine RS.seq ?_ | refine RS.region ?_ | refine RS.skip ?_ | refine RS.inBlock ?_ | refine RS.block ?_ | refine RS.exit ?_)); refine RS.drawK [.free, .free, .free, .free, .free, .free, .free, .free, .own, .own, .st, .st] ?_ (by kernel_rfl) (by kernel_rfl); refine D.mvL ?_; refine D.mvI ?_; refine D.idx (i := k) ?_; refine D.ldSAf (vs := podC l[k] (.slice ap1 l[k].picks.length cp1) (.slice ab1 l[k].bears.length cb1)) hl1 hc1 ?_; refine D.mvL ?_; refine D.mvI ?_; refine D.idx (i := k) ?_; refine D.ldSAf (vs := podC l[k] (.slice ap2 l[k].picks.length cp2) (.slice ab2 l[k].bears.length cb2)) hl2 hc2 ?_; refine D.alloc_ ?_; refine D.alloc_ ?_
    refine D.stO2 (podC l[k] (.slice ap1 l[k].picks.length cp1) (.slice ab1 l[k].bears.length cb1)) ?_
    refine D.stK (podC l[k] (.slice ap2 l[k].picks.length cp2) (.slice ab2 l[k].bears.length cb2)) ?_
    refine D.done (fun us σ1 hle1 hfs => ?_)
    refine RS.openOwn (fun b7 h7 => ?_); refine RS.as 7 (.pointer (some ⟨b7, 0, none⟩)) h7 ?_
    refine RS.to (K' := [ownHP (us 6) (.cells (List.toArray (podC l[k] (.slice ap1 l[k].picks.length cp1) (.slice ab1 l[k].bears.length cb1))) 26 (0, 0)), blk b7 (.cells (List.toArray (podC l[k] (.slice ap2 l[k].picks.length cp2) (.slice ab2 l[k].bears.length cb2))) 26 (0, 0))]) ?_ ⟨fun h => h.swap⟩
    refine RS.openOwn (fun b6 h6 => ?_); refine RS.as 6 (.pointer (some ⟨b6, 0, none⟩)) h6 ?_
    (repeat (first | refine RS.seq ?_ | refine RS.region ?_ | refine RS.regionQ ?_ (by kernel_rfl) (by kernel_rfl) | refine RS.skip ?_ | refine RS.inBlock ?_ | refine RS.block ?_ | refine RS.exit ?_)); refine fld ?_; refine ld1 (v := .string _) ?_; refine fld ?_; refine ld1 (v := .string _) ?_; refine neS ?_; refine mvB ?_
    refine LS.part 32 (fun g32 => ?_) (fun g32 => ?_)
    · exfalso; simp at g32
    refine LS.on ?_; refine fld ?_; refine LS.on ?_; refine ld1 (v := .int _ _) ?_; refine LS.on ?_; refine fld ?_; refine LS.on ?_; refine ld1 (v := .int _ _) ?_; refine LS.on ?_; refine neI ?_; refine pk (v := .bool _) ?_; refine mvB ?_
    refine LS.part 39 (fun g39 => ?_) (fun g39 => ?_)
    · exfalso; simp at g39
    refine LS.on ?_; refine fld ?_; refine LS.on ?_; refine ldA [_, _] ?_; refine LS.on ?_; refine fld ?_; refine LS.on ?_; refine ldA [_, _] ?_; refine LS.on ?_; refine neqA (us1 := [.int .i64 _, .int .i64 _]) (us2 := [.int .i64 _, .int .i64 _]) (eq_vec _ _ _ _) (by kernel_rfl) ?_; refine pk (v := .bool _) ?_; refine mvB ?_
    refine LS.part 46 (fun g46 => ?_) (fun g46 => ?_)
    · exfalso; simp at g46
    refine LS.on ?_; refine fld ?_; refine LS.on ?_; refine ld1 (v := .bool _) ?_; refine LS.on ?_; refine fld ?_; refine LS.on ?_; refine ld1 (v := .bool _) ?_; refine LS.on ?_; refine bin_neq_B ?_; refine pk (v := .bool _) ?_; refine mvB ?_
    refine LS.part 53 (fun g53 => ?_) (fun g53 => ?_)
    · exfalso; simp at g53
    refine LS.on ?_; refine fld ?_; refine LS.on ?_; refine ld1 (v := .slice _ _ _) ?_; refine LS.on ?_; refine fld ?_; refine LS.on ?_; refine ld1 (v := .slice _ _ _) ?_; refine LS.on ?_
    refine callP ?_ (hc := fun w hw => rsame_c _ _ l[k].picks w ((hp1.mono hle1).mono hw.imm) ((hp2.mono hle1).mono hw.imm))
    refine LS.on ?_; refine not_ ?_; refine pk (v := .bool _) ?_; refine mvB ?_
    refine LS.part 61 (fun g61 => ?_) (fun g61 => ?_)
    · exfalso; simp at g61
    refine LS.on ?_; refine fld ?_; refine LS.on ?_; refine ld1 (v := .slice _ _ _) ?_; refine LS.on ?_; refine fld ?_; refine LS.on ?_; refine ld1 (v := .slice _ _ _) ?_; refine LS.on ?_
    refine callP ?_ (hc := fun w hw => rsame_c _ _ l[k].bears w ((hb1.mono hle1).mono hw.imm) ((hb2.mono hle1).mono hw.imm))
    refine LS.on ?_; refine not_ ?_; refine pk (v := .bool _) ?_; refine LS.done ?_
    (repeat (first | refine RS.seq ?_ | refine RS.region ?_ | refine RS.regionQ ?_ (by kernel_rfl) (by kernel_rfl) | refine RS.skip ?_ | refine RS.inBlock ?_ | refine RS.block ?_ | refine RS.exit ?_)); refine RS.condF ?_ (h := by simp)
    (repeat (first | refine RS.seq ?_ | refine RS.region ?_ | refine RS.regionQ ?_ (by kernel_rfl) (by kernel_rfl) | refine RS.skip ?_ | refine RS.inBlock ?_ | refine RS.block ?_ | refine RS.exit ?_)); refine mvI ?_; (first | refine addN ?_ | refine addI ?_); refine asI ?_; refine LS.done ?_; (repeat (first | refine RS.seq ?_ | refine RS.region ?_ | refine RS.regionQ ?_ (by kernel_rfl) (by kernel_rfl) | refine RS.skip ?_ | refine RS.inBlock ?_ | refine RS.block ?_ | refine RS.exit ?_))
    exact ih (k + 1, σ1) ⟨hlt, PH.le_trans hle0 hle1⟩ (by omega) ⟨rfl, trivial⟩ (by repeat (first | with_reducible exact Out.refl _ _ _ | exact Out.hv | refine Out.upd ?_ | refine Out.hvIn ?_)) inferInstance rfl
  · refine RS.condF ?_ (h := by simp; omega)
    (repeat (first | refine RS.seq ?_ | refine RS.region ?_ | refine RS.regionQ ?_ (by kernel_rfl) (by kernel_rfl) | refine RS.skip ?_ | refine RS.inBlock ?_ | refine RS.block ?_ | refine RS.exit ?_)); refine asB ?_; refine LS.done ?_; (repeat (first | refine RS.seq ?_ | refine RS.region ?_ | refine RS.regionQ ?_ (by kernel_rfl) (by kernel_rfl) | refine RS.skip ?_ | refine RS.inBlock ?_ | refine RS.block ?_ | refine RS.exit ?_)); refine RS.ret1 (v := .bool _) Try.func30 fun w hw => ?_
    exact ⟨rfl, hw.below⟩
end Go.Proofs.Ytejdccgebljmgaa
