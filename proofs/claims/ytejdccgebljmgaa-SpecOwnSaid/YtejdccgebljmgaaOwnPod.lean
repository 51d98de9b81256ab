/- Contracts: a pod of its own. -/
import Derived.Test.YtejdccgebljmgaaSame
import Derived.Test.YtejdccgebljmgaaDOwn
namespace Go.Proofs.Ytejdccgebljmgaa
open Go.JW Go.RowKit

theorem clone_post {w w' : World} {v : Value} {l : List ByteArray} (N : Nat) (h : w'.ownsRow w.heap.size 9 1 v l.length (l.map Value.string)) (hb : Below w.heap.size w w') (hl : ∀ s ∈ l, s.size ≤ 140737488355328) : Post (fun _ => none) [rowD N 9 v l] w w' := by
  obtain ⟨h1, h2⟩ := h
  refine ⟨hb, fun _ _ => rfl, fun b o h => (by cases h), ?_⟩
  have hcl : CellsL (fromN N (fun _ => none)) (l.map Value.string) l := cellsStr _ hl
  have h47 : l.length ≤ l.length := Nat.le_refl _
  rcases h2 with ⟨rfl, h3⟩ | ⟨g, cap, cur, rfl, h3, h4, h5, h6, h7, h8⟩
  · exact ⟨fun _ => False, ⟨_, hcl, hcl.len, hcl.one, none, 0, by rw [h3], by omega, by omega, .inl ⟨h3, rfl⟩⟩, fun _ h => h.elim, trivial⟩
  · refine ⟨fun b => b = g, ⟨_, hcl, hcl.len, hcl.one, _, cap, rfl, h5, by simpa [maxLen] using h6, .inr ⟨g, cur.toList, rfl, rfl, by show hp w' g = _; rw [Array.toArray_toList]; exact h4, by rw [Array.length_toList, h7]; exact Nat.le_refl _, h8⟩⟩, ?_, trivial⟩
    rintro b rfl
    exact ⟨h3, hp_lt h4, rfl⟩
theorem RepL.strs {σ : PH} {v : Value} {l : List ByteArray} (h : RepL σ v l) : ∀ s ∈ l, s.size ≤ 140737488355328 := fun s hs => by
  obtain ⟨i, hi, rfl⟩ := List.mem_iff_getElem.1 hs
  obtain ⟨a, c, rfl⟩ := h.form
  obtain ⟨b, o, _, r⟩ := h.addr (fun h0 => by simp [h0] at hi)
  exact (r.str i hi).2
theorem clone_c (l : List ByteArray) (v : Value) (N : Nat) (w : World) (h : RepL (hp w) v l) (hb : l.length ≤ 1000) : Calls Try.prog 58 #[v] w fun r w' => ∃ v' τ, r = .returned v' ∧ Post τ [rowD N 9 v' l] w w' ∧ True := by
  have hs := RepL.strs h
  obtain ⟨a, c, rfl⟩ := h.form
  cases a with
  | none =>
    have hn : l = [] := Classical.byContradiction fun hn => by obtain ⟨b, o, e, _⟩ := h.addr hn; cases e
    subst hn
    refine (Try.slices_Clone_string_nil 0 c w).mono fun r w' ⟨h1, h2⟩ => ⟨_, (fun _ => none), h1, ?_, trivial⟩
    subst h2
    exact clone_post N ⟨rfl, .inl ⟨rfl, rfl⟩⟩ (Below.refl _ _) hs
  | some ad =>
    by_cases hn : l = []
    · subst hn
      refine (Try.slices_Clone_string_zero ad c w).mono fun r w' ⟨v', h1, h2, _, h3⟩ => ⟨v', _, h1, clone_post N h2 h3 hs, trivial⟩
    · obtain ⟨b, o, e, hr⟩ := h.addr hn
      injection e with e; subst e
      refine (Try.slices_Clone_string b o l.length c l w (Nat.le_refl _) (by omega) fun j hj => ?_).mono fun r w' ⟨v', h1, h2, _, h3⟩ => ⟨v', _, h1, clone_post N (by rw [List.take_length] at h2; exact h2) h3 hs, trivial⟩
      have := (hr.str j hj).1
      rw [← PH.cell_world, List.getD_eq_getElem?_getD, List.getElem?_eq_getElem hj]; simpa using this
theorem own_c (cs : List Value) (p : PodD) (N : Nat) (w : World) (hr : Rep.rep (hp w) cs p) (hb : p.picks.length ≤ 1000 ∧ p.bears.length ≤ 1000) : Calls Try.prog 47 #[.agg cs.toArray] w fun e w' =>
    ∃ (x : Value × Value) (τ : PH), e = .returned (.agg (List.toArray (podC p x.1 x.2))) ∧ Post τ [rowD N 9 x.1 p.picks, rowD N 9 x.2 p.bears] w w' ∧ True := by
  obtain ⟨vp, vb, rfl, hn, hs, hc, hm, hp1, hb1⟩ := hr
  obtain ⟨ap, cp, rfl⟩ := hp1.form
  obtain ⟨ab, cb, rfl⟩ := hb1.form
  refine RS.enter Try.func47 Try.ntmps47 rfl rfl ?_
  (repeat (first | refine RS.seq ?_ | refine RS.region ?_ | refine RS.regionQ ?_ (by kernel_rfl) (by kernel_rfl) | refine RS.skip ?_ | refine RS.inBlock ?_ | refine RS.block ?_ | refine RS.exit ?_)); refine box_ (v := .agg _) (cs := [_, _, _, _, _, _, _]) (fun b1 => ?_); refine alloc_ (fun b2 => ?_); refine LS.done ?_
  (repeat (first | refine RS.seq ?_ | refine RS.region ?_ | refine RS.skip ?_ | refine RS.inBlock ?_ | refine RS.block ?_ | refine RS.exit ?_)); refine RS.drawK [.free, .ex, .eff, .free, .ex, .eff, .free, .st, .free, .st] ?_ (by kernel_rfl) (by kernel_rfl); refine D.fld ?_; refine D.ld1 (v := .slice _ _ _) ?_
  refine D.callD N 9 p.picks ?_ (hc := fun _ _ w hle _ hw => clone_c _ _ N w (hp1.mono (PH.le_trans hle hw.imm)) hb.1)
  refine D.fld ?_; refine D.ld1 (v := .slice _ _ _) ?_
  refine D.callD N 9 p.bears ?_ (hc := fun _ _ w hle _ hw => clone_c _ _ N w (hb1.mono (PH.le_trans hle hw.imm)) hb.2)
  refine D.fld ?_
  refine D.stV 5 (fun _ => podC p (.slice ap p.picks.length cp) (.slice ab p.bears.length cb)) (fun us => podC p (us 5) (.slice ab p.bears.length cb)) ?_
  refine D.fld ?_
  refine D.stV 8 (fun us => podC p (us 5) (.slice ab p.bears.length cb)) (fun us => podC p (us 5) (us 8)) ?_
  refine D.done (fun us σ1 hle1 hfs => ?_)
  refine RS.to (K' := [rowD N 9 (us 5) p.picks, rowD N 9 (us 8) p.bears, blk b2 (.cells (List.toArray [.string ⟨#[]⟩, .int .i64 0, .int .i64 0, .int .i64 0, .slice none 0 0, .slice none 0 0, .bool false]) 26 (0, 0)), blk b1 (.cells (List.toArray (podC p (us 5) (us 8))) 26 (0, 0))]) ?_ ⟨fun h => h.swap⟩
  generalize us 5 = v5
  generalize us 8 = v8
  refine RS.formD v5 (fun a5 c5 e5 _ => ?_); subst e5
  refine RS.formD v8 (fun a8 c8 e8 _ => ?_); subst e8
  (repeat (first | refine RS.seq ?_ | refine RS.region ?_ | refine RS.regionQ ?_ (by kernel_rfl) (by kernel_rfl) | refine RS.skip ?_ | refine RS.inBlock ?_ | refine RS.block ?_ | refine RS.exit ?_)); refine ldA [_, _, _, _, _, _, _] ?_; refine st (.agg _) _ ?_; refine LS.done ?_; (repeat (first | refine RS.seq ?_ | refine RS.region ?_ | refine RS.regionQ ?_ (by kernel_rfl) (by kernel_rfl) | refine RS.skip ?_ | refine RS.inBlock ?_ | refine RS.block ?_ | refine RS.exit ?_)); refine RS.retC (ty := 26) Try.func47 [_, _, _, _, _, _, _] fun w hw => ?_
  refine ⟨(_, _), (fun _ => none), rfl, ?_, trivial⟩
  refine Sat.post hw (fun _ _ => rfl) (fun b o h => (by cases h)) fun F hF => ?_
  obtain ⟨F1, h1, h2, F2, h3, h4, _⟩ := hF
  exact ⟨F1, rowD_str h1 (fun _ _ => rfl), h2, F2, rowD_str h3 (fun _ _ => rfl), h4, trivial⟩
end Go.Proofs.Ytejdccgebljmgaa
