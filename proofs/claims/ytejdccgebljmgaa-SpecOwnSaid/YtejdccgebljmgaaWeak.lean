/- Contracts: what is handed over, as what is not written any more. -/
import Derived.Test.YtejdccgebljmgaaSliceS
import Derived.Test.YtejdccgebljmgaaGangs
import Derived.Test.YtejdccgebljmgaaDrawG
namespace Go.JW

theorem rowD_since {w w' : World} {τ : PH} {N e : Nat} {v : Value} {α : Type} [Rep α] {l : List α} {F : Nat → Prop} (h : (rowD N e v l).h ⟨τ, hp w'⟩ F) (hF : ∀ b, F b → w.heap.size ≤ b) (ht : PH.le τ (since w w')) (hl : l.length ≤ 140737488355328) : RepL (since w w') v l := by
  obtain ⟨cs, hc, h1, _, a, cap, rfl, h2, _, h4⟩ := h
  refine ⟨hl, a, cap, rfl, h2, fun hn => ?_⟩
  rcases h4 with ⟨h8, _⟩ | ⟨b, c0, rfl, g1, g2, g3, g4⟩
  · exact absurd (List.eq_nil_of_length_eq_zero h8) hn
  · refine ⟨b, 0, rfl, (hc.mono (PH.le_trans (fromN_le _ _) ht)).rowAt fun j hj => ?_⟩
    rw [hc.len] at hj
    have g2' : w'.heap[b]? = _ := g2
    have : (since w w').cell b (0 + j) = c0[j]? := by simp only [PH.cell, since, if_pos (hF b g1), g2', Nat.zero_add]; simp
    rw [this, ← g4, List.getElem?_take, if_pos hj]
theorem Post.since_le {τ : PH} {w w' : World} {Ko : List HP} (h : Post τ Ko w w') : PH.le τ (since w w') := fun b o hb => by
  have h1 := h.imm b o hb
  have : ¬ b < w.heap.size := fun hlt => by rw [h.new b hlt] at hb; cases hb
  simp only [since]; rw [if_pos (by omega)]; exact h1
theorem Post.row {τ : PH} {w w' : World} {N e : Nat} {v : Value} {α : Type} [Rep α] {l : List α} {Ko : List HP} (h : Post τ (rowD N e v l :: Ko) w w') (hl : l.length ≤ 140737488355328) : RepL (since w w') v l := by
  obtain ⟨F, h1, h2, _⟩ := h.sep
  exact rowD_since h1 (fun b hb => (h2 b hb).1) h.since_le hl
end Go.JW
namespace Go.Proofs.Ytejdccgebljmgaa
open Go.JW Go.RowKit

theorem lgang_w (id s : Int) (ns : List Int) (vn : Value) (hid : I64 id) (hs : 0 < s ∧ s ≤ 1000) (w : World) (hn : RepL (hp w) vn ns) : Calls Try.prog 25 #[.int .i64 id, vn, .int .i64 s] w fun e w' =>
    ∃ v, e = .returned v ∧ Below w.heap.size w w' ∧ RepA (since w w') v (gangOf id ns s) := by
  refine (lgang_c id s ns vn hid hs 0 w hn (Nat.zero_le _)).mono fun e w' ⟨v, τ, h1, h2, _⟩ => ⟨_, h1, h2.below, _, rfl, v, rfl, ?_, h2.row (by have := gangOf_len id ns s; omega)⟩
  obtain ⟨i1, i2⟩ := wmod id 999999 (by omega)
  show I64 (1 + id % 999999); omega
theorem sliceO_since {w w' : World} {τ : PH} {N : Nat} {v : Value} {L : List OwnP} {Ko : List HP} (h : Post τ (rowH 26 7 v L.length (cellsO L) :: groupHP (rowsO N L) :: Ko) w w') (hok : ∀ p ∈ podsO L, OkP p) (hl : L.length ≤ 1000) (hbb : ∀ p ∈ podsO L, p.picks.length ≤ 1000 ∧ p.bears.length ≤ 1000) :
    RepL (since w w') v (podsO L) := by
  obtain ⟨F1, h1, h2, F2, h3, h4, _⟩ := h.sep
  have hrows : SepIn ⟨τ, hp w'⟩ (rowsO N L) F2 := h3
  have hcells : ∀ (L' : List OwnP) (F : Nat → Prop), (∀ b, F b → w.heap.size ≤ b) → SepIn ⟨τ, hp w'⟩ (rowsO N L') F → (∀ p ∈ podsO L', OkP p) → (∀ p ∈ podsO L', p.picks.length ≤ 1000 ∧ p.bears.length ≤ 1000) → CellsL (since w w') (cellsO L') (podsO L') := by
    intro L'
    induction L' with
    | nil => intro F _ _ _ _; rfl
    | cons x L' ih =>
      intro F hF hS hO hB
      obtain ⟨Fa, a1, a2, Fb, b1, b2, hS'⟩ := hS
      have hx := hO x.1 (by simp [podsO])
      have hxb := hB x.1 (by simp [podsO])
      refine ⟨podC x.1 x.2.1 x.2.2, cellsO L', by simp [cellsO], ⟨_, _, rfl, hx.1, hx.2.1, hx.2.2.1, hx.2.2.2, ?_, ?_⟩, ih _ (fun b hb => hF b hb.1.1) hS' (fun p hp => hO p (by simp [podsO] at hp ⊢; exact .inr hp)) (fun p hp => hB p (by simp [podsO] at hp ⊢; exact .inr hp))⟩
      · exact rowD_since a1 (fun b hb => hF b (a2 b hb)) h.since_le (show x.1.picks.length ≤ _ by omega)
      · exact rowD_since b1 (fun b hb => hF b (b2 b hb).1) h.since_le (show x.1.bears.length ≤ _ by omega)
  have hC := hcells L F2 (fun b hb => (h4 b hb).1.1) hrows hok hbb
  obtain ⟨k1, _, a, cap, rfl, k2, _, k4⟩ := h1
  have hlen : (podsO L).length = L.length := by simp [podsO]
  refine ⟨by omega, a, cap, by rw [hlen], by omega, fun hn => ?_⟩
  rcases k4 with ⟨h8, _⟩ | ⟨b, c0, rfl, g1, g2, g3, g4⟩
  · exact absurd (List.eq_nil_of_length_eq_zero (by omega)) hn
  · refine ⟨b, 0, rfl, hC.rowAt fun j hj => ?_⟩
    have hj' : j < L.length * 7 := by rw [hC.len, hlen] at hj; exact hj
    have g2' : w'.heap[b]? = _ := g2
    have : (since w w').cell b (0 + j) = c0[j]? := by simp only [PH.cell, since, if_pos (h2 b g1).1, g2', Nat.zero_add]; simp
    rw [this, ← g4, List.getElem?_take, if_pos hj']
theorem slice_w (cs : List Value) (g : GangD) (s : Int) (w : World) (hr : Rep.rep (hp w) cs g) (hb : g.pods.length ≤ 1000) (hbb : ∀ p ∈ g.pods, p.picks.length ≤ 1000 ∧ p.bears.length ≤ 1000) :
    Calls Try.prog 29 #[.agg cs.toArray, .int .i64 s] w fun e w' => ∃ v, e = .returned v ∧ Below w.heap.size w w' ∧ RepL (since w w') v (sliceOf g.pods s) := by
  refine (slice_c cs g s 0 w hr hb hbb).mono fun e w' ⟨x, τ, h1, h2, h3, h4⟩ => ⟨x.1, h1, h2.below, ?_⟩
  rw [← h3]
  have hsub : ∀ p ∈ podsO x.2, p ∈ g.pods := fun p hp => by rw [h3] at hp; exact (List.mem_filter.1 hp).1
  refine sliceO_since h2 h4 ?_ (fun p hp => hbb p (hsub p hp))
  have hlen : (podsO x.2).length = x.2.length := by simp [podsO]
  rw [← hlen, h3]
  exact Nat.le_trans (List.length_filter_le _ _) hb
end Go.Proofs.Ytejdccgebljmgaa
