/- Pods, nodes, gangs that come as arguments. -/
import Derived.Test.YthnoaapghcadgaaGreatDoorOpen
import Derived.Test.YthnoaapghcadgaaGreatDoorApi
import Derived.Test.YthnoaapghcadgaaGreatDoorTypes
namespace Go.Proofs.YthnoaapghcadgaaGreatDoor
open Go.JW Go.RowKit

instance : OpenT Tryz.prog 45 (List ByteArray) := OpenT.slice
instance : OpenT Tryz.prog 22 (List Int) := OpenT.slice
structure VecD where
  cpu : Int
  mem : Int
instance : Rep VecD where
  sz := 2
  rep _ cs p := cs = [.int .i64 p.cpu, .int .i64 p.mem] ∧ I64 p.cpu ∧ I64 p.mem
  len h := by obtain ⟨rfl, _⟩ := h; rfl
  one h := by obtain ⟨rfl, _⟩ := h; rfl
  mono h _ := h
theorem len2 {l : List Value} (h : l.length = 2) : ∃ a b, l = [a, b] := by
  match l, h with
  | [a, b], _ => exact ⟨a, b, rfl⟩
instance : OpenT Tryz.prog 44 VecD where
  open_ h hs := by
    obtain ⟨hl, hf⟩ := OpenT.fields Tryz.underlying44 h hs
    rw [show Tryz.prog.cellsOf 44 = 2 by kernel_rfl] at hl
    obtain ⟨c0, c1, rfl⟩ := len2 hl
    obtain ⟨a0, h0, i0⟩ := hf 0 3 0 _ Int rfl
    obtain ⟨a1, h1, i1⟩ := hf 1 3 1 _ Int rfl
    simp at h0 h1
    subst h0; subst h1
    exact ⟨⟨a0, a1⟩, rfl, i0, i1⟩
theorem len7 {l : List Value} (h : l.length = 7) : ∃ a b c d e f g, l = [a, b, c, d, e, f, g] := by
  match l, h with
  | [a, b, c, d, e, f, g], _ => exact ⟨a, b, c, d, e, f, g, rfl⟩
theorem len6 {l : List Value} (h : l.length = 6) : ∃ a b c d e f, l = [a, b, c, d, e, f] := by
  match l, h with
  | [a, b, c, d, e, f], _ => exact ⟨a, b, c, d, e, f, rfl⟩
instance : OpenT Tryz.prog 52 PodD where
  open_ h hs := by
    obtain ⟨hl, hf⟩ := OpenT.fields Tryz.underlying52 h hs
    rw [show Tryz.prog.cellsOf 52 = 7 by kernel_rfl] at hl
    obtain ⟨c0, c1, c2, c3, c4, c5, c6, rfl⟩ := len7 hl
    obtain ⟨a0, h0, i0⟩ := hf 0 9 0 _ ByteArray rfl
    obtain ⟨a1, h1, i1⟩ := hf 1 3 1 _ Int rfl
    obtain ⟨a2, h2, i2⟩ := hf 2 44 2 _ VecD rfl
    obtain ⟨a3, v3, h3, i3⟩ := hf 3 45 4 _ (List ByteArray) rfl
    obtain ⟨a4, v4, h4, i4⟩ := hf 4 45 5 _ (List ByteArray) rfl
    obtain ⟨a5, h5⟩ := hf 5 4 6 _ Bool rfl
    have h5' : _ = _ := h5
    simp at h0 h1 h2 h3 h4 h5'
    obtain ⟨h2, h2'⟩ := h2
    subst h0; subst h1; subst h2; subst h2'; subst h3; subst h4; subst h5'
    exact ⟨⟨a0, a1, a2.cpu, a2.mem, a3, a4, a5⟩, _, _, rfl, i0, i1, i2.1, i2.2, i3, i4⟩
instance : OpenT Tryz.prog 47 NodeD where
  open_ h hs := by
    obtain ⟨hl, hf⟩ := OpenT.fields Tryz.underlying47 h hs
    rw [show Tryz.prog.cellsOf 47 = 6 by kernel_rfl] at hl
    obtain ⟨c0, c2, c3, c4, c5, c6, rfl⟩ := len6 hl
    obtain ⟨a0, h0, i0⟩ := hf 0 9 0 _ ByteArray rfl
    obtain ⟨a2, h2, i2⟩ := hf 1 44 1 _ VecD rfl
    obtain ⟨a3, v3, h3, i3⟩ := hf 2 45 3 _ (List ByteArray) rfl
    obtain ⟨a4, v4, h4, i4⟩ := hf 3 45 4 _ (List ByteArray) rfl
    obtain ⟨a5, h5⟩ := hf 4 4 5 _ Bool rfl
    have h5' : _ = _ := h5
    simp at h0 h2 h3 h4 h5'
    obtain ⟨h2, h2'⟩ := h2
    subst h0; subst h2; subst h2'; subst h3; subst h4; subst h5'
    exact ⟨⟨a0, a2.cpu, a2.mem, a3, a4, a5⟩, _, _, rfl, i0, i2.1, i2.2, i3, i4⟩
instance : OpenT Tryz.prog 33 (List PodD) := OpenT.slice
end Go.Proofs.YthnoaapghcadgaaGreatDoor
