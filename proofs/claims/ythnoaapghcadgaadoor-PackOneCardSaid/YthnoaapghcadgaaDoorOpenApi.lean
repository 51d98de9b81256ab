/- Pods, nodes, gangs that come as arguments. -/
import Derived.Test.YthnoaapghcadgaaDoorOpen
import Derived.Test.YthnoaapghcadgaaDoorApi
import Derived.Test.YthnoaapghcadgaaDoorTypes
namespace Go.Proofs.YthnoaapghcadgaaDoor
open Go.JW Go.RowKit

instance : OpenT Tryd.prog 31 (List ByteArray) := OpenT.slice
instance : OpenT Tryd.prog 43 (List Int) := OpenT.slice
structure VecD where
  cpu : Int
  mem : Int
instance : Rep VecD where
  sz := 2
  rep _ cs p := cs = [.int .i64 p.cpu, .int .i64 p.mem] ∧ I64 p.cpu ∧ I64 p.mem
  len h := by obtain ⟨rfl, _⟩ := h; rfl
  one h := by obtain ⟨rfl, _⟩ := h; rfl
  mono h _ := h
theorem len2 {l : List Value} (h : l.length = 2) : ∃ a b, l = [a, b] := by
  match l, h with
  | [a, b], _ => exact ⟨a, b, rfl⟩
instance : OpenT Tryd.prog 30 VecD where
  open_ h hs := by
    obtain ⟨hl, hf⟩ := OpenT.fields Tryd.underlying30 h hs
    rw [show Tryd.prog.cellsOf 30 = 2 by kernel_rfl] at hl
    obtain ⟨c0, c1, rfl⟩ := len2 hl
    obtain ⟨a0, h0, i0⟩ := hf 0 3 0 _ Int rfl
    obtain ⟨a1, h1, i1⟩ := hf 1 3 1 _ Int rfl
    simp at h0 h1
    subst h0; subst h1
    exact ⟨⟨a0, a1⟩, rfl, i0, i1⟩
theorem len7 {l : List Value} (h : l.length = 7) : ∃ a b c d e f g, l = [a, b, c, d, e, f, g] := by
  match l, h with
  | [a, b, c, d, e, f, g], _ => exact ⟨a, b, c, d, e, f, g, rfl⟩
theorem len6 {l : List Value} (h : l.length = 6) : ∃ a b c d e f, l = [a, b, c, d, e, f] := by
  match l, h with
  | [a, b, c, d, e, f], _ => exact ⟨a, b, c, d, e, f, rfl⟩
instance : OpenT Tryd.prog 36 PodD where
  open_ h hs := by
    obtain ⟨hl, hf⟩ := OpenT.fields Tryd.underlying36 h hs
    rw [show Tryd.prog.cellsOf 36 = 7 by kernel_rfl] at hl
    obtain ⟨c0, c1, c2, c3, c4, c5, c6, rfl⟩ := len7 hl
    obtain ⟨a0, h0, i0⟩ := hf 0 9 0 _ ByteArray rfl
    obtain ⟨a1, h1, i1⟩ := hf 1 3 1 _ Int rfl
    obtain ⟨a2, h2, i2⟩ := hf 2 30 2 _ VecD rfl
    obtain ⟨a3, v3, h3, i3⟩ := hf 3 31 4 _ (List ByteArray) rfl
    obtain ⟨a4, v4, h4, i4⟩ := hf 4 31 5 _ (List ByteArray) rfl
    obtain ⟨a5, h5⟩ := hf 5 4 6 _ Bool rfl
    have h5' : _ = _ := h5
    simp at h0 h1 h2 h3 h4 h5'
    obtain ⟨h2, h2'⟩ := h2
    subst h0; subst h1; subst h2; subst h2'; subst h3; subst h4; subst h5'
    exact ⟨⟨a0, a1, a2.cpu, a2.mem, a3, a4, a5⟩, _, _, rfl, i0, i1, i2.1, i2.2, i3, i4⟩
instance : OpenT Tryd.prog 33 NodeD where
  open_ h hs := by
    obtain ⟨hl, hf⟩ := OpenT.fields Tryd.underlying33 h hs
    rw [show Tryd.prog.cellsOf 33 = 6 by kernel_rfl] at hl
    obtain ⟨c0, c2, c3, c4, c5, c6, rfl⟩ := len6 hl
    obtain ⟨a0, h0, i0⟩ := hf 0 9 0 _ ByteArray rfl
    obtain ⟨a2, h2, i2⟩ := hf 1 30 1 _ VecD rfl
    obtain ⟨a3, v3, h3, i3⟩ := hf 2 31 3 _ (List ByteArray) rfl
    obtain ⟨a4, v4, h4, i4⟩ := hf 3 31 4 _ (List ByteArray) rfl
    obtain ⟨a5, h5⟩ := hf 4 4 5 _ Bool rfl
    have h5' : _ = _ := h5
    simp at h0 h2 h3 h4 h5'
    obtain ⟨h2, h2'⟩ := h2
    subst h0; subst h2; subst h2'; subst h3; subst h4; subst h5'
    exact ⟨⟨a0, a2.cpu, a2.mem, a3, a4, a5⟩, _, _, rfl, i0, i2.1, i2.2, i3, i4⟩
instance : OpenT Tryd.prog 34 (List PodD) := OpenT.slice
end Go.Proofs.YthnoaapghcadgaaDoor
