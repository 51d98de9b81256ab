/- The plain data, and what is right of it (no program in sight). -/
import Derived.Test.YthnoaapghcadgaaDoorMark
namespace Go.Proofs.YthnoaapghcadgaaDoor
open Go.JW Go.RowKit

structure PodD where
  name : ByteArray
  shard : Int
  cpu : Int
  mem : Int
  picks : List ByteArray
  bears : List ByteArray
  alone : Bool
structure NodeD where
  name : ByteArray
  cpu : Int
  mem : Int
  marks : List ByteArray
  taints : List ByteArray
  closed : Bool
structure PlaceD where
  pod : ByteArray
  node : ByteArray
  cpu : Int
  mem : Int
  alone : Bool
structure GangD where
  id : Int
  pods : List PodD
def podC (p : PodD) (vp vb : Value) : List Value := [.string p.name, .int .i64 p.shard, .int .i64 p.cpu, .int .i64 p.mem, vp, vb, .bool p.alone]
def nodeC (p : NodeD) (vm vt : Value) : List Value := [.string p.name, .int .i64 p.cpu, .int .i64 p.mem, vm, vt, .bool p.closed]
instance : Rep PodD where
  sz := 7
  rep σ cs p := ∃ vp vb, cs = podC p vp vb ∧ p.name.size ≤ 140737488355328 ∧ I64 p.shard ∧ I64 p.cpu ∧ I64 p.mem ∧ RepL σ vp p.picks ∧ RepL σ vb p.bears
  len h := by obtain ⟨_, _, rfl, _⟩ := h; rfl
  one h := by obtain ⟨_, _, rfl, _, _, _, _, h1, h2⟩ := h; obtain ⟨_, _, rfl⟩ := h1.form; obtain ⟨_, _, rfl⟩ := h2.form; rfl
  mono h hs := let ⟨a, b, e, h1, h2, h3, h4, h5, h6⟩ := h; ⟨a, b, e, h1, h2, h3, h4, h5.mono hs, h6.mono hs⟩
instance : Rep NodeD where
  sz := 6
  rep σ cs p := ∃ vp vb, cs = nodeC p vp vb ∧ p.name.size ≤ 140737488355328 ∧ I64 p.cpu ∧ I64 p.mem ∧ RepL σ vp p.marks ∧ RepL σ vb p.taints
  len h := by obtain ⟨_, _, rfl, _⟩ := h; rfl
  one h := by obtain ⟨_, _, rfl, _, _, _, h1, h2⟩ := h; obtain ⟨_, _, rfl⟩ := h1.form; obtain ⟨_, _, rfl⟩ := h2.form; rfl
  mono h hs := let ⟨a, b, e, h1, h3, h4, h5, h6⟩ := h; ⟨a, b, e, h1, h3, h4, h5.mono hs, h6.mono hs⟩
def placeC (p : PlaceD) : List Value := [.string p.pod, .string p.node, .int .i64 p.cpu, .int .i64 p.mem, .bool p.alone]
instance : Rep PlaceD where
  sz := 5
  rep _ cs p := cs = placeC p ∧ p.pod.size ≤ 140737488355328 ∧ p.node.size ≤ 140737488355328 ∧ I64 p.cpu ∧ I64 p.mem
  len h := by obtain ⟨rfl, _⟩ := h; rfl
  one h := by obtain ⟨rfl, _⟩ := h; rfl
  mono h _ := h
instance : Rep GangD where
  sz := 2
  rep σ cs g := ∃ v, cs = [.int .i64 g.id, v] ∧ I64 g.id ∧ RepL σ v g.pods
  len h := by obtain ⟨_, rfl, _⟩ := h; rfl
  one h := by obtain ⟨_, rfl, _, h1⟩ := h; obtain ⟨_, _, rfl⟩ := h1.form; rfl
  mono h hs := let ⟨a, e, h1, h2⟩ := h; ⟨a, e, h1, h2.mono hs⟩

/-! what is right -/
def setAtI (l : List ByteArray) (i : Nat) : Bool := isName (l.getD i ⟨#[]⟩) && (decide (i = 0) || sLt (l.getD (i - 1) ⟨#[]⟩) (l.getD i ⟨#[]⟩))
def setTo (l : List ByteArray) (k : Nat) : Bool := (List.range k).all (setAtI l)
def isSet (l : List ByteArray) : Bool := setTo l l.length && decide (l.length ≤ 4)
theorem setTo_succ (l : List ByteArray) (k : Nat) : setTo l (k + 1) = (setTo l k && setAtI l k) := by simp [setTo, List.range_succ]
theorem setTo_not {l : List ByteArray} {k n : Nat} (hk : k < n) (h : setAtI l k = false) : setTo l n = false := by
  rw [Bool.eq_false_iff]
  intro hs
  simp only [setTo, List.all_eq_true, List.mem_range] at hs
  rw [hs k hk] at h; cases h
def size1 (n : Int) : Bool := decide (0 ≤ n) && decide (n ≤ 1099511627776)
def sizeOk (c m : Int) : Bool := size1 c && size1 m
/-- P301. -/
def podErr (p : PodD) (s : Int) : Int :=
  if isName p.name = false then 1 else if (decide (p.shard < 1) || decide (s < p.shard) || !sizeOk p.cpu p.mem) = true then 2 else if (!isSet p.picks || !isSet p.bears) = true then 1 else 0
def nodeErr (p : NodeD) : Int :=
  if isName p.name = false then 1 else if sizeOk p.cpu p.mem = false then 2 else if (!isSet p.marks || !isSet p.taints) = true then 1 else 0
end Go.Proofs.YthnoaapghcadgaaDoor
