/-
  No cell of these rows narrows 'for every input' (looked for: loops, veiled, ifaces, maps, wideKeys, modest, calm, conditions, laid).
  DERIVED. THE GIVEN ROWS OF THIS SEAT. 9 by the template 'for every input the law returns true; each argument reads behind the call as it read before'; 0 by the template 'total and deterministic' (their statements: YtejdccgebljmgaaTotals.lean).
  GIVEN WITH THE SEED: the statements are not yours to turn. If you find one false, say at which input.
  Laid BY PROGRAM, IN A SANDBOX (cutbox-rows.mjs): the forced cells as the released guide's own fill.sh prints them over the translation 1ecf30bccc3a59e0… (all of the seat's roots in one cut). By AI agents, Wed Nov 11 2026. No macro, syntax, notation, axiom, sorry.
-/
import Derived.Test.YtejdccgebljmgaaChecked
import GoSem.Claim
import GoSem.ClaimJoined
import GoSem.ClaimMapViews
import Derived.JoinedTies
import Derived.KernelRfl
namespace Go.Proofs.Ytejdccgebljmgaa
/- THE CELL 'sum', in the pinned program and in every row, IS THE sha256 OF THE DUMP (.gsa) THAT YtejdccgebljmgaaProg.lean LOADS. Nothing in Lean hashes anything: it is a label: what it is worth is what the hold of that sum in a sandbox is worth. -/
noncomputable def Try.pinned : Pinned := { name := "ytejdccgebljmgaa", sum := "1ecf30bccc3a59e0489a7eff64fbdef21c600b13c386ef400744aa003da125a6", checked := Try.checked }
namespace Rows
def none {H : Type} : Left H := { results := [], args := [] }

/-- 'joinerylaw3.SpecPods': WHATEVER THE INPUT: true; the input reads as it did. -/
def specPodsSpec : ChangeSpec := { name := "specPods", fn := fun _ => fun
  | [d1, d2, d3, d4, d5, d6] => { results := [.lit (.bool true)], args := [d1, d2, d3, d4, d5, d6] }
  | _ => none }
def specPodsRow : OpenClaim := { program := "ytejdccgebljmgaa", sum := "1ecf30bccc3a59e0489a7eff64fbdef21c600b13c386ef400744aa003da125a6", func := "joinery/joinerylaw3.SpecPods", spec := "specPods", recurses := true, apart := false }
def SpecPodsSaid : Prop := specPodsRow.holds Try.pinned (OpenSpec.ofChange specPodsSpec)

/-- ITS FALSE NEIGHBOUR: 'it returns false'. Refute it at one input. -/
def specPodsWrong : ChangeSpec := { name := "specPods", fn := fun _ => fun
  | [d1, d2, d3, d4, d5, d6] => { results := [.lit (.bool false)], args := [d1, d2, d3, d4, d5, d6] }
  | _ => none }
def SpecPodsWrongFalsely : Prop := specPodsRow.holds Try.pinned (OpenSpec.ofChange specPodsWrong)

/-- 'joinerylaw3.SpecNodes': WHATEVER THE INPUT: true; the input reads as it did. -/
def specNodesSpec : ChangeSpec := { name := "specNodes", fn := fun _ => fun
  | [d1, d2, d3, d4, d5, d6] => { results := [.lit (.bool true)], args := [d1, d2, d3, d4, d5, d6] }
  | _ => none }
def specNodesRow : OpenClaim := { program := "ytejdccgebljmgaa", sum := "1ecf30bccc3a59e0489a7eff64fbdef21c600b13c386ef400744aa003da125a6", func := "joinery/joinerylaw3.SpecNodes", spec := "specNodes", recurses := true, apart := false }
def SpecNodesSaid : Prop := specNodesRow.holds Try.pinned (OpenSpec.ofChange specNodesSpec)

/-- ITS FALSE NEIGHBOUR: 'it returns false'. Refute it at one input. -/
def specNodesWrong : ChangeSpec := { name := "specNodes", fn := fun _ => fun
  | [d1, d2, d3, d4, d5, d6] => { results := [.lit (.bool false)], args := [d1, d2, d3, d4, d5, d6] }
  | _ => none }
def SpecNodesWrongFalsely : Prop := specNodesRow.holds Try.pinned (OpenSpec.ofChange specNodesWrong)

/-- 'joinerylaw3.SpecEnds': WHATEVER THE INPUT: true; the input reads as it did. -/
def specEndsSpec : ChangeSpec := { name := "specEnds", fn := fun _ => fun
  | [d1, d2] => { results := [.lit (.bool true)], args := [d1, d2] }
  | _ => none }
def specEndsRow : OpenClaim := { program := "ytejdccgebljmgaa", sum := "1ecf30bccc3a59e0489a7eff64fbdef21c600b13c386ef400744aa003da125a6", func := "joinery/joinerylaw3.SpecEnds", spec := "specEnds", recurses := true, apart := false }
def SpecEndsSaid : Prop := specEndsRow.holds Try.pinned (OpenSpec.ofChange specEndsSpec)

/-- ITS FALSE NEIGHBOUR: 'it returns false'. Refute it at one input. -/
def specEndsWrong : ChangeSpec := { name := "specEnds", fn := fun _ => fun
  | [d1, d2] => { results := [.lit (.bool false)], args := [d1, d2] }
  | _ => none }
def SpecEndsWrongFalsely : Prop := specEndsRow.holds Try.pinned (OpenSpec.ofChange specEndsWrong)

/-- 'joinerylaw3.SpecSlices': WHATEVER THE INPUT: true; the input reads as it did. -/
def specSlicesSpec : ChangeSpec := { name := "specSlices", fn := fun _ => fun
  | [d1, d2, d3] => { results := [.lit (.bool true)], args := [d1, d2, d3] }
  | _ => none }
def specSlicesRow : OpenClaim := { program := "ytejdccgebljmgaa", sum := "1ecf30bccc3a59e0489a7eff64fbdef21c600b13c386ef400744aa003da125a6", func := "joinery/joinerylaw3.SpecSlices", spec := "specSlices", recurses := true, apart := false }
def SpecSlicesSaid : Prop := specSlicesRow.holds Try.pinned (OpenSpec.ofChange specSlicesSpec)

/-- ITS FALSE NEIGHBOUR: 'it returns false'. Refute it at one input. -/
def specSlicesWrong : ChangeSpec := { name := "specSlices", fn := fun _ => fun
  | [d1, d2, d3] => { results := [.lit (.bool false)], args := [d1, d2, d3] }
  | _ => none }
def SpecSlicesWrongFalsely : Prop := specSlicesRow.holds Try.pinned (OpenSpec.ofChange specSlicesWrong)

/-- 'joinerylaw3.SpecOrder': WHATEVER THE INPUT: true; the input reads as it did. -/
def specOrderSpec : ChangeSpec := { name := "specOrder", fn := fun _ => fun
  | [d] => { results := [.lit (.bool true)], args := [d] }
  | _ => none }
def specOrderRow : OpenClaim := { program := "ytejdccgebljmgaa", sum := "1ecf30bccc3a59e0489a7eff64fbdef21c600b13c386ef400744aa003da125a6", func := "joinery/joinerylaw3.SpecOrder", spec := "specOrder", recurses := true, apart := false }
def SpecOrderSaid : Prop := specOrderRow.holds Try.pinned (OpenSpec.ofChange specOrderSpec)

/-- ITS FALSE NEIGHBOUR: 'it returns false'. Refute it at one input. -/
def specOrderWrong : ChangeSpec := { name := "specOrder", fn := fun _ => fun
  | [d] => { results := [.lit (.bool false)], args := [d] }
  | _ => none }
def SpecOrderWrongFalsely : Prop := specOrderRow.holds Try.pinned (OpenSpec.ofChange specOrderWrong)

/-- 'joinerylaw3.SpecGangs': WHATEVER THE INPUT: true; the input reads as it did. -/
def specGangsSpec : ChangeSpec := { name := "specGangs", fn := fun _ => fun
  | [d1, d2, d3, d4, d5, d6, d7] => { results := [.lit (.bool true)], args := [d1, d2, d3, d4, d5, d6, d7] }
  | _ => none }
def specGangsRow : OpenClaim := { program := "ytejdccgebljmgaa", sum := "1ecf30bccc3a59e0489a7eff64fbdef21c600b13c386ef400744aa003da125a6", func := "joinery/joinerylaw3.SpecGangs", spec := "specGangs", unfollowed := true, recurses := true, apart := false }
def SpecGangsSaid : Prop := specGangsRow.holds Try.pinned (OpenSpec.ofChange specGangsSpec)

/-- ITS FALSE NEIGHBOUR: 'it returns false'. Refute it at one input. -/
def specGangsWrong : ChangeSpec := { name := "specGangs", fn := fun _ => fun
  | [d1, d2, d3, d4, d5, d6, d7] => { results := [.lit (.bool false)], args := [d1, d2, d3, d4, d5, d6, d7] }
  | _ => none }
def SpecGangsWrongFalsely : Prop := specGangsRow.holds Try.pinned (OpenSpec.ofChange specGangsWrong)

/-- 'joinerylaw3.SpecKnown': WHATEVER THE INPUT: true; the input reads as it did. -/
def specKnownSpec : ChangeSpec := { name := "specKnown", fn := fun _ => fun
  | [d] => { results := [.lit (.bool true)], args := [d] }
  | _ => none }
def specKnownRow : OpenClaim := { program := "ytejdccgebljmgaa", sum := "1ecf30bccc3a59e0489a7eff64fbdef21c600b13c386ef400744aa003da125a6", func := "joinery/joinerylaw3.SpecKnown", spec := "specKnown", unfollowed := true, recurses := true, apart := false }
def SpecKnownSaid : Prop := specKnownRow.holds Try.pinned (OpenSpec.ofChange specKnownSpec)

/-- ITS FALSE NEIGHBOUR: 'it returns false'. Refute it at one input. -/
def specKnownWrong : ChangeSpec := { name := "specKnown", fn := fun _ => fun
  | [d] => { results := [.lit (.bool false)], args := [d] }
  | _ => none }
def SpecKnownWrongFalsely : Prop := specKnownRow.holds Try.pinned (OpenSpec.ofChange specKnownWrong)

/-- 'joinerylaw3.SpecEight': WHATEVER THE INPUT: true; the input reads as it did. -/
def specEightSpec : ChangeSpec := { name := "specEight", fn := fun _ => fun
  | [d1, d2, d3] => { results := [.lit (.bool true)], args := [d1, d2, d3] }
  | _ => none }
def specEightRow : OpenClaim := { program := "ytejdccgebljmgaa", sum := "1ecf30bccc3a59e0489a7eff64fbdef21c600b13c386ef400744aa003da125a6", func := "joinery/joinerylaw3.SpecEight", spec := "specEight", unfollowed := true, recurses := true, apart := false }
def SpecEightSaid : Prop := specEightRow.holds Try.pinned (OpenSpec.ofChange specEightSpec)

/-- ITS FALSE NEIGHBOUR: 'it returns false'. Refute it at one input. -/
def specEightWrong : ChangeSpec := { name := "specEight", fn := fun _ => fun
  | [d1, d2, d3] => { results := [.lit (.bool false)], args := [d1, d2, d3] }
  | _ => none }
def SpecEightWrongFalsely : Prop := specEightRow.holds Try.pinned (OpenSpec.ofChange specEightWrong)

/-- 'joinerylaw3.SpecOwn': WHATEVER THE INPUT: true; the input reads as it did. -/
def specOwnSpec : ChangeSpec := { name := "specOwn", fn := fun _ => fun
  | [d1, d2, d3] => { results := [.lit (.bool true)], args := [d1, d2, d3] }
  | _ => none }
def specOwnRow : OpenClaim := { program := "ytejdccgebljmgaa", sum := "1ecf30bccc3a59e0489a7eff64fbdef21c600b13c386ef400744aa003da125a6", func := "joinery/joinerylaw3.SpecOwn", spec := "specOwn", unfollowed := true, recurses := true, apart := false }
def SpecOwnSaid : Prop := specOwnRow.holds Try.pinned (OpenSpec.ofChange specOwnSpec)

/-- ITS FALSE NEIGHBOUR: 'it returns false'. Refute it at one input. -/
def specOwnWrong : ChangeSpec := { name := "specOwn", fn := fun _ => fun
  | [d1, d2, d3] => { results := [.lit (.bool false)], args := [d1, d2, d3] }
  | _ => none }
def SpecOwnWrongFalsely : Prop := specOwnRow.holds Try.pinned (OpenSpec.ofChange specOwnWrong)

/- THE SECOND FORM. 'bulk': how many values and letters a reading holds, each counted each time it is reached (what is shared counts as often as it is met; a slice's spare places count too). A statement '..UptoSaid' is the law's where the arguments, and the package variables that the reading takes, are together of bulk at most 1048576: NARROWER than '..Said'. Prove '..Said' where nothing that the law and all that it calls make is longer than what came in: it says more and counts as full. Else prove '..UptoSaid'. A law counts once. -/
mutual
def uptoBulk {H : Type} : DataW H → Nat
  | .lit (.string bytes) => bytes.length + 1
  | .lit _ => 1
  | .nil => 1
  | .ptr d => uptoBulk d + 1
  | .slice elems spare => uptoBulkAll elems + uptoBulkAll spare + 1
  | .agg parts => uptoBulkAll parts + 1
  | .iface _ d => uptoBulk d + 1
  | .map entries => uptoBulkEntries entries + 1
  | .held _ => 1
def uptoBulkAll {H : Type} : List (DataW H) → Nat
  | [] => 0
  | d :: r => uptoBulk d + uptoBulkAll r
def uptoBulkEntries {H : Type} : List (Lit × DataW H) → Nat
  | [] => 0
  | x :: r => uptoBulkEntry x + uptoBulkEntries r
def uptoBulkEntry {H : Type} : Lit × DataW H → Nat
  | (.string bytes, d) => bytes.length + uptoBulk d + 1
  | (_, d) => uptoBulk d + 1
 end
def uptoSmall : (H : Type) → List (DataW H) → Bool := fun _ ds => decide (uptoBulkAll ds ≤ 1048576)
def OpenSpec.upto (s : _root_.Go.ChangeSpec) : _root_.Go.OpenSpec := { _root_.Go.OpenSpec.ofChange s with cond := some uptoSmall }

/-- 'joinerylaw3.SpecPods', WHERE WHAT IT READS IS OF BULK AT MOST 1048576: true; the input reads as it did. -/
def specPodsUptoRow : OpenClaim := { program := "ytejdccgebljmgaa", sum := "1ecf30bccc3a59e0489a7eff64fbdef21c600b13c386ef400744aa003da125a6", func := "joinery/joinerylaw3.SpecPods", spec := "specPods", recurses := true, apart := false, narrowed := true }
def SpecPodsUptoSaid : Prop := specPodsUptoRow.holds Try.pinned (OpenSpec.upto specPodsSpec)

/-- 'joinerylaw3.SpecNodes', WHERE WHAT IT READS IS OF BULK AT MOST 1048576: true; the input reads as it did. -/
def specNodesUptoRow : OpenClaim := { program := "ytejdccgebljmgaa", sum := "1ecf30bccc3a59e0489a7eff64fbdef21c600b13c386ef400744aa003da125a6", func := "joinery/joinerylaw3.SpecNodes", spec := "specNodes", recurses := true, apart := false, narrowed := true }
def SpecNodesUptoSaid : Prop := specNodesUptoRow.holds Try.pinned (OpenSpec.upto specNodesSpec)

/-- 'joinerylaw3.SpecEnds', WHERE WHAT IT READS IS OF BULK AT MOST 1048576: true; the input reads as it did. -/
def specEndsUptoRow : OpenClaim := { program := "ytejdccgebljmgaa", sum := "1ecf30bccc3a59e0489a7eff64fbdef21c600b13c386ef400744aa003da125a6", func := "joinery/joinerylaw3.SpecEnds", spec := "specEnds", recurses := true, apart := false, narrowed := true }
def SpecEndsUptoSaid : Prop := specEndsUptoRow.holds Try.pinned (OpenSpec.upto specEndsSpec)

/-- 'joinerylaw3.SpecSlices', WHERE WHAT IT READS IS OF BULK AT MOST 1048576: true; the input reads as it did. -/
def specSlicesUptoRow : OpenClaim := { program := "ytejdccgebljmgaa", sum := "1ecf30bccc3a59e0489a7eff64fbdef21c600b13c386ef400744aa003da125a6", func := "joinery/joinerylaw3.SpecSlices", spec := "specSlices", recurses := true, apart := false, narrowed := true }
def SpecSlicesUptoSaid : Prop := specSlicesUptoRow.holds Try.pinned (OpenSpec.upto specSlicesSpec)

/-- 'joinerylaw3.SpecOrder', WHERE WHAT IT READS IS OF BULK AT MOST 1048576: true; the input reads as it did. -/
def specOrderUptoRow : OpenClaim := { program := "ytejdccgebljmgaa", sum := "1ecf30bccc3a59e0489a7eff64fbdef21c600b13c386ef400744aa003da125a6", func := "joinery/joinerylaw3.SpecOrder", spec := "specOrder", recurses := true, apart := false, narrowed := true }
def SpecOrderUptoSaid : Prop := specOrderUptoRow.holds Try.pinned (OpenSpec.upto specOrderSpec)

/-- 'joinerylaw3.SpecGangs', WHERE WHAT IT READS IS OF BULK AT MOST 1048576: true; the input reads as it did. -/
def specGangsUptoRow : OpenClaim := { program := "ytejdccgebljmgaa", sum := "1ecf30bccc3a59e0489a7eff64fbdef21c600b13c386ef400744aa003da125a6", func := "joinery/joinerylaw3.SpecGangs", spec := "specGangs", unfollowed := true, recurses := true, apart := false, narrowed := true }
def SpecGangsUptoSaid : Prop := specGangsUptoRow.holds Try.pinned (OpenSpec.upto specGangsSpec)

/-- 'joinerylaw3.SpecKnown', WHERE WHAT IT READS IS OF BULK AT MOST 1048576: true; the input reads as it did. -/
def specKnownUptoRow : OpenClaim := { program := "ytejdccgebljmgaa", sum := "1ecf30bccc3a59e0489a7eff64fbdef21c600b13c386ef400744aa003da125a6", func := "joinery/joinerylaw3.SpecKnown", spec := "specKnown", unfollowed := true, recurses := true, apart := false, narrowed := true }
def SpecKnownUptoSaid : Prop := specKnownUptoRow.holds Try.pinned (OpenSpec.upto specKnownSpec)

/-- 'joinerylaw3.SpecEight', WHERE WHAT IT READS IS OF BULK AT MOST 1048576: true; the input reads as it did. -/
def specEightUptoRow : OpenClaim := { program := "ytejdccgebljmgaa", sum := "1ecf30bccc3a59e0489a7eff64fbdef21c600b13c386ef400744aa003da125a6", func := "joinery/joinerylaw3.SpecEight", spec := "specEight", unfollowed := true, recurses := true, apart := false, narrowed := true }
def SpecEightUptoSaid : Prop := specEightUptoRow.holds Try.pinned (OpenSpec.upto specEightSpec)

/-- 'joinerylaw3.SpecOwn', WHERE WHAT IT READS IS OF BULK AT MOST 1048576: true; the input reads as it did. -/
def specOwnUptoRow : OpenClaim := { program := "ytejdccgebljmgaa", sum := "1ecf30bccc3a59e0489a7eff64fbdef21c600b13c386ef400744aa003da125a6", func := "joinery/joinerylaw3.SpecOwn", spec := "specOwn", unfollowed := true, recurses := true, apart := false, narrowed := true }
def SpecOwnUptoSaid : Prop := specOwnUptoRow.holds Try.pinned (OpenSpec.upto specOwnSpec)

end Rows
end Go.Proofs.Ytejdccgebljmgaa
