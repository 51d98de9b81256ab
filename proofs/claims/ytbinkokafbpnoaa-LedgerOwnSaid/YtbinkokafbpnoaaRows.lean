/-
  No cell of these rows narrows 'for every input' (looked for: loops, veiled, ifaces, maps, wideKeys, modest, calm, conditions, laid).
  DERIVED. THE GIVEN ROWS OF THIS SEAT. 10 by the template 'for every input the law returns true; each argument reads behind the call as it read before'; 0 by the template 'total and deterministic' (their statements: YtbinkokafbpnoaaTotals.lean).
  GIVEN WITH THE SEED: the statements are not yours to turn. If you find one false, say at which input.
  Laid BY PROGRAM, IN A SANDBOX (cutbox-rows.mjs): the forced cells as the released guide's own fill.sh prints them over the translation 3ee24a27a8802fb0… (all of the seat's roots in one cut). By AI agents, Wed Nov 11 2026. No macro, syntax, notation, axiom, sorry.
-/
import Derived.Test.YtbinkokafbpnoaaChecked
import GoSem.Claim
import GoSem.ClaimJoined
import GoSem.ClaimMapViews
import Derived.JoinedTies
import Derived.KernelRfl
namespace Go.Proofs.Ytbinkokafbpnoaa
/- THE CELL 'sum', in the pinned program and in every row, IS THE sha256 OF THE DUMP (.gsa) THAT YtbinkokafbpnoaaProg.lean LOADS. Nothing in Lean hashes anything: it is a label: what it is worth is what the hold of that sum in a sandbox is worth. -/
noncomputable def Try.pinned : Pinned := { name := "ytbinkokafbpnoaa", sum := "3ee24a27a8802fb05895fdd714a85a36274208ff55cd47afe42bb33d32fc10d9", checked := Try.checked }
namespace Rows
def none {H : Type} : Left H := { results := [], args := [] }

/-- 'joinerylaw7.LedgerRoom': WHATEVER THE INPUT: true; the input reads as it did. -/
def ledgerRoomSpec : ChangeSpec := { name := "ledgerRoom", fn := fun _ => fun
  | [d1, d2] => { results := [.lit (.bool true)], args := [d1, d2] }
  | _ => none }
def ledgerRoomRow : OpenClaim := { program := "ytbinkokafbpnoaa", sum := "3ee24a27a8802fb05895fdd714a85a36274208ff55cd47afe42bb33d32fc10d9", func := "joinery/joinerylaw7.LedgerRoom", spec := "ledgerRoom", unfollowed := true, recurses := true, apart := false }
def LedgerRoomSaid : Prop := ledgerRoomRow.holds Try.pinned (OpenSpec.ofChange ledgerRoomSpec)

/-- ITS FALSE NEIGHBOUR: 'it returns false'. Refute it at one input. -/
def ledgerRoomWrong : ChangeSpec := { name := "ledgerRoom", fn := fun _ => fun
  | [d1, d2] => { results := [.lit (.bool false)], args := [d1, d2] }
  | _ => none }
def LedgerRoomWrongFalsely : Prop := ledgerRoomRow.holds Try.pinned (OpenSpec.ofChange ledgerRoomWrong)

/-- 'joinerylaw7.LedgerGives': WHATEVER THE INPUT: true; the input reads as it did. -/
def ledgerGivesSpec : ChangeSpec := { name := "ledgerGives", fn := fun _ => fun
  | [d1, d2, d3] => { results := [.lit (.bool true)], args := [d1, d2, d3] }
  | _ => none }
def ledgerGivesRow : OpenClaim := { program := "ytbinkokafbpnoaa", sum := "3ee24a27a8802fb05895fdd714a85a36274208ff55cd47afe42bb33d32fc10d9", func := "joinery/joinerylaw7.LedgerGives", spec := "ledgerGives", unfollowed := true, recurses := true, apart := false }
def LedgerGivesSaid : Prop := ledgerGivesRow.holds Try.pinned (OpenSpec.ofChange ledgerGivesSpec)

/-- ITS FALSE NEIGHBOUR: 'it returns false'. Refute it at one input. -/
def ledgerGivesWrong : ChangeSpec := { name := "ledgerGives", fn := fun _ => fun
  | [d1, d2, d3] => { results := [.lit (.bool false)], args := [d1, d2, d3] }
  | _ => none }
def LedgerGivesWrongFalsely : Prop := ledgerGivesRow.holds Try.pinned (OpenSpec.ofChange ledgerGivesWrong)

/-- 'joinerylaw7.LedgerOwn': WHATEVER THE INPUT: true; the input reads as it did. -/
def ledgerOwnSpec : ChangeSpec := { name := "ledgerOwn", fn := fun _ => fun
  | [d1, d2, d3] => { results := [.lit (.bool true)], args := [d1, d2, d3] }
  | _ => none }
def ledgerOwnRow : OpenClaim := { program := "ytbinkokafbpnoaa", sum := "3ee24a27a8802fb05895fdd714a85a36274208ff55cd47afe42bb33d32fc10d9", func := "joinery/joinerylaw7.LedgerOwn", spec := "ledgerOwn", unfollowed := true, recurses := true, apart := false }
def LedgerOwnSaid : Prop := ledgerOwnRow.holds Try.pinned (OpenSpec.ofChange ledgerOwnSpec)

/-- ITS FALSE NEIGHBOUR: 'it returns false'. Refute it at one input. -/
def ledgerOwnWrong : ChangeSpec := { name := "ledgerOwn", fn := fun _ => fun
  | [d1, d2, d3] => { results := [.lit (.bool false)], args := [d1, d2, d3] }
  | _ => none }
def LedgerOwnWrongFalsely : Prop := ledgerOwnRow.holds Try.pinned (OpenSpec.ofChange ledgerOwnWrong)

/-- 'joinerylaw7.LedgerEight': WHATEVER THE INPUT: true; the input reads as it did. -/
def ledgerEightSpec : ChangeSpec := { name := "ledgerEight", fn := fun _ => fun
  | [d] => { results := [.lit (.bool true)], args := [d] }
  | _ => none }
def ledgerEightRow : OpenClaim := { program := "ytbinkokafbpnoaa", sum := "3ee24a27a8802fb05895fdd714a85a36274208ff55cd47afe42bb33d32fc10d9", func := "joinery/joinerylaw7.LedgerEight", spec := "ledgerEight", unfollowed := true, recurses := true, apart := false }
def LedgerEightSaid : Prop := ledgerEightRow.holds Try.pinned (OpenSpec.ofChange ledgerEightSpec)

/-- ITS FALSE NEIGHBOUR: 'it returns false'. Refute it at one input. -/
def ledgerEightWrong : ChangeSpec := { name := "ledgerEight", fn := fun _ => fun
  | [d] => { results := [.lit (.bool false)], args := [d] }
  | _ => none }
def LedgerEightWrongFalsely : Prop := ledgerEightRow.holds Try.pinned (OpenSpec.ofChange ledgerEightWrong)

/-- 'joinerylaw7.LedgerFull': WHATEVER THE INPUT: true; the input reads as it did. -/
def ledgerFullSpec : ChangeSpec := { name := "ledgerFull", fn := fun _ => fun
  | [d1, d2] => { results := [.lit (.bool true)], args := [d1, d2] }
  | _ => none }
def ledgerFullRow : OpenClaim := { program := "ytbinkokafbpnoaa", sum := "3ee24a27a8802fb05895fdd714a85a36274208ff55cd47afe42bb33d32fc10d9", func := "joinery/joinerylaw7.LedgerFull", spec := "ledgerFull", unfollowed := true, recurses := true, apart := false }
def LedgerFullSaid : Prop := ledgerFullRow.holds Try.pinned (OpenSpec.ofChange ledgerFullSpec)

/-- ITS FALSE NEIGHBOUR: 'it returns false'. Refute it at one input. -/
def ledgerFullWrong : ChangeSpec := { name := "ledgerFull", fn := fun _ => fun
  | [d1, d2] => { results := [.lit (.bool false)], args := [d1, d2] }
  | _ => none }
def LedgerFullWrongFalsely : Prop := ledgerFullRow.holds Try.pinned (OpenSpec.ofChange ledgerFullWrong)

/-- 'joinerylaw7.LedgerOrder': WHATEVER THE INPUT: true; the input reads as it did. -/
def ledgerOrderSpec : ChangeSpec := { name := "ledgerOrder", fn := fun _ => fun
  | [d1, d2] => { results := [.lit (.bool true)], args := [d1, d2] }
  | _ => none }
def ledgerOrderRow : OpenClaim := { program := "ytbinkokafbpnoaa", sum := "3ee24a27a8802fb05895fdd714a85a36274208ff55cd47afe42bb33d32fc10d9", func := "joinery/joinerylaw7.LedgerOrder", spec := "ledgerOrder", unfollowed := true, recurses := true, apart := false }
def LedgerOrderSaid : Prop := ledgerOrderRow.holds Try.pinned (OpenSpec.ofChange ledgerOrderSpec)

/-- ITS FALSE NEIGHBOUR: 'it returns false'. Refute it at one input. -/
def ledgerOrderWrong : ChangeSpec := { name := "ledgerOrder", fn := fun _ => fun
  | [d1, d2] => { results := [.lit (.bool false)], args := [d1, d2] }
  | _ => none }
def LedgerOrderWrongFalsely : Prop := ledgerOrderRow.holds Try.pinned (OpenSpec.ofChange ledgerOrderWrong)

/-- 'joinerylaw7.LedgerAnew': WHATEVER THE INPUT: true; the input reads as it did. -/
def ledgerAnewSpec : ChangeSpec := { name := "ledgerAnew", fn := fun _ => fun
  | [d1, d2, d3] => { results := [.lit (.bool true)], args := [d1, d2, d3] }
  | _ => none }
def ledgerAnewRow : OpenClaim := { program := "ytbinkokafbpnoaa", sum := "3ee24a27a8802fb05895fdd714a85a36274208ff55cd47afe42bb33d32fc10d9", func := "joinery/joinerylaw7.LedgerAnew", spec := "ledgerAnew", unfollowed := true, recurses := true, apart := false }
def LedgerAnewSaid : Prop := ledgerAnewRow.holds Try.pinned (OpenSpec.ofChange ledgerAnewSpec)

/-- ITS FALSE NEIGHBOUR: 'it returns false'. Refute it at one input. -/
def ledgerAnewWrong : ChangeSpec := { name := "ledgerAnew", fn := fun _ => fun
  | [d1, d2, d3] => { results := [.lit (.bool false)], args := [d1, d2, d3] }
  | _ => none }
def LedgerAnewWrongFalsely : Prop := ledgerAnewRow.holds Try.pinned (OpenSpec.ofChange ledgerAnewWrong)

/-- 'joinerylaw7.LedgerPlays': WHATEVER THE INPUT: true; the input reads as it did. -/
def ledgerPlaysSpec : ChangeSpec := { name := "ledgerPlays", fn := fun _ => fun
  | [d1, d2, d3] => { results := [.lit (.bool true)], args := [d1, d2, d3] }
  | _ => none }
def ledgerPlaysRow : OpenClaim := { program := "ytbinkokafbpnoaa", sum := "3ee24a27a8802fb05895fdd714a85a36274208ff55cd47afe42bb33d32fc10d9", func := "joinery/joinerylaw7.LedgerPlays", spec := "ledgerPlays", unfollowed := true, recurses := true, apart := false }
def LedgerPlaysSaid : Prop := ledgerPlaysRow.holds Try.pinned (OpenSpec.ofChange ledgerPlaysSpec)

/-- ITS FALSE NEIGHBOUR: 'it returns false'. Refute it at one input. -/
def ledgerPlaysWrong : ChangeSpec := { name := "ledgerPlays", fn := fun _ => fun
  | [d1, d2, d3] => { results := [.lit (.bool false)], args := [d1, d2, d3] }
  | _ => none }
def LedgerPlaysWrongFalsely : Prop := ledgerPlaysRow.holds Try.pinned (OpenSpec.ofChange ledgerPlaysWrong)

/-- 'joinerylaw7.LedgerShrinks': WHATEVER THE INPUT: true; the input reads as it did. -/
def ledgerShrinksSpec : ChangeSpec := { name := "ledgerShrinks", fn := fun _ => fun
  | [d1, d2, d3] => { results := [.lit (.bool true)], args := [d1, d2, d3] }
  | _ => none }
def ledgerShrinksRow : OpenClaim := { program := "ytbinkokafbpnoaa", sum := "3ee24a27a8802fb05895fdd714a85a36274208ff55cd47afe42bb33d32fc10d9", func := "joinery/joinerylaw7.LedgerShrinks", spec := "ledgerShrinks", unfollowed := true, recurses := true, apart := false }
def LedgerShrinksSaid : Prop := ledgerShrinksRow.holds Try.pinned (OpenSpec.ofChange ledgerShrinksSpec)

/-- ITS FALSE NEIGHBOUR: 'it returns false'. Refute it at one input. -/
def ledgerShrinksWrong : ChangeSpec := { name := "ledgerShrinks", fn := fun _ => fun
  | [d1, d2, d3] => { results := [.lit (.bool false)], args := [d1, d2, d3] }
  | _ => none }
def LedgerShrinksWrongFalsely : Prop := ledgerShrinksRow.holds Try.pinned (OpenSpec.ofChange ledgerShrinksWrong)

/-- 'joinerylaw7.LedgerErrs': WHATEVER THE INPUT: true; the input reads as it did. -/
def ledgerErrsSpec : ChangeSpec := { name := "ledgerErrs", fn := fun _ => fun
  | [d] => { results := [.lit (.bool true)], args := [d] }
  | _ => none }
def ledgerErrsRow : OpenClaim := { program := "ytbinkokafbpnoaa", sum := "3ee24a27a8802fb05895fdd714a85a36274208ff55cd47afe42bb33d32fc10d9", func := "joinery/joinerylaw7.LedgerErrs", spec := "ledgerErrs", unfollowed := true, recurses := true, apart := false }
def LedgerErrsSaid : Prop := ledgerErrsRow.holds Try.pinned (OpenSpec.ofChange ledgerErrsSpec)

/-- ITS FALSE NEIGHBOUR: 'it returns false'. Refute it at one input. -/
def ledgerErrsWrong : ChangeSpec := { name := "ledgerErrs", fn := fun _ => fun
  | [d] => { results := [.lit (.bool false)], args := [d] }
  | _ => none }
def LedgerErrsWrongFalsely : Prop := ledgerErrsRow.holds Try.pinned (OpenSpec.ofChange ledgerErrsWrong)

/- THE SECOND FORM. 'bulk': how many values and letters a reading holds, each counted each time it is reached (what is shared counts as often as it is met; a slice's spare places count too). A statement '..UptoSaid' is the law's where the arguments, and the package variables that the reading takes, are together of bulk at most 1048576: NARROWER than '..Said'. Prove '..Said' where nothing that the law and all that it calls make is longer than what came in: it says more and counts as full. Else prove '..UptoSaid'. A law counts once. -/
mutual
def uptoBulk {H : Type} : DataW H → Nat
  | .lit (.string bytes) => bytes.length + 1
  | .lit _ => 1
  | .nil => 1
  | .ptr d => uptoBulk d + 1
  | .slice elems spare => uptoBulkAll elems + uptoBulkAll spare + 1
  | .agg parts => uptoBulkAll parts + 1
  | .iface _ d => uptoBulk d + 1
  | .map entries => uptoBulkEntries entries + 1
  | .held _ => 1
def uptoBulkAll {H : Type} : List (DataW H) → Nat
  | [] => 0
  | d :: r => uptoBulk d + uptoBulkAll r
def uptoBulkEntries {H : Type} : List (Lit × DataW H) → Nat
  | [] => 0
  | x :: r => uptoBulkEntry x + uptoBulkEntries r
def uptoBulkEntry {H : Type} : Lit × DataW H → Nat
  | (.string bytes, d) => bytes.length + uptoBulk d + 1
  | (_, d) => uptoBulk d + 1
 end
def uptoSmall : (H : Type) → List (DataW H) → Bool := fun _ ds => decide (uptoBulkAll ds ≤ 1048576)
def OpenSpec.upto (s : _root_.Go.ChangeSpec) : _root_.Go.OpenSpec := { _root_.Go.OpenSpec.ofChange s with cond := some uptoSmall }

/-- 'joinerylaw7.LedgerRoom', WHERE WHAT IT READS IS OF BULK AT MOST 1048576: true; the input reads as it did. -/
def ledgerRoomUptoRow : OpenClaim := { program := "ytbinkokafbpnoaa", sum := "3ee24a27a8802fb05895fdd714a85a36274208ff55cd47afe42bb33d32fc10d9", func := "joinery/joinerylaw7.LedgerRoom", spec := "ledgerRoom", unfollowed := true, recurses := true, apart := false, narrowed := true }
def LedgerRoomUptoSaid : Prop := ledgerRoomUptoRow.holds Try.pinned (OpenSpec.upto ledgerRoomSpec)

/-- 'joinerylaw7.LedgerGives', WHERE WHAT IT READS IS OF BULK AT MOST 1048576: true; the input reads as it did. -/
def ledgerGivesUptoRow : OpenClaim := { program := "ytbinkokafbpnoaa", sum := "3ee24a27a8802fb05895fdd714a85a36274208ff55cd47afe42bb33d32fc10d9", func := "joinery/joinerylaw7.LedgerGives", spec := "ledgerGives", unfollowed := true, recurses := true, apart := false, narrowed := true }
def LedgerGivesUptoSaid : Prop := ledgerGivesUptoRow.holds Try.pinned (OpenSpec.upto ledgerGivesSpec)

/-- 'joinerylaw7.LedgerOwn', WHERE WHAT IT READS IS OF BULK AT MOST 1048576: true; the input reads as it did. -/
def ledgerOwnUptoRow : OpenClaim := { program := "ytbinkokafbpnoaa", sum := "3ee24a27a8802fb05895fdd714a85a36274208ff55cd47afe42bb33d32fc10d9", func := "joinery/joinerylaw7.LedgerOwn", spec := "ledgerOwn", unfollowed := true, recurses := true, apart := false, narrowed := true }
def LedgerOwnUptoSaid : Prop := ledgerOwnUptoRow.holds Try.pinned (OpenSpec.upto ledgerOwnSpec)

/-- 'joinerylaw7.LedgerEight', WHERE WHAT IT READS IS OF BULK AT MOST 1048576: true; the input reads as it did. -/
def ledgerEightUptoRow : OpenClaim := { program := "ytbinkokafbpnoaa", sum := "3ee24a27a8802fb05895fdd714a85a36274208ff55cd47afe42bb33d32fc10d9", func := "joinery/joinerylaw7.LedgerEight", spec := "ledgerEight", unfollowed := true, recurses := true, apart := false, narrowed := true }
def LedgerEightUptoSaid : Prop := ledgerEightUptoRow.holds Try.pinned (OpenSpec.upto ledgerEightSpec)

/-- 'joinerylaw7.LedgerFull', WHERE WHAT IT READS IS OF BULK AT MOST 1048576: true; the input reads as it did. -/
def ledgerFullUptoRow : OpenClaim := { program := "ytbinkokafbpnoaa", sum := "3ee24a27a8802fb05895fdd714a85a36274208ff55cd47afe42bb33d32fc10d9", func := "joinery/joinerylaw7.LedgerFull", spec := "ledgerFull", unfollowed := true, recurses := true, apart := false, narrowed := true }
def LedgerFullUptoSaid : Prop := ledgerFullUptoRow.holds Try.pinned (OpenSpec.upto ledgerFullSpec)

/-- 'joinerylaw7.LedgerOrder', WHERE WHAT IT READS IS OF BULK AT MOST 1048576: true; the input reads as it did. -/
def ledgerOrderUptoRow : OpenClaim := { program := "ytbinkokafbpnoaa", sum := "3ee24a27a8802fb05895fdd714a85a36274208ff55cd47afe42bb33d32fc10d9", func := "joinery/joinerylaw7.LedgerOrder", spec := "ledgerOrder", unfollowed := true, recurses := true, apart := false, narrowed := true }
def LedgerOrderUptoSaid : Prop := ledgerOrderUptoRow.holds Try.pinned (OpenSpec.upto ledgerOrderSpec)

/-- 'joinerylaw7.LedgerAnew', WHERE WHAT IT READS IS OF BULK AT MOST 1048576: true; the input reads as it did. -/
def ledgerAnewUptoRow : OpenClaim := { program := "ytbinkokafbpnoaa", sum := "3ee24a27a8802fb05895fdd714a85a36274208ff55cd47afe42bb33d32fc10d9", func := "joinery/joinerylaw7.LedgerAnew", spec := "ledgerAnew", unfollowed := true, recurses := true, apart := false, narrowed := true }
def LedgerAnewUptoSaid : Prop := ledgerAnewUptoRow.holds Try.pinned (OpenSpec.upto ledgerAnewSpec)

/-- 'joinerylaw7.LedgerPlays', WHERE WHAT IT READS IS OF BULK AT MOST 1048576: true; the input reads as it did. -/
def ledgerPlaysUptoRow : OpenClaim := { program := "ytbinkokafbpnoaa", sum := "3ee24a27a8802fb05895fdd714a85a36274208ff55cd47afe42bb33d32fc10d9", func := "joinery/joinerylaw7.LedgerPlays", spec := "ledgerPlays", unfollowed := true, recurses := true, apart := false, narrowed := true }
def LedgerPlaysUptoSaid : Prop := ledgerPlaysUptoRow.holds Try.pinned (OpenSpec.upto ledgerPlaysSpec)

/-- 'joinerylaw7.LedgerShrinks', WHERE WHAT IT READS IS OF BULK AT MOST 1048576: true; the input reads as it did. -/
def ledgerShrinksUptoRow : OpenClaim := { program := "ytbinkokafbpnoaa", sum := "3ee24a27a8802fb05895fdd714a85a36274208ff55cd47afe42bb33d32fc10d9", func := "joinery/joinerylaw7.LedgerShrinks", spec := "ledgerShrinks", unfollowed := true, recurses := true, apart := false, narrowed := true }
def LedgerShrinksUptoSaid : Prop := ledgerShrinksUptoRow.holds Try.pinned (OpenSpec.upto ledgerShrinksSpec)

/-- 'joinerylaw7.LedgerErrs', WHERE WHAT IT READS IS OF BULK AT MOST 1048576: true; the input reads as it did. -/
def ledgerErrsUptoRow : OpenClaim := { program := "ytbinkokafbpnoaa", sum := "3ee24a27a8802fb05895fdd714a85a36274208ff55cd47afe42bb33d32fc10d9", func := "joinery/joinerylaw7.LedgerErrs", spec := "ledgerErrs", unfollowed := true, recurses := true, apart := false, narrowed := true }
def LedgerErrsUptoSaid : Prop := ledgerErrsUptoRow.holds Try.pinned (OpenSpec.upto ledgerErrsSpec)

end Rows
end Go.Proofs.Ytbinkokafbpnoaa
