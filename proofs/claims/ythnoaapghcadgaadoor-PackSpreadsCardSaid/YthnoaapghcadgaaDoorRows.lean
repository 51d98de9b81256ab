/-
  NARROWER THAN 'FOR EVERY INPUT', by the rows' own cells (each row's printed sentence says how): PackSpreads: laid · PackAlone: laid · PackOne: laid · PackKnown: laid · PackGrows: laid.
  DERIVED. THE GIVEN ROWS OF THIS SEAT. 5 by the template 'for every input the law returns true; each argument reads behind the call as it read before'; 0 by the template 'total and deterministic' (their statements: YthnoaapghcadgaaDoorTotals.lean).
  GIVEN WITH THE SEED: the statements are not yours to turn. If you find one false, say at which input.
  Laid BY PROGRAM, IN A SANDBOX (cutbox-rows.mjs): the forced cells as the released guide's own fill.sh prints them over the translation f7afa8b209b4b8e4… (all of the seat's roots in one cut). By AI agents, Wed Nov 11 2026. No macro, syntax, notation, axiom, sorry.
-/
import Derived.Test.YthnoaapghcadgaaDoorChecked
import GoSem.Claim
import GoSem.ClaimJoined
import GoSem.ClaimMapViews
import Derived.JoinedTies
import Derived.KernelRfl
namespace Go.Proofs.YthnoaapghcadgaaDoor
/- THE CELL 'sum', in the pinned program and in every row, IS THE sha256 OF THE DUMP (.gsa) THAT YthnoaapghcadgaaDoorProg.lean LOADS. Nothing in Lean hashes anything: it is a label: what it is worth is what the hold of that sum in a sandbox is worth. -/
noncomputable def Tryd.pinned : Pinned := { name := "ythnoaapghcadgaadoor", sum := "f7afa8b209b4b8e428cfb5bb65d95e6899c8cc1ce2d68bc59502b6d080612d1d", checked := Tryd.checked }
namespace Rows
def none {H : Type} : Left H := { results := [], args := [] }

/- WHAT THE LISTED PACKAGE-LEVEL VARIABLES READ AS WHEN THE CALL BEGINS. Each datum BY PROGRAM (the guide's laid-datum.mjs) off the statement by which the dump's own 'gosem.cut.vars' lays the variable. In a bare row this is a premise. The card (YthnoaapghcadgaaDoorCards.lean) ties it to the program's text. -/
def laid_joinery_score_tops {H : Type} : DataW H := .agg [.lit (.int .i64 0), .lit (.int .i64 200), .lit (.int .i64 1000)]

/-- 'joinerylaw8.PackSpreads': WHATEVER THE INPUT: true; the input reads as it did. -/
def packSpreadsSpec : ChangeSpec := { name := "packSpreads", fn := fun _ => fun
  | [d1, d2, d3] => { results := [.lit (.bool true)], args := [d1, d2, d3] }
  | _ => none }
def packSpreadsRow : OpenClaim := { program := "ythnoaapghcadgaadoor", sum := "f7afa8b209b4b8e428cfb5bb65d95e6899c8cc1ce2d68bc59502b6d080612d1d", func := "joinery/joinerylaw8.PackSpreads", spec := "packSpreads", unfollowed := true, recurses := true, named := ["joinery/score.tops"], apart := false, laid := [("joinery/score.tops", laid_joinery_score_tops)] }
def PackSpreadsSaid : Prop := packSpreadsRow.holds Tryd.pinned (OpenSpec.ofChange packSpreadsSpec)

/-- ITS FALSE NEIGHBOUR: 'it returns false'. Refute it at one input. -/
def packSpreadsWrong : ChangeSpec := { name := "packSpreads", fn := fun _ => fun
  | [d1, d2, d3] => { results := [.lit (.bool false)], args := [d1, d2, d3] }
  | _ => none }
def PackSpreadsWrongFalsely : Prop := packSpreadsRow.holds Tryd.pinned (OpenSpec.ofChange packSpreadsWrong)

/-- 'joinerylaw8.PackAlone': WHATEVER THE INPUT: true; the input reads as it did. -/
def packAloneSpec : ChangeSpec := { name := "packAlone", fn := fun _ => fun
  | [d1, d2, d3] => { results := [.lit (.bool true)], args := [d1, d2, d3] }
  | _ => none }
def packAloneRow : OpenClaim := { program := "ythnoaapghcadgaadoor", sum := "f7afa8b209b4b8e428cfb5bb65d95e6899c8cc1ce2d68bc59502b6d080612d1d", func := "joinery/joinerylaw8.PackAlone", spec := "packAlone", unfollowed := true, recurses := true, named := ["joinery/score.tops"], apart := false, laid := [("joinery/score.tops", laid_joinery_score_tops)] }
def PackAloneSaid : Prop := packAloneRow.holds Tryd.pinned (OpenSpec.ofChange packAloneSpec)

/-- ITS FALSE NEIGHBOUR: 'it returns false'. Refute it at one input. -/
def packAloneWrong : ChangeSpec := { name := "packAlone", fn := fun _ => fun
  | [d1, d2, d3] => { results := [.lit (.bool false)], args := [d1, d2, d3] }
  | _ => none }
def PackAloneWrongFalsely : Prop := packAloneRow.holds Tryd.pinned (OpenSpec.ofChange packAloneWrong)

/-- 'joinerylaw8.PackOne': WHATEVER THE INPUT: true; the input reads as it did. -/
def packOneSpec : ChangeSpec := { name := "packOne", fn := fun _ => fun
  | [d1, d2, d3] => { results := [.lit (.bool true)], args := [d1, d2, d3] }
  | _ => none }
def packOneRow : OpenClaim := { program := "ythnoaapghcadgaadoor", sum := "f7afa8b209b4b8e428cfb5bb65d95e6899c8cc1ce2d68bc59502b6d080612d1d", func := "joinery/joinerylaw8.PackOne", spec := "packOne", unfollowed := true, recurses := true, named := ["joinery/score.tops"], apart := false, laid := [("joinery/score.tops", laid_joinery_score_tops)] }
def PackOneSaid : Prop := packOneRow.holds Tryd.pinned (OpenSpec.ofChange packOneSpec)

/-- ITS FALSE NEIGHBOUR: 'it returns false'. Refute it at one input. -/
def packOneWrong : ChangeSpec := { name := "packOne", fn := fun _ => fun
  | [d1, d2, d3] => { results := [.lit (.bool false)], args := [d1, d2, d3] }
  | _ => none }
def PackOneWrongFalsely : Prop := packOneRow.holds Tryd.pinned (OpenSpec.ofChange packOneWrong)

/-- 'joinerylaw8.PackKnown': WHATEVER THE INPUT: true; the input reads as it did. -/
def packKnownSpec : ChangeSpec := { name := "packKnown", fn := fun _ => fun
  | [d] => { results := [.lit (.bool true)], args := [d] }
  | _ => none }
def packKnownRow : OpenClaim := { program := "ythnoaapghcadgaadoor", sum := "f7afa8b209b4b8e428cfb5bb65d95e6899c8cc1ce2d68bc59502b6d080612d1d", func := "joinery/joinerylaw8.PackKnown", spec := "packKnown", unfollowed := true, recurses := true, named := ["joinery/score.tops"], apart := false, laid := [("joinery/score.tops", laid_joinery_score_tops)] }
def PackKnownSaid : Prop := packKnownRow.holds Tryd.pinned (OpenSpec.ofChange packKnownSpec)

/-- ITS FALSE NEIGHBOUR: 'it returns false'. Refute it at one input. -/
def packKnownWrong : ChangeSpec := { name := "packKnown", fn := fun _ => fun
  | [d] => { results := [.lit (.bool false)], args := [d] }
  | _ => none }
def PackKnownWrongFalsely : Prop := packKnownRow.holds Tryd.pinned (OpenSpec.ofChange packKnownWrong)

/-- 'joinerylaw8.PackGrows': WHATEVER THE INPUT: true; the input reads as it did. -/
def packGrowsSpec : ChangeSpec := { name := "packGrows", fn := fun _ => fun
  | [d1, d2, d3] => { results := [.lit (.bool true)], args := [d1, d2, d3] }
  | _ => none }
def packGrowsRow : OpenClaim := { program := "ythnoaapghcadgaadoor", sum := "f7afa8b209b4b8e428cfb5bb65d95e6899c8cc1ce2d68bc59502b6d080612d1d", func := "joinery/joinerylaw8.PackGrows", spec := "packGrows", unfollowed := true, recurses := true, named := ["joinery/score.tops"], apart := false, laid := [("joinery/score.tops", laid_joinery_score_tops)] }
def PackGrowsSaid : Prop := packGrowsRow.holds Tryd.pinned (OpenSpec.ofChange packGrowsSpec)

/-- ITS FALSE NEIGHBOUR: 'it returns false'. Refute it at one input. -/
def packGrowsWrong : ChangeSpec := { name := "packGrows", fn := fun _ => fun
  | [d1, d2, d3] => { results := [.lit (.bool false)], args := [d1, d2, d3] }
  | _ => none }
def PackGrowsWrongFalsely : Prop := packGrowsRow.holds Tryd.pinned (OpenSpec.ofChange packGrowsWrong)

/- THE SECOND FORM. 'bulk': how many values and letters a reading holds, each counted each time it is reached (what is shared counts as often as it is met; a slice's spare places count too). A statement '..UptoSaid' is the law's where the arguments, and the package variables that the reading takes, are together of bulk at most 1048576: NARROWER than '..Said'. Prove '..Said' where nothing that the law and all that it calls make is longer than what came in: it says more and counts as full. Else prove '..UptoSaid'. A law counts once. -/
mutual
def uptoBulk {H : Type} : DataW H → Nat
  | .lit (.string bytes) => bytes.length + 1
  | .lit _ => 1
  | .nil => 1
  | .ptr d => uptoBulk d + 1
  | .slice elems spare => uptoBulkAll elems + uptoBulkAll spare + 1
  | .agg parts => uptoBulkAll parts + 1
  | .iface _ d => uptoBulk d + 1
  | .map entries => uptoBulkEntries entries + 1
  | .held _ => 1
def uptoBulkAll {H : Type} : List (DataW H) → Nat
  | [] => 0
  | d :: r => uptoBulk d + uptoBulkAll r
def uptoBulkEntries {H : Type} : List (Lit × DataW H) → Nat
  | [] => 0
  | x :: r => uptoBulkEntry x + uptoBulkEntries r
def uptoBulkEntry {H : Type} : Lit × DataW H → Nat
  | (.string bytes, d) => bytes.length + uptoBulk d + 1
  | (_, d) => uptoBulk d + 1
 end
def uptoSmall : (H : Type) → List (DataW H) → Bool := fun _ ds => decide (uptoBulkAll ds ≤ 1048576)
def OpenSpec.upto (s : _root_.Go.ChangeSpec) : _root_.Go.OpenSpec := { _root_.Go.OpenSpec.ofChange s with cond := some uptoSmall }

/-- 'joinerylaw8.PackSpreads', WHERE WHAT IT READS IS OF BULK AT MOST 1048576: true; the input reads as it did. -/
def packSpreadsUptoRow : OpenClaim := { program := "ythnoaapghcadgaadoor", sum := "f7afa8b209b4b8e428cfb5bb65d95e6899c8cc1ce2d68bc59502b6d080612d1d", func := "joinery/joinerylaw8.PackSpreads", spec := "packSpreads", unfollowed := true, recurses := true, named := ["joinery/score.tops"], apart := false, laid := [("joinery/score.tops", laid_joinery_score_tops)], narrowed := true }
def PackSpreadsUptoSaid : Prop := packSpreadsUptoRow.holds Tryd.pinned (OpenSpec.upto packSpreadsSpec)

/-- 'joinerylaw8.PackAlone', WHERE WHAT IT READS IS OF BULK AT MOST 1048576: true; the input reads as it did. -/
def packAloneUptoRow : OpenClaim := { program := "ythnoaapghcadgaadoor", sum := "f7afa8b209b4b8e428cfb5bb65d95e6899c8cc1ce2d68bc59502b6d080612d1d", func := "joinery/joinerylaw8.PackAlone", spec := "packAlone", unfollowed := true, recurses := true, named := ["joinery/score.tops"], apart := false, laid := [("joinery/score.tops", laid_joinery_score_tops)], narrowed := true }
def PackAloneUptoSaid : Prop := packAloneUptoRow.holds Tryd.pinned (OpenSpec.upto packAloneSpec)

/-- 'joinerylaw8.PackOne', WHERE WHAT IT READS IS OF BULK AT MOST 1048576: true; the input reads as it did. -/
def packOneUptoRow : OpenClaim := { program := "ythnoaapghcadgaadoor", sum := "f7afa8b209b4b8e428cfb5bb65d95e6899c8cc1ce2d68bc59502b6d080612d1d", func := "joinery/joinerylaw8.PackOne", spec := "packOne", unfollowed := true, recurses := true, named := ["joinery/score.tops"], apart := false, laid := [("joinery/score.tops", laid_joinery_score_tops)], narrowed := true }
def PackOneUptoSaid : Prop := packOneUptoRow.holds Tryd.pinned (OpenSpec.upto packOneSpec)

/-- 'joinerylaw8.PackKnown', WHERE WHAT IT READS IS OF BULK AT MOST 1048576: true; the input reads as it did. -/
def packKnownUptoRow : OpenClaim := { program := "ythnoaapghcadgaadoor", sum := "f7afa8b209b4b8e428cfb5bb65d95e6899c8cc1ce2d68bc59502b6d080612d1d", func := "joinery/joinerylaw8.PackKnown", spec := "packKnown", unfollowed := true, recurses := true, named := ["joinery/score.tops"], apart := false, laid := [("joinery/score.tops", laid_joinery_score_tops)], narrowed := true }
def PackKnownUptoSaid : Prop := packKnownUptoRow.holds Tryd.pinned (OpenSpec.upto packKnownSpec)

/-- 'joinerylaw8.PackGrows', WHERE WHAT IT READS IS OF BULK AT MOST 1048576: true; the input reads as it did. -/
def packGrowsUptoRow : OpenClaim := { program := "ythnoaapghcadgaadoor", sum := "f7afa8b209b4b8e428cfb5bb65d95e6899c8cc1ce2d68bc59502b6d080612d1d", func := "joinery/joinerylaw8.PackGrows", spec := "packGrows", unfollowed := true, recurses := true, named := ["joinery/score.tops"], apart := false, laid := [("joinery/score.tops", laid_joinery_score_tops)], narrowed := true }
def PackGrowsUptoSaid : Prop := packGrowsUptoRow.holds Tryd.pinned (OpenSpec.upto packGrowsSpec)

end Rows
end Go.Proofs.YthnoaapghcadgaaDoor
