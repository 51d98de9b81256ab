/-
  NARROWER THAN 'FOR EVERY INPUT', by the rows' own cells (each row's printed sentence says how): PackPlays: laid · PackFits: laid · PackNone: laid · PackBest: laid · PackApart: laid · PackTwice: laid.
  DERIVED. THE GIVEN ROWS OF THIS SEAT. 6 by the template 'for every input the law returns true; each argument reads behind the call as it read before'; 0 by the template 'total and deterministic' (their statements: YthnoaapghcadgaaGreatDoorTotals.lean).
  GIVEN WITH THE SEED: the statements are not yours to turn. If you find one false, say at which input.
  Laid BY PROGRAM, IN A SANDBOX (cutbox-rows.mjs): the forced cells as the released guide's own fill.sh prints them over the translation f07c3c67747d6fd8… (all of the seat's roots in one cut). By AI agents, Wed Nov 11 2026. No macro, syntax, notation, axiom, sorry.
-/
import Derived.Test.YthnoaapghcadgaaGreatDoorChecked
import GoSem.Claim
import GoSem.ClaimJoined
import GoSem.ClaimMapViews
import Derived.JoinedTies
import Derived.KernelRfl
namespace Go.Proofs.YthnoaapghcadgaaGreatDoor
/- THE CELL 'sum', in the pinned program and in every row, IS THE sha256 OF THE DUMP (.gsa) THAT YthnoaapghcadgaaGreatDoorProg.lean LOADS. Nothing in Lean hashes anything: it is a label: what it is worth is what the hold of that sum in a sandbox is worth. -/
noncomputable def Tryz.pinned : Pinned := { name := "ythnoaapghcadgaagreatdoor", sum := "f07c3c67747d6fd8ce695fc9d887a43e777bbaa9f7311f2b57dfa94c2d3d1d7d", checked := Tryz.checked }
namespace Rows
def none {H : Type} : Left H := { results := [], args := [] }

/- WHAT THE LISTED PACKAGE-LEVEL VARIABLES READ AS WHEN THE CALL BEGINS. Each datum BY PROGRAM (the guide's laid-datum.mjs) off the statement by which the dump's own 'gosem.cut.vars' lays the variable. In a bare row this is a premise. The card (YthnoaapghcadgaaGreatDoorCards.lean) ties it to the program's text. -/
def laid_joinery_score_tops {H : Type} : DataW H := .agg [.lit (.int .i64 0), .lit (.int .i64 200), .lit (.int .i64 1000)]

/-- 'joinerylaw8.PackPlays': WHATEVER THE INPUT: true; the input reads as it did. -/
def packPlaysSpec : ChangeSpec := { name := "packPlays", fn := fun _ => fun
  | [d1, d2, d3, d4, d5] => { results := [.lit (.bool true)], args := [d1, d2, d3, d4, d5] }
  | _ => none }
def packPlaysRow : OpenClaim := { program := "ythnoaapghcadgaagreatdoor", sum := "f07c3c67747d6fd8ce695fc9d887a43e777bbaa9f7311f2b57dfa94c2d3d1d7d", func := "joinery/joinerylaw8.PackPlays", spec := "packPlays", unfollowed := true, recurses := true, named := ["joinery/score.tops"], apart := false, laid := [("joinery/score.tops", laid_joinery_score_tops)] }
def PackPlaysSaid : Prop := packPlaysRow.holds Tryz.pinned (OpenSpec.ofChange packPlaysSpec)

/-- ITS FALSE NEIGHBOUR: 'it returns false'. Refute it at one input. -/
def packPlaysWrong : ChangeSpec := { name := "packPlays", fn := fun _ => fun
  | [d1, d2, d3, d4, d5] => { results := [.lit (.bool false)], args := [d1, d2, d3, d4, d5] }
  | _ => none }
def PackPlaysWrongFalsely : Prop := packPlaysRow.holds Tryz.pinned (OpenSpec.ofChange packPlaysWrong)

/-- 'joinerylaw8.PackFits': WHATEVER THE INPUT: true; the input reads as it did. -/
def packFitsSpec : ChangeSpec := { name := "packFits", fn := fun _ => fun
  | [d1, d2, d3] => { results := [.lit (.bool true)], args := [d1, d2, d3] }
  | _ => none }
def packFitsRow : OpenClaim := { program := "ythnoaapghcadgaagreatdoor", sum := "f07c3c67747d6fd8ce695fc9d887a43e777bbaa9f7311f2b57dfa94c2d3d1d7d", func := "joinery/joinerylaw8.PackFits", spec := "packFits", unfollowed := true, recurses := true, named := ["joinery/score.tops"], apart := false, laid := [("joinery/score.tops", laid_joinery_score_tops)] }
def PackFitsSaid : Prop := packFitsRow.holds Tryz.pinned (OpenSpec.ofChange packFitsSpec)

/-- ITS FALSE NEIGHBOUR: 'it returns false'. Refute it at one input. -/
def packFitsWrong : ChangeSpec := { name := "packFits", fn := fun _ => fun
  | [d1, d2, d3] => { results := [.lit (.bool false)], args := [d1, d2, d3] }
  | _ => none }
def PackFitsWrongFalsely : Prop := packFitsRow.holds Tryz.pinned (OpenSpec.ofChange packFitsWrong)

/-- 'joinerylaw8.PackNone': WHATEVER THE INPUT: true; the input reads as it did. -/
def packNoneSpec : ChangeSpec := { name := "packNone", fn := fun _ => fun
  | [d1, d2, d3, d4] => { results := [.lit (.bool true)], args := [d1, d2, d3, d4] }
  | _ => none }
def packNoneRow : OpenClaim := { program := "ythnoaapghcadgaagreatdoor", sum := "f07c3c67747d6fd8ce695fc9d887a43e777bbaa9f7311f2b57dfa94c2d3d1d7d", func := "joinery/joinerylaw8.PackNone", spec := "packNone", unfollowed := true, recurses := true, named := ["joinery/score.tops"], apart := false, laid := [("joinery/score.tops", laid_joinery_score_tops)] }
def PackNoneSaid : Prop := packNoneRow.holds Tryz.pinned (OpenSpec.ofChange packNoneSpec)

/-- ITS FALSE NEIGHBOUR: 'it returns false'. Refute it at one input. -/
def packNoneWrong : ChangeSpec := { name := "packNone", fn := fun _ => fun
  | [d1, d2, d3, d4] => { results := [.lit (.bool false)], args := [d1, d2, d3, d4] }
  | _ => none }
def PackNoneWrongFalsely : Prop := packNoneRow.holds Tryz.pinned (OpenSpec.ofChange packNoneWrong)

/-- 'joinerylaw8.PackBest': WHATEVER THE INPUT: true; the input reads as it did. -/
def packBestSpec : ChangeSpec := { name := "packBest", fn := fun _ => fun
  | [d1, d2, d3, d4] => { results := [.lit (.bool true)], args := [d1, d2, d3, d4] }
  | _ => none }
def packBestRow : OpenClaim := { program := "ythnoaapghcadgaagreatdoor", sum := "f07c3c67747d6fd8ce695fc9d887a43e777bbaa9f7311f2b57dfa94c2d3d1d7d", func := "joinery/joinerylaw8.PackBest", spec := "packBest", unfollowed := true, recurses := true, named := ["joinery/score.tops"], apart := false, laid := [("joinery/score.tops", laid_joinery_score_tops)] }
def PackBestSaid : Prop := packBestRow.holds Tryz.pinned (OpenSpec.ofChange packBestSpec)

/-- ITS FALSE NEIGHBOUR: 'it returns false'. Refute it at one input. -/
def packBestWrong : ChangeSpec := { name := "packBest", fn := fun _ => fun
  | [d1, d2, d3, d4] => { results := [.lit (.bool false)], args := [d1, d2, d3, d4] }
  | _ => none }
def PackBestWrongFalsely : Prop := packBestRow.holds Tryz.pinned (OpenSpec.ofChange packBestWrong)

/-- 'joinerylaw8.PackApart': WHATEVER THE INPUT: true; the input reads as it did. -/
def packApartSpec : ChangeSpec := { name := "packApart", fn := fun _ => fun
  | [d1, d2, d3] => { results := [.lit (.bool true)], args := [d1, d2, d3] }
  | _ => none }
def packApartRow : OpenClaim := { program := "ythnoaapghcadgaagreatdoor", sum := "f07c3c67747d6fd8ce695fc9d887a43e777bbaa9f7311f2b57dfa94c2d3d1d7d", func := "joinery/joinerylaw8.PackApart", spec := "packApart", unfollowed := true, recurses := true, named := ["joinery/score.tops"], apart := false, laid := [("joinery/score.tops", laid_joinery_score_tops)] }
def PackApartSaid : Prop := packApartRow.holds Tryz.pinned (OpenSpec.ofChange packApartSpec)

/-- ITS FALSE NEIGHBOUR: 'it returns false'. Refute it at one input. -/
def packApartWrong : ChangeSpec := { name := "packApart", fn := fun _ => fun
  | [d1, d2, d3] => { results := [.lit (.bool false)], args := [d1, d2, d3] }
  | _ => none }
def PackApartWrongFalsely : Prop := packApartRow.holds Tryz.pinned (OpenSpec.ofChange packApartWrong)

/-- 'joinerylaw8.PackTwice': WHATEVER THE INPUT: true; the input reads as it did. -/
def packTwiceSpec : ChangeSpec := { name := "packTwice", fn := fun _ => fun
  | [d1, d2, d3] => { results := [.lit (.bool true)], args := [d1, d2, d3] }
  | _ => none }
def packTwiceRow : OpenClaim := { program := "ythnoaapghcadgaagreatdoor", sum := "f07c3c67747d6fd8ce695fc9d887a43e777bbaa9f7311f2b57dfa94c2d3d1d7d", func := "joinery/joinerylaw8.PackTwice", spec := "packTwice", unfollowed := true, recurses := true, named := ["joinery/score.tops"], apart := false, laid := [("joinery/score.tops", laid_joinery_score_tops)] }
def PackTwiceSaid : Prop := packTwiceRow.holds Tryz.pinned (OpenSpec.ofChange packTwiceSpec)

/-- ITS FALSE NEIGHBOUR: 'it returns false'. Refute it at one input. -/
def packTwiceWrong : ChangeSpec := { name := "packTwice", fn := fun _ => fun
  | [d1, d2, d3] => { results := [.lit (.bool false)], args := [d1, d2, d3] }
  | _ => none }
def PackTwiceWrongFalsely : Prop := packTwiceRow.holds Tryz.pinned (OpenSpec.ofChange packTwiceWrong)

/- THE SECOND FORM. 'bulk': how many values and letters a reading holds, each counted each time it is reached (what is shared counts as often as it is met; a slice's spare places count too). A statement '..UptoSaid' is the law's where the arguments, and the package variables that the reading takes, are together of bulk at most 1048576: NARROWER than '..Said'. Prove '..Said' where nothing that the law and all that it calls make is longer than what came in: it says more and counts as full. Else prove '..UptoSaid'. A law counts once. -/
mutual
def uptoBulk {H : Type} : DataW H → Nat
  | .lit (.string bytes) => bytes.length + 1
  | .lit _ => 1
  | .nil => 1
  | .ptr d => uptoBulk d + 1
  | .slice elems spare => uptoBulkAll elems + uptoBulkAll spare + 1
  | .agg parts => uptoBulkAll parts + 1
  | .iface _ d => uptoBulk d + 1
  | .map entries => uptoBulkEntries entries + 1
  | .held _ => 1
def uptoBulkAll {H : Type} : List (DataW H) → Nat
  | [] => 0
  | d :: r => uptoBulk d + uptoBulkAll r
def uptoBulkEntries {H : Type} : List (Lit × DataW H) → Nat
  | [] => 0
  | x :: r => uptoBulkEntry x + uptoBulkEntries r
def uptoBulkEntry {H : Type} : Lit × DataW H → Nat
  | (.string bytes, d) => bytes.length + uptoBulk d + 1
  | (_, d) => uptoBulk d + 1
 end
def uptoSmall : (H : Type) → List (DataW H) → Bool := fun _ ds => decide (uptoBulkAll ds ≤ 1048576)
def OpenSpec.upto (s : _root_.Go.ChangeSpec) : _root_.Go.OpenSpec := { _root_.Go.OpenSpec.ofChange s with cond := some uptoSmall }

/-- 'joinerylaw8.PackPlays', WHERE WHAT IT READS IS OF BULK AT MOST 1048576: true; the input reads as it did. -/
def packPlaysUptoRow : OpenClaim := { program := "ythnoaapghcadgaagreatdoor", sum := "f07c3c67747d6fd8ce695fc9d887a43e777bbaa9f7311f2b57dfa94c2d3d1d7d", func := "joinery/joinerylaw8.PackPlays", spec := "packPlays", unfollowed := true, recurses := true, named := ["joinery/score.tops"], apart := false, laid := [("joinery/score.tops", laid_joinery_score_tops)], narrowed := true }
def PackPlaysUptoSaid : Prop := packPlaysUptoRow.holds Tryz.pinned (OpenSpec.upto packPlaysSpec)

/-- 'joinerylaw8.PackFits', WHERE WHAT IT READS IS OF BULK AT MOST 1048576: true; the input reads as it did. -/
def packFitsUptoRow : OpenClaim := { program := "ythnoaapghcadgaagreatdoor", sum := "f07c3c67747d6fd8ce695fc9d887a43e777bbaa9f7311f2b57dfa94c2d3d1d7d", func := "joinery/joinerylaw8.PackFits", spec := "packFits", unfollowed := true, recurses := true, named := ["joinery/score.tops"], apart := false, laid := [("joinery/score.tops", laid_joinery_score_tops)], narrowed := true }
def PackFitsUptoSaid : Prop := packFitsUptoRow.holds Tryz.pinned (OpenSpec.upto packFitsSpec)

/-- 'joinerylaw8.PackNone', WHERE WHAT IT READS IS OF BULK AT MOST 1048576: true; the input reads as it did. -/
def packNoneUptoRow : OpenClaim := { program := "ythnoaapghcadgaagreatdoor", sum := "f07c3c67747d6fd8ce695fc9d887a43e777bbaa9f7311f2b57dfa94c2d3d1d7d", func := "joinery/joinerylaw8.PackNone", spec := "packNone", unfollowed := true, recurses := true, named := ["joinery/score.tops"], apart := false, laid := [("joinery/score.tops", laid_joinery_score_tops)], narrowed := true }
def PackNoneUptoSaid : Prop := packNoneUptoRow.holds Tryz.pinned (OpenSpec.upto packNoneSpec)

/-- 'joinerylaw8.PackBest', WHERE WHAT IT READS IS OF BULK AT MOST 1048576: true; the input reads as it did. -/
def packBestUptoRow : OpenClaim := { program := "ythnoaapghcadgaagreatdoor", sum := "f07c3c67747d6fd8ce695fc9d887a43e777bbaa9f7311f2b57dfa94c2d3d1d7d", func := "joinery/joinerylaw8.PackBest", spec := "packBest", unfollowed := true, recurses := true, named := ["joinery/score.tops"], apart := false, laid := [("joinery/score.tops", laid_joinery_score_tops)], narrowed := true }
def PackBestUptoSaid : Prop := packBestUptoRow.holds Tryz.pinned (OpenSpec.upto packBestSpec)

/-- 'joinerylaw8.PackApart', WHERE WHAT IT READS IS OF BULK AT MOST 1048576: true; the input reads as it did. -/
def packApartUptoRow : OpenClaim := { program := "ythnoaapghcadgaagreatdoor", sum := "f07c3c67747d6fd8ce695fc9d887a43e777bbaa9f7311f2b57dfa94c2d3d1d7d", func := "joinery/joinerylaw8.PackApart", spec := "packApart", unfollowed := true, recurses := true, named := ["joinery/score.tops"], apart := false, laid := [("joinery/score.tops", laid_joinery_score_tops)], narrowed := true }
def PackApartUptoSaid : Prop := packApartUptoRow.holds Tryz.pinned (OpenSpec.upto packApartSpec)

/-- 'joinerylaw8.PackTwice', WHERE WHAT IT READS IS OF BULK AT MOST 1048576: true; the input reads as it did. -/
def packTwiceUptoRow : OpenClaim := { program := "ythnoaapghcadgaagreatdoor", sum := "f07c3c67747d6fd8ce695fc9d887a43e777bbaa9f7311f2b57dfa94c2d3d1d7d", func := "joinery/joinerylaw8.PackTwice", spec := "packTwice", unfollowed := true, recurses := true, named := ["joinery/score.tops"], apart := false, laid := [("joinery/score.tops", laid_joinery_score_tops)], narrowed := true }
def PackTwiceUptoSaid : Prop := packTwiceUptoRow.holds Tryz.pinned (OpenSpec.upto packTwiceSpec)

end Rows
end Go.Proofs.YthnoaapghcadgaaGreatDoor
