/-
  DERIVED. GIVEN WITH THE SEED: THE CARDS: each row of YthnoaapghcadgaaGreatDoorRows.lean that lists a variable, with what it lists TIED to the program's text (the seventh form; the later family's looks); each row that meets fmt, with fmt's text TOLD by the authors' own Lean function (tested against real Go, not proved from fmt's source: count such statements apart). THE CARD IS WHAT COUNTS. Prove the row's statement (the work); the ties are given (YthnoaapghcadgaaGreatDoorTie.lean); close each card by the builder's one call (the guide's Derived/Test/ToyasCard.lean, 'card_holds'). Laid BY PROGRAM, IN A SANDBOX (cutbox-door.mjs). By AI agents, Wed Nov 11 2026. No macro, syntax, notation, axiom, sorry.
-/
import Derived.Test.YthnoaapghcadgaaGreatDoorRows
import GoSem.ClaimSeven
namespace Go.Proofs.YthnoaapghcadgaaGreatDoor
namespace Rows

/-- THE TIED CARD OF 'joinerylaw8.PackPlays'. -/
def packPlaysCard : Claim7 := { stood := { row := packPlaysRow, standIns := [], harness := (true, "2ec3e97a000807b02f8a99facae9f1afcc0532c9fac3eb18e99641e2f714aa94"), looks := true }, kinds := [], alts := [], laidByText := true, laidKinds := [.data], laidTests := true, laidLooks := .later }
def PackPlaysCardSaid : Prop := Claim7.holds Tryz.pinned (.plain (OpenSpec.ofChange packPlaysSpec)) packPlaysCard

/-- THE TIED CARD OF 'joinerylaw8.PackFits'. -/
def packFitsCard : Claim7 := { stood := { row := packFitsRow, standIns := [], harness := (true, "2ec3e97a000807b02f8a99facae9f1afcc0532c9fac3eb18e99641e2f714aa94"), looks := true }, kinds := [], alts := [], laidByText := true, laidKinds := [.data], laidTests := true, laidLooks := .later }
def PackFitsCardSaid : Prop := Claim7.holds Tryz.pinned (.plain (OpenSpec.ofChange packFitsSpec)) packFitsCard

/-- THE TIED CARD OF 'joinerylaw8.PackNone'. -/
def packNoneCard : Claim7 := { stood := { row := packNoneRow, standIns := [], harness := (true, "2ec3e97a000807b02f8a99facae9f1afcc0532c9fac3eb18e99641e2f714aa94"), looks := true }, kinds := [], alts := [], laidByText := true, laidKinds := [.data], laidTests := true, laidLooks := .later }
def PackNoneCardSaid : Prop := Claim7.holds Tryz.pinned (.plain (OpenSpec.ofChange packNoneSpec)) packNoneCard

/-- THE TIED CARD OF 'joinerylaw8.PackBest'. -/
def packBestCard : Claim7 := { stood := { row := packBestRow, standIns := [], harness := (true, "2ec3e97a000807b02f8a99facae9f1afcc0532c9fac3eb18e99641e2f714aa94"), looks := true }, kinds := [], alts := [], laidByText := true, laidKinds := [.data], laidTests := true, laidLooks := .later }
def PackBestCardSaid : Prop := Claim7.holds Tryz.pinned (.plain (OpenSpec.ofChange packBestSpec)) packBestCard

/-- THE TIED CARD OF 'joinerylaw8.PackApart'. -/
def packApartCard : Claim7 := { stood := { row := packApartRow, standIns := [], harness := (true, "2ec3e97a000807b02f8a99facae9f1afcc0532c9fac3eb18e99641e2f714aa94"), looks := true }, kinds := [], alts := [], laidByText := true, laidKinds := [.data], laidTests := true, laidLooks := .later }
def PackApartCardSaid : Prop := Claim7.holds Tryz.pinned (.plain (OpenSpec.ofChange packApartSpec)) packApartCard

/-- THE TIED CARD OF 'joinerylaw8.PackTwice'. -/
def packTwiceCard : Claim7 := { stood := { row := packTwiceRow, standIns := [], harness := (true, "2ec3e97a000807b02f8a99facae9f1afcc0532c9fac3eb18e99641e2f714aa94"), looks := true }, kinds := [], alts := [], laidByText := true, laidKinds := [.data], laidTests := true, laidLooks := .later }
def PackTwiceCardSaid : Prop := Claim7.holds Tryz.pinned (.plain (OpenSpec.ofChange packTwiceSpec)) packTwiceCard

/-- THE SECOND FORM's CARD OF 'joinerylaw8.PackPlays'. -/
def packPlaysUptoCard : Claim7 := { stood := { row := packPlaysUptoRow, standIns := [], harness := (true, "2ec3e97a000807b02f8a99facae9f1afcc0532c9fac3eb18e99641e2f714aa94"), looks := true }, kinds := [], alts := [], laidByText := true, laidKinds := [.data], laidTests := true, laidLooks := .later }
def PackPlaysUptoCardSaid : Prop := Claim7.holds Tryz.pinned (.plain (OpenSpec.upto packPlaysSpec)) packPlaysUptoCard

/-- THE SECOND FORM's CARD OF 'joinerylaw8.PackFits'. -/
def packFitsUptoCard : Claim7 := { stood := { row := packFitsUptoRow, standIns := [], harness := (true, "2ec3e97a000807b02f8a99facae9f1afcc0532c9fac3eb18e99641e2f714aa94"), looks := true }, kinds := [], alts := [], laidByText := true, laidKinds := [.data], laidTests := true, laidLooks := .later }
def PackFitsUptoCardSaid : Prop := Claim7.holds Tryz.pinned (.plain (OpenSpec.upto packFitsSpec)) packFitsUptoCard

/-- THE SECOND FORM's CARD OF 'joinerylaw8.PackNone'. -/
def packNoneUptoCard : Claim7 := { stood := { row := packNoneUptoRow, standIns := [], harness := (true, "2ec3e97a000807b02f8a99facae9f1afcc0532c9fac3eb18e99641e2f714aa94"), looks := true }, kinds := [], alts := [], laidByText := true, laidKinds := [.data], laidTests := true, laidLooks := .later }
def PackNoneUptoCardSaid : Prop := Claim7.holds Tryz.pinned (.plain (OpenSpec.upto packNoneSpec)) packNoneUptoCard

/-- THE SECOND FORM's CARD OF 'joinerylaw8.PackBest'. -/
def packBestUptoCard : Claim7 := { stood := { row := packBestUptoRow, standIns := [], harness := (true, "2ec3e97a000807b02f8a99facae9f1afcc0532c9fac3eb18e99641e2f714aa94"), looks := true }, kinds := [], alts := [], laidByText := true, laidKinds := [.data], laidTests := true, laidLooks := .later }
def PackBestUptoCardSaid : Prop := Claim7.holds Tryz.pinned (.plain (OpenSpec.upto packBestSpec)) packBestUptoCard

/-- THE SECOND FORM's CARD OF 'joinerylaw8.PackApart'. -/
def packApartUptoCard : Claim7 := { stood := { row := packApartUptoRow, standIns := [], harness := (true, "2ec3e97a000807b02f8a99facae9f1afcc0532c9fac3eb18e99641e2f714aa94"), looks := true }, kinds := [], alts := [], laidByText := true, laidKinds := [.data], laidTests := true, laidLooks := .later }
def PackApartUptoCardSaid : Prop := Claim7.holds Tryz.pinned (.plain (OpenSpec.upto packApartSpec)) packApartUptoCard

/-- THE SECOND FORM's CARD OF 'joinerylaw8.PackTwice'. -/
def packTwiceUptoCard : Claim7 := { stood := { row := packTwiceUptoRow, standIns := [], harness := (true, "2ec3e97a000807b02f8a99facae9f1afcc0532c9fac3eb18e99641e2f714aa94"), looks := true }, kinds := [], alts := [], laidByText := true, laidKinds := [.data], laidTests := true, laidLooks := .later }
def PackTwiceUptoCardSaid : Prop := Claim7.holds Tryz.pinned (.plain (OpenSpec.upto packTwiceSpec)) packTwiceUptoCard
end Rows
end Go.Proofs.YthnoaapghcadgaaGreatDoor
