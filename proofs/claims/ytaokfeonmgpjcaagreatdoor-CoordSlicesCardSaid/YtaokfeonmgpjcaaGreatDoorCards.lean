/-
  DERIVED. GIVEN WITH THE SEED: THE CARDS: each row of YtaokfeonmgpjcaaGreatDoorRows.lean that lists a variable, with what it lists TIED to the program's text (the seventh form; the later family's looks); each row that meets fmt, with fmt's text TOLD by the authors' own Lean function (tested against real Go, not proved from fmt's source: count such statements apart). THE CARD IS WHAT COUNTS. Prove the row's statement (the work); the ties are given (YtaokfeonmgpjcaaGreatDoorTie.lean); close each card by the builder's one call (the guide's Derived/Test/ToyasCard.lean, 'card_holds'). Laid BY PROGRAM, IN A SANDBOX (cutbox-door.mjs). By AI agents, Wed Nov 11 2026. No macro, syntax, notation, axiom, sorry.
-/
import Derived.Test.YtaokfeonmgpjcaaGreatDoorRows
import GoSem.ClaimSeven
namespace Go.Proofs.YtaokfeonmgpjcaaGreatDoor
namespace Rows

/-- THE TIED CARD OF 'joinerylaw11.CoordSlices'. -/
def coordSlicesCard : Claim7 := { stood := { row := coordSlicesRow, standIns := [], harness := (true, "61f0b942d509971197908c97aaf1ade73d45b83a88b1dd61c9ffba1adcf1a19b"), looks := true }, kinds := [], alts := [], laidByText := true, laidKinds := [.data, .data, .data, .data, .listed, .data, .pinned], laidTests := true, laidLooks := .later }
def CoordSlicesCardSaid : Prop := Claim7.holds Tryz.pinned (.plain (OpenSpec.ofChange coordSlicesSpec)) coordSlicesCard

/-- THE TIED CARD OF 'joinerylaw11.CoordErrs'. -/
def coordErrsCard : Claim7 := { stood := { row := coordErrsRow, standIns := [], harness := (true, "61f0b942d509971197908c97aaf1ade73d45b83a88b1dd61c9ffba1adcf1a19b"), looks := true }, kinds := [], alts := [], laidByText := true, laidKinds := [.data, .data, .data, .data, .listed, .data, .pinned], laidTests := true, laidLooks := .later }
def CoordErrsCardSaid : Prop := Claim7.holds Tryz.pinned (.plain (OpenSpec.ofChange coordErrsSpec)) coordErrsCard

/-- THE TIED CARD OF 'joinerylaw11.CoordCommits'. -/
def coordCommitsCard : Claim7 := { stood := { row := coordCommitsRow, standIns := [], harness := (true, "61f0b942d509971197908c97aaf1ade73d45b83a88b1dd61c9ffba1adcf1a19b"), looks := true }, kinds := [], alts := [], laidByText := true, laidKinds := [.data, .data, .data, .data, .listed, .data, .pinned], laidTests := true, laidLooks := .later }
def CoordCommitsCardSaid : Prop := Claim7.holds Tryz.pinned (.plain (OpenSpec.ofChange coordCommitsSpec)) coordCommitsCard

/-- THE TIED CARD OF 'joinerylaw11.CoordLate'. -/
def coordLateCard : Claim7 := { stood := { row := coordLateRow, standIns := [], harness := (true, "61f0b942d509971197908c97aaf1ade73d45b83a88b1dd61c9ffba1adcf1a19b"), looks := true }, kinds := [], alts := [], laidByText := true, laidKinds := [.data, .data, .data, .data, .listed, .data, .pinned], laidTests := true, laidLooks := .later }
def CoordLateCardSaid : Prop := Claim7.holds Tryz.pinned (.plain (OpenSpec.ofChange coordLateSpec)) coordLateCard

/-- THE TIED CARD OF 'joinerylaw11.CoordRepeats'. -/
def coordRepeatsCard : Claim7 := { stood := { row := coordRepeatsRow, standIns := [], harness := (true, "61f0b942d509971197908c97aaf1ade73d45b83a88b1dd61c9ffba1adcf1a19b"), looks := true }, kinds := [], alts := [], laidByText := true, laidKinds := [.data, .data, .data, .data, .listed, .data, .pinned], laidTests := true, laidLooks := .later }
def CoordRepeatsCardSaid : Prop := Claim7.holds Tryz.pinned (.plain (OpenSpec.ofChange coordRepeatsSpec)) coordRepeatsCard

/-- THE TIED CARD OF 'joinerylaw11.CoordFrees'. -/
def coordFreesCard : Claim7 := { stood := { row := coordFreesRow, standIns := [], harness := (true, "61f0b942d509971197908c97aaf1ade73d45b83a88b1dd61c9ffba1adcf1a19b"), looks := true }, kinds := [], alts := [], laidByText := true, laidKinds := [.data, .data, .data, .data, .listed, .data, .pinned], laidTests := true, laidLooks := .later }
def CoordFreesCardSaid : Prop := Claim7.holds Tryz.pinned (.plain (OpenSpec.ofChange coordFreesSpec)) coordFreesCard

/-- THE TIED CARD OF 'joinerylaw11.CoordDrops'. -/
def coordDropsCard : Claim7 := { stood := { row := coordDropsRow, standIns := [], harness := (true, "61f0b942d509971197908c97aaf1ade73d45b83a88b1dd61c9ffba1adcf1a19b"), looks := true }, kinds := [], alts := [], laidByText := true, laidKinds := [.data, .data, .data, .data, .listed, .data, .pinned], laidTests := true, laidLooks := .later }
def CoordDropsCardSaid : Prop := Claim7.holds Tryz.pinned (.plain (OpenSpec.ofChange coordDropsSpec)) coordDropsCard

/-- THE TIED CARD OF 'joinerylaw11.CoordOnce'. -/
def coordOnceCard : Claim7 := { stood := { row := coordOnceRow, standIns := [], harness := (true, "61f0b942d509971197908c97aaf1ade73d45b83a88b1dd61c9ffba1adcf1a19b"), looks := true }, kinds := [], alts := [], laidByText := true, laidKinds := [.data, .data, .data, .data, .listed, .data, .pinned], laidTests := true, laidLooks := .later }
def CoordOnceCardSaid : Prop := Claim7.holds Tryz.pinned (.plain (OpenSpec.ofChange coordOnceSpec)) coordOnceCard

/-- THE TIED CARD OF 'joinerylaw11.CoordTells'. -/
def coordTellsCard : Claim7 := { stood := { row := coordTellsRow, standIns := [], harness := (true, "61f0b942d509971197908c97aaf1ade73d45b83a88b1dd61c9ffba1adcf1a19b"), looks := true }, kinds := [], alts := [], laidByText := true, laidKinds := [.data, .data, .data, .data, .listed, .data, .pinned], laidTests := true, laidLooks := .later }
def CoordTellsCardSaid : Prop := Claim7.holds Tryz.pinned (.plain (OpenSpec.ofChange coordTellsSpec)) coordTellsCard

/-- THE TIED CARD OF 'joinerylaw11.CoordPlays'. -/
def coordPlaysCard : Claim7 := { stood := { row := coordPlaysRow, standIns := [], harness := (true, "61f0b942d509971197908c97aaf1ade73d45b83a88b1dd61c9ffba1adcf1a19b"), looks := true }, kinds := [], alts := [], laidByText := true, laidKinds := [.data, .data, .data, .data, .listed, .data, .pinned], laidTests := true, laidLooks := .later }
def CoordPlaysCardSaid : Prop := Claim7.holds Tryz.pinned (.plain (OpenSpec.ofChange coordPlaysSpec)) coordPlaysCard

/-- THE TIED CARD OF 'joinerylaw11.CoordBack'. -/
def coordBackCard : Claim7 := { stood := { row := coordBackRow, standIns := [], harness := (true, "61f0b942d509971197908c97aaf1ade73d45b83a88b1dd61c9ffba1adcf1a19b"), looks := true }, kinds := [], alts := [], laidByText := true, laidKinds := [.data, .data, .data, .data, .listed, .data, .pinned], laidTests := true, laidLooks := .later }
def CoordBackCardSaid : Prop := Claim7.holds Tryz.pinned (.plain (OpenSpec.ofChange coordBackSpec)) coordBackCard

/-- THE TIED CARD OF 'joinerylaw11.CoordStray'. -/
def coordStrayCard : Claim7 := { stood := { row := coordStrayRow, standIns := [], harness := (true, "61f0b942d509971197908c97aaf1ade73d45b83a88b1dd61c9ffba1adcf1a19b"), looks := true }, kinds := [], alts := [], laidByText := true, laidKinds := [.data, .data, .data, .data, .listed, .data, .pinned], laidTests := true, laidLooks := .later }
def CoordStrayCardSaid : Prop := Claim7.holds Tryz.pinned (.plain (OpenSpec.ofChange coordStraySpec)) coordStrayCard

/-- THE SECOND FORM's CARD OF 'joinerylaw11.CoordSlices'. -/
def coordSlicesUptoCard : Claim7 := { stood := { row := coordSlicesUptoRow, standIns := [], harness := (true, "61f0b942d509971197908c97aaf1ade73d45b83a88b1dd61c9ffba1adcf1a19b"), looks := true }, kinds := [], alts := [], laidByText := true, laidKinds := [.data, .data, .data, .data, .listed, .data, .pinned], laidTests := true, laidLooks := .later }
def CoordSlicesUptoCardSaid : Prop := Claim7.holds Tryz.pinned (.plain (OpenSpec.upto coordSlicesSpec)) coordSlicesUptoCard

/-- THE SECOND FORM's CARD OF 'joinerylaw11.CoordErrs'. -/
def coordErrsUptoCard : Claim7 := { stood := { row := coordErrsUptoRow, standIns := [], harness := (true, "61f0b942d509971197908c97aaf1ade73d45b83a88b1dd61c9ffba1adcf1a19b"), looks := true }, kinds := [], alts := [], laidByText := true, laidKinds := [.data, .data, .data, .data, .listed, .data, .pinned], laidTests := true, laidLooks := .later }
def CoordErrsUptoCardSaid : Prop := Claim7.holds Tryz.pinned (.plain (OpenSpec.upto coordErrsSpec)) coordErrsUptoCard

/-- THE SECOND FORM's CARD OF 'joinerylaw11.CoordCommits'. -/
def coordCommitsUptoCard : Claim7 := { stood := { row := coordCommitsUptoRow, standIns := [], harness := (true, "61f0b942d509971197908c97aaf1ade73d45b83a88b1dd61c9ffba1adcf1a19b"), looks := true }, kinds := [], alts := [], laidByText := true, laidKinds := [.data, .data, .data, .data, .listed, .data, .pinned], laidTests := true, laidLooks := .later }
def CoordCommitsUptoCardSaid : Prop := Claim7.holds Tryz.pinned (.plain (OpenSpec.upto coordCommitsSpec)) coordCommitsUptoCard

/-- THE SECOND FORM's CARD OF 'joinerylaw11.CoordLate'. -/
def coordLateUptoCard : Claim7 := { stood := { row := coordLateUptoRow, standIns := [], harness := (true, "61f0b942d509971197908c97aaf1ade73d45b83a88b1dd61c9ffba1adcf1a19b"), looks := true }, kinds := [], alts := [], laidByText := true, laidKinds := [.data, .data, .data, .data, .listed, .data, .pinned], laidTests := true, laidLooks := .later }
def CoordLateUptoCardSaid : Prop := Claim7.holds Tryz.pinned (.plain (OpenSpec.upto coordLateSpec)) coordLateUptoCard

/-- THE SECOND FORM's CARD OF 'joinerylaw11.CoordRepeats'. -/
def coordRepeatsUptoCard : Claim7 := { stood := { row := coordRepeatsUptoRow, standIns := [], harness := (true, "61f0b942d509971197908c97aaf1ade73d45b83a88b1dd61c9ffba1adcf1a19b"), looks := true }, kinds := [], alts := [], laidByText := true, laidKinds := [.data, .data, .data, .data, .listed, .data, .pinned], laidTests := true, laidLooks := .later }
def CoordRepeatsUptoCardSaid : Prop := Claim7.holds Tryz.pinned (.plain (OpenSpec.upto coordRepeatsSpec)) coordRepeatsUptoCard

/-- THE SECOND FORM's CARD OF 'joinerylaw11.CoordFrees'. -/
def coordFreesUptoCard : Claim7 := { stood := { row := coordFreesUptoRow, standIns := [], harness := (true, "61f0b942d509971197908c97aaf1ade73d45b83a88b1dd61c9ffba1adcf1a19b"), looks := true }, kinds := [], alts := [], laidByText := true, laidKinds := [.data, .data, .data, .data, .listed, .data, .pinned], laidTests := true, laidLooks := .later }
def CoordFreesUptoCardSaid : Prop := Claim7.holds Tryz.pinned (.plain (OpenSpec.upto coordFreesSpec)) coordFreesUptoCard

/-- THE SECOND FORM's CARD OF 'joinerylaw11.CoordDrops'. -/
def coordDropsUptoCard : Claim7 := { stood := { row := coordDropsUptoRow, standIns := [], harness := (true, "61f0b942d509971197908c97aaf1ade73d45b83a88b1dd61c9ffba1adcf1a19b"), looks := true }, kinds := [], alts := [], laidByText := true, laidKinds := [.data, .data, .data, .data, .listed, .data, .pinned], laidTests := true, laidLooks := .later }
def CoordDropsUptoCardSaid : Prop := Claim7.holds Tryz.pinned (.plain (OpenSpec.upto coordDropsSpec)) coordDropsUptoCard

/-- THE SECOND FORM's CARD OF 'joinerylaw11.CoordOnce'. -/
def coordOnceUptoCard : Claim7 := { stood := { row := coordOnceUptoRow, standIns := [], harness := (true, "61f0b942d509971197908c97aaf1ade73d45b83a88b1dd61c9ffba1adcf1a19b"), looks := true }, kinds := [], alts := [], laidByText := true, laidKinds := [.data, .data, .data, .data, .listed, .data, .pinned], laidTests := true, laidLooks := .later }
def CoordOnceUptoCardSaid : Prop := Claim7.holds Tryz.pinned (.plain (OpenSpec.upto coordOnceSpec)) coordOnceUptoCard

/-- THE SECOND FORM's CARD OF 'joinerylaw11.CoordTells'. -/
def coordTellsUptoCard : Claim7 := { stood := { row := coordTellsUptoRow, standIns := [], harness := (true, "61f0b942d509971197908c97aaf1ade73d45b83a88b1dd61c9ffba1adcf1a19b"), looks := true }, kinds := [], alts := [], laidByText := true, laidKinds := [.data, .data, .data, .data, .listed, .data, .pinned], laidTests := true, laidLooks := .later }
def CoordTellsUptoCardSaid : Prop := Claim7.holds Tryz.pinned (.plain (OpenSpec.upto coordTellsSpec)) coordTellsUptoCard

/-- THE SECOND FORM's CARD OF 'joinerylaw11.CoordPlays'. -/
def coordPlaysUptoCard : Claim7 := { stood := { row := coordPlaysUptoRow, standIns := [], harness := (true, "61f0b942d509971197908c97aaf1ade73d45b83a88b1dd61c9ffba1adcf1a19b"), looks := true }, kinds := [], alts := [], laidByText := true, laidKinds := [.data, .data, .data, .data, .listed, .data, .pinned], laidTests := true, laidLooks := .later }
def CoordPlaysUptoCardSaid : Prop := Claim7.holds Tryz.pinned (.plain (OpenSpec.upto coordPlaysSpec)) coordPlaysUptoCard

/-- THE SECOND FORM's CARD OF 'joinerylaw11.CoordBack'. -/
def coordBackUptoCard : Claim7 := { stood := { row := coordBackUptoRow, standIns := [], harness := (true, "61f0b942d509971197908c97aaf1ade73d45b83a88b1dd61c9ffba1adcf1a19b"), looks := true }, kinds := [], alts := [], laidByText := true, laidKinds := [.data, .data, .data, .data, .listed, .data, .pinned], laidTests := true, laidLooks := .later }
def CoordBackUptoCardSaid : Prop := Claim7.holds Tryz.pinned (.plain (OpenSpec.upto coordBackSpec)) coordBackUptoCard

/-- THE SECOND FORM's CARD OF 'joinerylaw11.CoordStray'. -/
def coordStrayUptoCard : Claim7 := { stood := { row := coordStrayUptoRow, standIns := [], harness := (true, "61f0b942d509971197908c97aaf1ade73d45b83a88b1dd61c9ffba1adcf1a19b"), looks := true }, kinds := [], alts := [], laidByText := true, laidKinds := [.data, .data, .data, .data, .listed, .data, .pinned], laidTests := true, laidLooks := .later }
def CoordStrayUptoCardSaid : Prop := Claim7.holds Tryz.pinned (.plain (OpenSpec.upto coordStraySpec)) coordStrayUptoCard
end Rows
end Go.Proofs.YtaokfeonmgpjcaaGreatDoor
