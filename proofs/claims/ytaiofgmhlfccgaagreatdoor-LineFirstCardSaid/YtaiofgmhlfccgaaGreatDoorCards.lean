/-
  DERIVED. GIVEN WITH THE SEED: THE CARDS: each row of YtaiofgmhlfccgaaGreatDoorRows.lean that lists a variable, with what it lists TIED to the program's text (the seventh form; the later family's looks); each row that meets fmt, with fmt's text TOLD by the authors' own Lean function (tested against real Go, not proved from fmt's source: count such statements apart). THE CARD IS WHAT COUNTS. Prove the row's statement (the work); the ties are given (YtaiofgmhlfccgaaGreatDoorTie.lean); close each card by the builder's one call (the guide's Derived/Test/ToyasCard.lean, 'card_holds'). Laid BY PROGRAM, IN A SANDBOX (cutbox-door.mjs). By AI agents, Wed Nov 11 2026. No macro, syntax, notation, axiom, sorry.
-/
import Derived.Test.YtaiofgmhlfccgaaGreatDoorRows
import GoSem.ClaimSeven
namespace Go.Proofs.YtaiofgmhlfccgaaGreatDoor
namespace Rows

/-- THE TIED CARD OF 'joinerylaw4.LineChecks'. -/
def lineChecksCard : Claim7 := { stood := { row := lineChecksRow, standIns := [], harness := (true, "c304445caf88d0a1172eb8ddfec229a346378b80dd8b06b7e4c3dd91d78221de"), looks := false }, kinds := [], alts := [], laidByText := true, laidKinds := [.data, .data, .data, .data, .listed, .data, .pinned], laidTests := true, laidLooks := .later }
def LineChecksCardSaid : Prop := Claim7.holds Tryz.pinned (.plain (OpenSpec.ofChange lineChecksSpec)) lineChecksCard

/-- THE TIED CARD OF 'joinerylaw4.LineBack'. -/
def lineBackCard : Claim7 := { stood := { row := lineBackRow, standIns := [], harness := (true, "c304445caf88d0a1172eb8ddfec229a346378b80dd8b06b7e4c3dd91d78221de"), looks := false }, kinds := [], alts := [], laidByText := true, laidKinds := [.data, .data, .data, .data, .listed, .data, .pinned], laidTests := true, laidLooks := .later }
def LineBackCardSaid : Prop := Claim7.holds Tryz.pinned (.plain (OpenSpec.ofChange lineBackSpec)) lineBackCard

/-- THE TIED CARD OF 'joinerylaw4.LineReads'. -/
def lineReadsCard : Claim7 := { stood := { row := lineReadsRow, standIns := [], harness := (true, "c304445caf88d0a1172eb8ddfec229a346378b80dd8b06b7e4c3dd91d78221de"), looks := false }, kinds := [], alts := [], laidByText := true, laidKinds := [.data, .data, .data, .data, .listed, .data, .pinned], laidTests := true, laidLooks := .later }
def LineReadsCardSaid : Prop := Claim7.holds Tryz.pinned (.plain (OpenSpec.ofChange lineReadsSpec)) lineReadsCard

/-- THE TIED CARD OF 'joinerylaw4.LineOnly'. -/
def lineOnlyCard : Claim7 := { stood := { row := lineOnlyRow, standIns := [], harness := (true, "c304445caf88d0a1172eb8ddfec229a346378b80dd8b06b7e4c3dd91d78221de"), looks := false }, kinds := [], alts := [], laidByText := true, laidKinds := [.data, .data, .data, .data, .listed, .data, .pinned], laidTests := true, laidLooks := .later }
def LineOnlyCardSaid : Prop := Claim7.holds Tryz.pinned (.plain (OpenSpec.ofChange lineOnlySpec)) lineOnlyCard

/-- THE TIED CARD OF 'joinerylaw4.LineNumbers'. -/
def lineNumbersCard : Claim7 := { stood := { row := lineNumbersRow, standIns := [], harness := (true, "c304445caf88d0a1172eb8ddfec229a346378b80dd8b06b7e4c3dd91d78221de"), looks := false }, kinds := [], alts := [], laidByText := true, laidKinds := [.data, .data, .data, .data, .listed, .data, .pinned], laidTests := true, laidLooks := .later }
def LineNumbersCardSaid : Prop := Claim7.holds Tryz.pinned (.plain (OpenSpec.ofChange lineNumbersSpec)) lineNumbersCard

/-- THE TIED CARD OF 'joinerylaw4.LineApart'. -/
def lineApartCard : Claim7 := { stood := { row := lineApartRow, standIns := [], harness := (true, "c304445caf88d0a1172eb8ddfec229a346378b80dd8b06b7e4c3dd91d78221de"), looks := false }, kinds := [], alts := [], laidByText := true, laidKinds := [.data, .data, .data, .data, .listed, .data, .pinned], laidTests := true, laidLooks := .later }
def LineApartCardSaid : Prop := Claim7.holds Tryz.pinned (.plain (OpenSpec.ofChange lineApartSpec)) lineApartCard

/-- THE TIED CARD OF 'joinerylaw4.LineBlanks'. -/
def lineBlanksCard : Claim7 := { stood := { row := lineBlanksRow, standIns := [], harness := (true, "c304445caf88d0a1172eb8ddfec229a346378b80dd8b06b7e4c3dd91d78221de"), looks := false }, kinds := [], alts := [], laidByText := true, laidKinds := [.data, .data, .data, .data, .listed, .data, .pinned], laidTests := true, laidLooks := .later }
def LineBlanksCardSaid : Prop := Claim7.holds Tryz.pinned (.plain (OpenSpec.ofChange lineBlanksSpec)) lineBlanksCard

/-- THE TIED CARD OF 'joinerylaw4.LineFirst'. -/
def lineFirstCard : Claim7 := { stood := { row := lineFirstRow, standIns := [], harness := (true, "c304445caf88d0a1172eb8ddfec229a346378b80dd8b06b7e4c3dd91d78221de"), looks := false }, kinds := [], alts := [], laidByText := true, laidKinds := [.data, .data, .data, .data, .listed, .data, .pinned], laidTests := true, laidLooks := .later }
def LineFirstCardSaid : Prop := Claim7.holds Tryz.pinned (.plain (OpenSpec.ofChange lineFirstSpec)) lineFirstCard

/-- THE TIED CARD OF 'joinerylaw4.LineEight'. -/
def lineEightCard : Claim7 := { stood := { row := lineEightRow, standIns := [], harness := (true, "c304445caf88d0a1172eb8ddfec229a346378b80dd8b06b7e4c3dd91d78221de"), looks := false }, kinds := [], alts := [], laidByText := true, laidKinds := [.data, .data, .data, .data, .listed, .data, .pinned], laidTests := true, laidLooks := .later }
def LineEightCardSaid : Prop := Claim7.holds Tryz.pinned (.plain (OpenSpec.ofChange lineEightSpec)) lineEightCard

/-- THE TIED CARD OF 'joinerylaw4.LineKnown'. -/
def lineKnownCard : Claim7 := { stood := { row := lineKnownRow, standIns := [], harness := (true, "c304445caf88d0a1172eb8ddfec229a346378b80dd8b06b7e4c3dd91d78221de"), looks := false }, kinds := [], alts := [], laidByText := true, laidKinds := [.data, .data, .data, .data, .listed, .data, .pinned], laidTests := true, laidLooks := .later }
def LineKnownCardSaid : Prop := Claim7.holds Tryz.pinned (.plain (OpenSpec.ofChange lineKnownSpec)) lineKnownCard

/-- THE SECOND FORM's CARD OF 'joinerylaw4.LineChecks'. -/
def lineChecksUptoCard : Claim7 := { stood := { row := lineChecksUptoRow, standIns := [], harness := (true, "c304445caf88d0a1172eb8ddfec229a346378b80dd8b06b7e4c3dd91d78221de"), looks := false }, kinds := [], alts := [], laidByText := true, laidKinds := [.data, .data, .data, .data, .listed, .data, .pinned], laidTests := true, laidLooks := .later }
def LineChecksUptoCardSaid : Prop := Claim7.holds Tryz.pinned (.plain (OpenSpec.upto lineChecksSpec)) lineChecksUptoCard

/-- THE SECOND FORM's CARD OF 'joinerylaw4.LineBack'. -/
def lineBackUptoCard : Claim7 := { stood := { row := lineBackUptoRow, standIns := [], harness := (true, "c304445caf88d0a1172eb8ddfec229a346378b80dd8b06b7e4c3dd91d78221de"), looks := false }, kinds := [], alts := [], laidByText := true, laidKinds := [.data, .data, .data, .data, .listed, .data, .pinned], laidTests := true, laidLooks := .later }
def LineBackUptoCardSaid : Prop := Claim7.holds Tryz.pinned (.plain (OpenSpec.upto lineBackSpec)) lineBackUptoCard

/-- THE SECOND FORM's CARD OF 'joinerylaw4.LineReads'. -/
def lineReadsUptoCard : Claim7 := { stood := { row := lineReadsUptoRow, standIns := [], harness := (true, "c304445caf88d0a1172eb8ddfec229a346378b80dd8b06b7e4c3dd91d78221de"), looks := false }, kinds := [], alts := [], laidByText := true, laidKinds := [.data, .data, .data, .data, .listed, .data, .pinned], laidTests := true, laidLooks := .later }
def LineReadsUptoCardSaid : Prop := Claim7.holds Tryz.pinned (.plain (OpenSpec.upto lineReadsSpec)) lineReadsUptoCard

/-- THE SECOND FORM's CARD OF 'joinerylaw4.LineOnly'. -/
def lineOnlyUptoCard : Claim7 := { stood := { row := lineOnlyUptoRow, standIns := [], harness := (true, "c304445caf88d0a1172eb8ddfec229a346378b80dd8b06b7e4c3dd91d78221de"), looks := false }, kinds := [], alts := [], laidByText := true, laidKinds := [.data, .data, .data, .data, .listed, .data, .pinned], laidTests := true, laidLooks := .later }
def LineOnlyUptoCardSaid : Prop := Claim7.holds Tryz.pinned (.plain (OpenSpec.upto lineOnlySpec)) lineOnlyUptoCard

/-- THE SECOND FORM's CARD OF 'joinerylaw4.LineNumbers'. -/
def lineNumbersUptoCard : Claim7 := { stood := { row := lineNumbersUptoRow, standIns := [], harness := (true, "c304445caf88d0a1172eb8ddfec229a346378b80dd8b06b7e4c3dd91d78221de"), looks := false }, kinds := [], alts := [], laidByText := true, laidKinds := [.data, .data, .data, .data, .listed, .data, .pinned], laidTests := true, laidLooks := .later }
def LineNumbersUptoCardSaid : Prop := Claim7.holds Tryz.pinned (.plain (OpenSpec.upto lineNumbersSpec)) lineNumbersUptoCard

/-- THE SECOND FORM's CARD OF 'joinerylaw4.LineApart'. -/
def lineApartUptoCard : Claim7 := { stood := { row := lineApartUptoRow, standIns := [], harness := (true, "c304445caf88d0a1172eb8ddfec229a346378b80dd8b06b7e4c3dd91d78221de"), looks := false }, kinds := [], alts := [], laidByText := true, laidKinds := [.data, .data, .data, .data, .listed, .data, .pinned], laidTests := true, laidLooks := .later }
def LineApartUptoCardSaid : Prop := Claim7.holds Tryz.pinned (.plain (OpenSpec.upto lineApartSpec)) lineApartUptoCard

/-- THE SECOND FORM's CARD OF 'joinerylaw4.LineBlanks'. -/
def lineBlanksUptoCard : Claim7 := { stood := { row := lineBlanksUptoRow, standIns := [], harness := (true, "c304445caf88d0a1172eb8ddfec229a346378b80dd8b06b7e4c3dd91d78221de"), looks := false }, kinds := [], alts := [], laidByText := true, laidKinds := [.data, .data, .data, .data, .listed, .data, .pinned], laidTests := true, laidLooks := .later }
def LineBlanksUptoCardSaid : Prop := Claim7.holds Tryz.pinned (.plain (OpenSpec.upto lineBlanksSpec)) lineBlanksUptoCard

/-- THE SECOND FORM's CARD OF 'joinerylaw4.LineFirst'. -/
def lineFirstUptoCard : Claim7 := { stood := { row := lineFirstUptoRow, standIns := [], harness := (true, "c304445caf88d0a1172eb8ddfec229a346378b80dd8b06b7e4c3dd91d78221de"), looks := false }, kinds := [], alts := [], laidByText := true, laidKinds := [.data, .data, .data, .data, .listed, .data, .pinned], laidTests := true, laidLooks := .later }
def LineFirstUptoCardSaid : Prop := Claim7.holds Tryz.pinned (.plain (OpenSpec.upto lineFirstSpec)) lineFirstUptoCard

/-- THE SECOND FORM's CARD OF 'joinerylaw4.LineEight'. -/
def lineEightUptoCard : Claim7 := { stood := { row := lineEightUptoRow, standIns := [], harness := (true, "c304445caf88d0a1172eb8ddfec229a346378b80dd8b06b7e4c3dd91d78221de"), looks := false }, kinds := [], alts := [], laidByText := true, laidKinds := [.data, .data, .data, .data, .listed, .data, .pinned], laidTests := true, laidLooks := .later }
def LineEightUptoCardSaid : Prop := Claim7.holds Tryz.pinned (.plain (OpenSpec.upto lineEightSpec)) lineEightUptoCard

/-- THE SECOND FORM's CARD OF 'joinerylaw4.LineKnown'. -/
def lineKnownUptoCard : Claim7 := { stood := { row := lineKnownUptoRow, standIns := [], harness := (true, "c304445caf88d0a1172eb8ddfec229a346378b80dd8b06b7e4c3dd91d78221de"), looks := false }, kinds := [], alts := [], laidByText := true, laidKinds := [.data, .data, .data, .data, .listed, .data, .pinned], laidTests := true, laidLooks := .later }
def LineKnownUptoCardSaid : Prop := Claim7.holds Tryz.pinned (.plain (OpenSpec.upto lineKnownSpec)) lineKnownUptoCard
end Rows
end Go.Proofs.YtaiofgmhlfccgaaGreatDoor
