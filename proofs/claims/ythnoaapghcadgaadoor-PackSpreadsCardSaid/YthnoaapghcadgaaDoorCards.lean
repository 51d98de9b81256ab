/-
  DERIVED. GIVEN WITH THE SEED: THE CARDS: each row of YthnoaapghcadgaaDoorRows.lean that lists a variable, with what it lists TIED to the program's text (the seventh form; the later family's looks); each row that meets fmt, with fmt's text TOLD by the authors' own Lean function (tested against real Go, not proved from fmt's source: count such statements apart). THE CARD IS WHAT COUNTS. Prove the row's statement (the work); the ties are given (YthnoaapghcadgaaDoorTie.lean); close each card by the builder's one call (the guide's Derived/Test/ToyasCard.lean, 'card_holds'). Laid BY PROGRAM, IN A SANDBOX (cutbox-door.mjs). By AI agents, Wed Nov 11 2026. No macro, syntax, notation, axiom, sorry.
-/
import Derived.Test.YthnoaapghcadgaaDoorRows
import GoSem.ClaimSeven
namespace Go.Proofs.YthnoaapghcadgaaDoor
namespace Rows

/-- THE TIED CARD OF 'joinerylaw8.PackSpreads'. -/
def packSpreadsCard : Claim7 := { stood := { row := packSpreadsRow, standIns := [], harness := (true, "fa896a1f088b4d7fad240538f6e0dcb1a9e0381e944660626f5e4c563747b3bc"), looks := true }, kinds := [], alts := [], laidByText := true, laidKinds := [.data], laidTests := true, laidLooks := .later }
def PackSpreadsCardSaid : Prop := Claim7.holds Tryd.pinned (.plain (OpenSpec.ofChange packSpreadsSpec)) packSpreadsCard

/-- THE TIED CARD OF 'joinerylaw8.PackAlone'. -/
def packAloneCard : Claim7 := { stood := { row := packAloneRow, standIns := [], harness := (true, "fa896a1f088b4d7fad240538f6e0dcb1a9e0381e944660626f5e4c563747b3bc"), looks := true }, kinds := [], alts := [], laidByText := true, laidKinds := [.data], laidTests := true, laidLooks := .later }
def PackAloneCardSaid : Prop := Claim7.holds Tryd.pinned (.plain (OpenSpec.ofChange packAloneSpec)) packAloneCard

/-- THE TIED CARD OF 'joinerylaw8.PackOne'. -/
def packOneCard : Claim7 := { stood := { row := packOneRow, standIns := [], harness := (true, "fa896a1f088b4d7fad240538f6e0dcb1a9e0381e944660626f5e4c563747b3bc"), looks := true }, kinds := [], alts := [], laidByText := true, laidKinds := [.data], laidTests := true, laidLooks := .later }
def PackOneCardSaid : Prop := Claim7.holds Tryd.pinned (.plain (OpenSpec.ofChange packOneSpec)) packOneCard

/-- THE TIED CARD OF 'joinerylaw8.PackKnown'. -/
def packKnownCard : Claim7 := { stood := { row := packKnownRow, standIns := [], harness := (true, "fa896a1f088b4d7fad240538f6e0dcb1a9e0381e944660626f5e4c563747b3bc"), looks := true }, kinds := [], alts := [], laidByText := true, laidKinds := [.data], laidTests := true, laidLooks := .later }
def PackKnownCardSaid : Prop := Claim7.holds Tryd.pinned (.plain (OpenSpec.ofChange packKnownSpec)) packKnownCard

/-- THE TIED CARD OF 'joinerylaw8.PackGrows'. -/
def packGrowsCard : Claim7 := { stood := { row := packGrowsRow, standIns := [], harness := (true, "fa896a1f088b4d7fad240538f6e0dcb1a9e0381e944660626f5e4c563747b3bc"), looks := true }, kinds := [], alts := [], laidByText := true, laidKinds := [.data], laidTests := true, laidLooks := .later }
def PackGrowsCardSaid : Prop := Claim7.holds Tryd.pinned (.plain (OpenSpec.ofChange packGrowsSpec)) packGrowsCard

/-- THE SECOND FORM's CARD OF 'joinerylaw8.PackSpreads'. -/
def packSpreadsUptoCard : Claim7 := { stood := { row := packSpreadsUptoRow, standIns := [], harness := (true, "fa896a1f088b4d7fad240538f6e0dcb1a9e0381e944660626f5e4c563747b3bc"), looks := true }, kinds := [], alts := [], laidByText := true, laidKinds := [.data], laidTests := true, laidLooks := .later }
def PackSpreadsUptoCardSaid : Prop := Claim7.holds Tryd.pinned (.plain (OpenSpec.upto packSpreadsSpec)) packSpreadsUptoCard

/-- THE SECOND FORM's CARD OF 'joinerylaw8.PackAlone'. -/
def packAloneUptoCard : Claim7 := { stood := { row := packAloneUptoRow, standIns := [], harness := (true, "fa896a1f088b4d7fad240538f6e0dcb1a9e0381e944660626f5e4c563747b3bc"), looks := true }, kinds := [], alts := [], laidByText := true, laidKinds := [.data], laidTests := true, laidLooks := .later }
def PackAloneUptoCardSaid : Prop := Claim7.holds Tryd.pinned (.plain (OpenSpec.upto packAloneSpec)) packAloneUptoCard

/-- THE SECOND FORM's CARD OF 'joinerylaw8.PackOne'. -/
def packOneUptoCard : Claim7 := { stood := { row := packOneUptoRow, standIns := [], harness := (true, "fa896a1f088b4d7fad240538f6e0dcb1a9e0381e944660626f5e4c563747b3bc"), looks := true }, kinds := [], alts := [], laidByText := true, laidKinds := [.data], laidTests := true, laidLooks := .later }
def PackOneUptoCardSaid : Prop := Claim7.holds Tryd.pinned (.plain (OpenSpec.upto packOneSpec)) packOneUptoCard

/-- THE SECOND FORM's CARD OF 'joinerylaw8.PackKnown'. -/
def packKnownUptoCard : Claim7 := { stood := { row := packKnownUptoRow, standIns := [], harness := (true, "fa896a1f088b4d7fad240538f6e0dcb1a9e0381e944660626f5e4c563747b3bc"), looks := true }, kinds := [], alts := [], laidByText := true, laidKinds := [.data], laidTests := true, laidLooks := .later }
def PackKnownUptoCardSaid : Prop := Claim7.holds Tryd.pinned (.plain (OpenSpec.upto packKnownSpec)) packKnownUptoCard

/-- THE SECOND FORM's CARD OF 'joinerylaw8.PackGrows'. -/
def packGrowsUptoCard : Claim7 := { stood := { row := packGrowsUptoRow, standIns := [], harness := (true, "fa896a1f088b4d7fad240538f6e0dcb1a9e0381e944660626f5e4c563747b3bc"), looks := true }, kinds := [], alts := [], laidByText := true, laidKinds := [.data], laidTests := true, laidLooks := .later }
def PackGrowsUptoCardSaid : Prop := Claim7.holds Tryd.pinned (.plain (OpenSpec.upto packGrowsSpec)) packGrowsUptoCard
end Rows
end Go.Proofs.YthnoaapghcadgaaDoor
