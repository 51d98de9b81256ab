/-
  DERIVED. GIVEN WITH THE SEED: THE CARDS: each row of YtealabaiamaojaaGreatDoorRows.lean that lists a variable, with what it lists TIED to the program's text (the seventh form; the later family's looks); each row that meets fmt, with fmt's text TOLD by the authors' own Lean function (tested against real Go, not proved from fmt's source: count such statements apart). THE CARD IS WHAT COUNTS. Prove the row's statement (the work); the ties are given (YtealabaiamaojaaGreatDoorTie.lean); close each card by the builder's one call (the guide's Derived/Test/ToyasCard.lean, 'card_holds'). Laid BY PROGRAM, IN A SANDBOX (cutbox-door.mjs). By AI agents, Wed Nov 11 2026. No macro, syntax, notation, axiom, sorry.
-/
import Derived.Test.YtealabaiamaojaaGreatDoorRows
import GoSem.ClaimSeven
namespace Go.Proofs.YtealabaiamaojaaGreatDoor
namespace Rows

/-- THE TIED CARD OF 'joinerylaw9.TapeOwn'. -/
def tapeOwnCard : Claim7 := { stood := { row := tapeOwnRow, standIns := [], harness := (true, "99064fa32f4de08ce7c91aa738106aadc9b1a04dac6017f5aa7f66b09045a229"), looks := true }, kinds := [], alts := [], laidByText := true, laidKinds := [.data, .data, .data, .data, .listed, .data, .pinned], laidTests := true, laidLooks := .later }
def TapeOwnCardSaid : Prop := Claim7.holds Tryz.pinned (.plain (OpenSpec.ofChange tapeOwnSpec)) tapeOwnCard

/-- THE TIED CARD OF 'joinerylaw9.TapeLines'. -/
def tapeLinesCard : Claim7 := { stood := { row := tapeLinesRow, standIns := [], harness := (true, "99064fa32f4de08ce7c91aa738106aadc9b1a04dac6017f5aa7f66b09045a229"), looks := true }, kinds := [], alts := [], laidByText := true, laidKinds := [.data, .data, .data, .data, .listed, .data, .pinned], laidTests := true, laidLooks := .later }
def TapeLinesCardSaid : Prop := Claim7.holds Tryz.pinned (.plain (OpenSpec.ofChange tapeLinesSpec)) tapeLinesCard

/-- THE TIED CARD OF 'joinerylaw9.TapeAgain'. -/
def tapeAgainCard : Claim7 := { stood := { row := tapeAgainRow, standIns := [], harness := (true, "99064fa32f4de08ce7c91aa738106aadc9b1a04dac6017f5aa7f66b09045a229"), looks := true }, kinds := [], alts := [], laidByText := true, laidKinds := [.data, .data, .data, .data, .listed, .data, .pinned], laidTests := true, laidLooks := .later }
def TapeAgainCardSaid : Prop := Claim7.holds Tryz.pinned (.plain (OpenSpec.ofChange tapeAgainSpec)) tapeAgainCard

/-- THE TIED CARD OF 'joinerylaw9.TapeMore'. -/
def tapeMoreCard : Claim7 := { stood := { row := tapeMoreRow, standIns := [], harness := (true, "99064fa32f4de08ce7c91aa738106aadc9b1a04dac6017f5aa7f66b09045a229"), looks := true }, kinds := [], alts := [], laidByText := true, laidKinds := [.data, .data, .data, .data, .listed, .data, .pinned], laidTests := true, laidLooks := .later }
def TapeMoreCardSaid : Prop := Claim7.holds Tryz.pinned (.plain (OpenSpec.ofChange tapeMoreSpec)) tapeMoreCard

/-- THE TIED CARD OF 'joinerylaw9.TapePlays'. -/
def tapePlaysCard : Claim7 := { stood := { row := tapePlaysRow, standIns := [], harness := (true, "99064fa32f4de08ce7c91aa738106aadc9b1a04dac6017f5aa7f66b09045a229"), looks := true }, kinds := [], alts := [], laidByText := true, laidKinds := [.data, .data, .data, .data, .listed, .data, .pinned], laidTests := true, laidLooks := .later }
def TapePlaysCardSaid : Prop := Claim7.holds Tryz.pinned (.plain (OpenSpec.ofChange tapePlaysSpec)) tapePlaysCard

/-- THE TIED CARD OF 'joinerylaw9.TapeKeeps'. -/
def tapeKeepsCard : Claim7 := { stood := { row := tapeKeepsRow, standIns := [], harness := (true, "99064fa32f4de08ce7c91aa738106aadc9b1a04dac6017f5aa7f66b09045a229"), looks := true }, kinds := [], alts := [], laidByText := true, laidKinds := [.data, .data, .data, .data, .listed, .data, .pinned], laidTests := true, laidLooks := .later }
def TapeKeepsCardSaid : Prop := Claim7.holds Tryz.pinned (.plain (OpenSpec.ofChange tapeKeepsSpec)) tapeKeepsCard

/-- THE TIED CARD OF 'joinerylaw9.TapeSyncs'. -/
def tapeSyncsCard : Claim7 := { stood := { row := tapeSyncsRow, standIns := [], harness := (true, "99064fa32f4de08ce7c91aa738106aadc9b1a04dac6017f5aa7f66b09045a229"), looks := true }, kinds := [], alts := [], laidByText := true, laidKinds := [.data, .data, .data, .data, .listed, .data, .pinned], laidTests := true, laidLooks := .later }
def TapeSyncsCardSaid : Prop := Claim7.holds Tryz.pinned (.plain (OpenSpec.ofChange tapeSyncsSpec)) tapeSyncsCard

/-- THE TIED CARD OF 'joinerylaw9.TapeFront'. -/
def tapeFrontCard : Claim7 := { stood := { row := tapeFrontRow, standIns := [], harness := (true, "99064fa32f4de08ce7c91aa738106aadc9b1a04dac6017f5aa7f66b09045a229"), looks := true }, kinds := [], alts := [], laidByText := true, laidKinds := [.data, .data, .data, .data, .listed, .data, .pinned], laidTests := true, laidLooks := .later }
def TapeFrontCardSaid : Prop := Claim7.holds Tryz.pinned (.plain (OpenSpec.ofChange tapeFrontSpec)) tapeFrontCard

/-- THE SECOND FORM's CARD OF 'joinerylaw9.TapeOwn'. -/
def tapeOwnUptoCard : Claim7 := { stood := { row := tapeOwnUptoRow, standIns := [], harness := (true, "99064fa32f4de08ce7c91aa738106aadc9b1a04dac6017f5aa7f66b09045a229"), looks := true }, kinds := [], alts := [], laidByText := true, laidKinds := [.data, .data, .data, .data, .listed, .data, .pinned], laidTests := true, laidLooks := .later }
def TapeOwnUptoCardSaid : Prop := Claim7.holds Tryz.pinned (.plain (OpenSpec.upto tapeOwnSpec)) tapeOwnUptoCard

/-- THE SECOND FORM's CARD OF 'joinerylaw9.TapeLines'. -/
def tapeLinesUptoCard : Claim7 := { stood := { row := tapeLinesUptoRow, standIns := [], harness := (true, "99064fa32f4de08ce7c91aa738106aadc9b1a04dac6017f5aa7f66b09045a229"), looks := true }, kinds := [], alts := [], laidByText := true, laidKinds := [.data, .data, .data, .data, .listed, .data, .pinned], laidTests := true, laidLooks := .later }
def TapeLinesUptoCardSaid : Prop := Claim7.holds Tryz.pinned (.plain (OpenSpec.upto tapeLinesSpec)) tapeLinesUptoCard

/-- THE SECOND FORM's CARD OF 'joinerylaw9.TapeAgain'. -/
def tapeAgainUptoCard : Claim7 := { stood := { row := tapeAgainUptoRow, standIns := [], harness := (true, "99064fa32f4de08ce7c91aa738106aadc9b1a04dac6017f5aa7f66b09045a229"), looks := true }, kinds := [], alts := [], laidByText := true, laidKinds := [.data, .data, .data, .data, .listed, .data, .pinned], laidTests := true, laidLooks := .later }
def TapeAgainUptoCardSaid : Prop := Claim7.holds Tryz.pinned (.plain (OpenSpec.upto tapeAgainSpec)) tapeAgainUptoCard

/-- THE SECOND FORM's CARD OF 'joinerylaw9.TapeMore'. -/
def tapeMoreUptoCard : Claim7 := { stood := { row := tapeMoreUptoRow, standIns := [], harness := (true, "99064fa32f4de08ce7c91aa738106aadc9b1a04dac6017f5aa7f66b09045a229"), looks := true }, kinds := [], alts := [], laidByText := true, laidKinds := [.data, .data, .data, .data, .listed, .data, .pinned], laidTests := true, laidLooks := .later }
def TapeMoreUptoCardSaid : Prop := Claim7.holds Tryz.pinned (.plain (OpenSpec.upto tapeMoreSpec)) tapeMoreUptoCard

/-- THE SECOND FORM's CARD OF 'joinerylaw9.TapePlays'. -/
def tapePlaysUptoCard : Claim7 := { stood := { row := tapePlaysUptoRow, standIns := [], harness := (true, "99064fa32f4de08ce7c91aa738106aadc9b1a04dac6017f5aa7f66b09045a229"), looks := true }, kinds := [], alts := [], laidByText := true, laidKinds := [.data, .data, .data, .data, .listed, .data, .pinned], laidTests := true, laidLooks := .later }
def TapePlaysUptoCardSaid : Prop := Claim7.holds Tryz.pinned (.plain (OpenSpec.upto tapePlaysSpec)) tapePlaysUptoCard

/-- THE SECOND FORM's CARD OF 'joinerylaw9.TapeKeeps'. -/
def tapeKeepsUptoCard : Claim7 := { stood := { row := tapeKeepsUptoRow, standIns := [], harness := (true, "99064fa32f4de08ce7c91aa738106aadc9b1a04dac6017f5aa7f66b09045a229"), looks := true }, kinds := [], alts := [], laidByText := true, laidKinds := [.data, .data, .data, .data, .listed, .data, .pinned], laidTests := true, laidLooks := .later }
def TapeKeepsUptoCardSaid : Prop := Claim7.holds Tryz.pinned (.plain (OpenSpec.upto tapeKeepsSpec)) tapeKeepsUptoCard

/-- THE SECOND FORM's CARD OF 'joinerylaw9.TapeSyncs'. -/
def tapeSyncsUptoCard : Claim7 := { stood := { row := tapeSyncsUptoRow, standIns := [], harness := (true, "99064fa32f4de08ce7c91aa738106aadc9b1a04dac6017f5aa7f66b09045a229"), looks := true }, kinds := [], alts := [], laidByText := true, laidKinds := [.data, .data, .data, .data, .listed, .data, .pinned], laidTests := true, laidLooks := .later }
def TapeSyncsUptoCardSaid : Prop := Claim7.holds Tryz.pinned (.plain (OpenSpec.upto tapeSyncsSpec)) tapeSyncsUptoCard

/-- THE SECOND FORM's CARD OF 'joinerylaw9.TapeFront'. -/
def tapeFrontUptoCard : Claim7 := { stood := { row := tapeFrontUptoRow, standIns := [], harness := (true, "99064fa32f4de08ce7c91aa738106aadc9b1a04dac6017f5aa7f66b09045a229"), looks := true }, kinds := [], alts := [], laidByText := true, laidKinds := [.data, .data, .data, .data, .listed, .data, .pinned], laidTests := true, laidLooks := .later }
def TapeFrontUptoCardSaid : Prop := Claim7.holds Tryz.pinned (.plain (OpenSpec.upto tapeFrontSpec)) tapeFrontUptoCard
end Rows
end Go.Proofs.YtealabaiamaojaaGreatDoor
