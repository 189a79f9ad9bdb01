/-
  DERIVED. GIVEN WITH THE SEED: THE CARDS: each row of YtocjjlmnkpnjbaaGreatDoorRows.lean that lists a variable, with what it lists TIED to the program's text (the seventh form; the later family's looks); each row that meets fmt, with fmt's text TOLD by the authors' own Lean function (tested against real Go, not proved from fmt's source: count such statements apart). THE CARD IS WHAT COUNTS. Prove the row's statement (the work); the ties are given (YtocjjlmnkpnjbaaGreatDoorTie.lean); close each card by the builder's one call (the guide's Derived/Test/ToyasCard.lean, 'card_holds'). Laid BY PROGRAM, IN A SANDBOX (cutbox-door.mjs). By AI agents, Wed Nov 11 2026. No macro, syntax, notation, axiom, sorry.
-/
import Derived.Test.YtocjjlmnkpnjbaaGreatDoorRows
import GoSem.ClaimSeven
namespace Go.Proofs.YtocjjlmnkpnjbaaGreatDoor
namespace Rows

/-- THE TIED CARD OF 'farandolelaw35.CodeValid'. -/
def codeValidCard : Claim7 := { stood := { row := codeValidRow, standIns := [], harness := (true, "e0903dcda5d4b663ff7c52cbc7605ca109b013e2866bd22936ba45d41ed259e5"), looks := true }, kinds := [], alts := [], laidByText := true, laidKinds := [.data, .data, .data, .sentinel, .sentinel], laidTests := true, laidLooks := .later }
def CodeValidCardSaid : Prop := Claim7.holds Tryz.pinned (.plain (OpenSpec.ofChange codeValidSpec)) codeValidCard

/-- THE TIED CARD OF 'farandolelaw35.CodeShow'. -/
def codeShowCard : Claim7 := { stood := { row := codeShowRow, standIns := [], harness := (true, "e0903dcda5d4b663ff7c52cbc7605ca109b013e2866bd22936ba45d41ed259e5"), looks := true }, kinds := [], alts := [], laidByText := true, laidKinds := [.data, .data, .data, .sentinel, .sentinel], laidTests := true, laidLooks := .later }
def CodeShowCardSaid : Prop := Claim7.holds Tryz.pinned (.plain (OpenSpec.ofChange codeShowSpec)) codeShowCard

/-- THE TIED CARD OF 'farandolelaw35.CodeEncode'. -/
def codeEncodeCard : Claim7 := { stood := { row := codeEncodeRow, standIns := [], harness := (true, "e0903dcda5d4b663ff7c52cbc7605ca109b013e2866bd22936ba45d41ed259e5"), looks := true }, kinds := [], alts := [], laidByText := true, laidKinds := [.data, .data, .data, .sentinel, .sentinel], laidTests := true, laidLooks := .later }
def CodeEncodeCardSaid : Prop := Claim7.holds Tryz.pinned (.plain (OpenSpec.ofChange codeEncodeSpec)) codeEncodeCard

/-- THE TIED CARD OF 'farandolelaw35.CodeDecode'. -/
def codeDecodeCard : Claim7 := { stood := { row := codeDecodeRow, standIns := [], harness := (true, "e0903dcda5d4b663ff7c52cbc7605ca109b013e2866bd22936ba45d41ed259e5"), looks := true }, kinds := [], alts := [], laidByText := true, laidKinds := [.data, .data, .data, .sentinel, .sentinel], laidTests := true, laidLooks := .later }
def CodeDecodeCardSaid : Prop := Claim7.holds Tryz.pinned (.plain (OpenSpec.ofChange codeDecodeSpec)) codeDecodeCard

/-- THE TIED CARD OF 'farandolelaw35.CodeList'. -/
def codeListCard : Claim7 := { stood := { row := codeListRow, standIns := [], harness := (true, "e0903dcda5d4b663ff7c52cbc7605ca109b013e2866bd22936ba45d41ed259e5"), looks := true }, kinds := [], alts := [], laidByText := true, laidKinds := [.data, .data, .data, .sentinel, .sentinel], laidTests := true, laidLooks := .later }
def CodeListCardSaid : Prop := Claim7.holds Tryz.pinned (.plain (OpenSpec.ofChange codeListSpec)) codeListCard

/-- THE TIED CARD OF 'farandolelaw35.CodeDiffer'. -/
def codeDifferCard : Claim7 := { stood := { row := codeDifferRow, standIns := [], harness := (true, "e0903dcda5d4b663ff7c52cbc7605ca109b013e2866bd22936ba45d41ed259e5"), looks := true }, kinds := [], alts := [], laidByText := true, laidKinds := [.data, .data, .data, .sentinel, .sentinel], laidTests := true, laidLooks := .later }
def CodeDifferCardSaid : Prop := Claim7.holds Tryz.pinned (.plain (OpenSpec.ofChange codeDifferSpec)) codeDifferCard

/-- THE SECOND FORM's CARD OF 'farandolelaw35.CodeValid'. -/
def codeValidUptoCard : Claim7 := { stood := { row := codeValidUptoRow, standIns := [], harness := (true, "e0903dcda5d4b663ff7c52cbc7605ca109b013e2866bd22936ba45d41ed259e5"), looks := true }, kinds := [], alts := [], laidByText := true, laidKinds := [.data, .data, .data, .sentinel, .sentinel], laidTests := true, laidLooks := .later }
def CodeValidUptoCardSaid : Prop := Claim7.holds Tryz.pinned (.plain (OpenSpec.upto codeValidSpec)) codeValidUptoCard

/-- THE SECOND FORM's CARD OF 'farandolelaw35.CodeShow'. -/
def codeShowUptoCard : Claim7 := { stood := { row := codeShowUptoRow, standIns := [], harness := (true, "e0903dcda5d4b663ff7c52cbc7605ca109b013e2866bd22936ba45d41ed259e5"), looks := true }, kinds := [], alts := [], laidByText := true, laidKinds := [.data, .data, .data, .sentinel, .sentinel], laidTests := true, laidLooks := .later }
def CodeShowUptoCardSaid : Prop := Claim7.holds Tryz.pinned (.plain (OpenSpec.upto codeShowSpec)) codeShowUptoCard

/-- THE SECOND FORM's CARD OF 'farandolelaw35.CodeEncode'. -/
def codeEncodeUptoCard : Claim7 := { stood := { row := codeEncodeUptoRow, standIns := [], harness := (true, "e0903dcda5d4b663ff7c52cbc7605ca109b013e2866bd22936ba45d41ed259e5"), looks := true }, kinds := [], alts := [], laidByText := true, laidKinds := [.data, .data, .data, .sentinel, .sentinel], laidTests := true, laidLooks := .later }
def CodeEncodeUptoCardSaid : Prop := Claim7.holds Tryz.pinned (.plain (OpenSpec.upto codeEncodeSpec)) codeEncodeUptoCard

/-- THE SECOND FORM's CARD OF 'farandolelaw35.CodeDecode'. -/
def codeDecodeUptoCard : Claim7 := { stood := { row := codeDecodeUptoRow, standIns := [], harness := (true, "e0903dcda5d4b663ff7c52cbc7605ca109b013e2866bd22936ba45d41ed259e5"), looks := true }, kinds := [], alts := [], laidByText := true, laidKinds := [.data, .data, .data, .sentinel, .sentinel], laidTests := true, laidLooks := .later }
def CodeDecodeUptoCardSaid : Prop := Claim7.holds Tryz.pinned (.plain (OpenSpec.upto codeDecodeSpec)) codeDecodeUptoCard

/-- THE SECOND FORM's CARD OF 'farandolelaw35.CodeList'. -/
def codeListUptoCard : Claim7 := { stood := { row := codeListUptoRow, standIns := [], harness := (true, "e0903dcda5d4b663ff7c52cbc7605ca109b013e2866bd22936ba45d41ed259e5"), looks := true }, kinds := [], alts := [], laidByText := true, laidKinds := [.data, .data, .data, .sentinel, .sentinel], laidTests := true, laidLooks := .later }
def CodeListUptoCardSaid : Prop := Claim7.holds Tryz.pinned (.plain (OpenSpec.upto codeListSpec)) codeListUptoCard

/-- THE SECOND FORM's CARD OF 'farandolelaw35.CodeDiffer'. -/
def codeDifferUptoCard : Claim7 := { stood := { row := codeDifferUptoRow, standIns := [], harness := (true, "e0903dcda5d4b663ff7c52cbc7605ca109b013e2866bd22936ba45d41ed259e5"), looks := true }, kinds := [], alts := [], laidByText := true, laidKinds := [.data, .data, .data, .sentinel, .sentinel], laidTests := true, laidLooks := .later }
def CodeDifferUptoCardSaid : Prop := Claim7.holds Tryz.pinned (.plain (OpenSpec.upto codeDifferSpec)) codeDifferUptoCard
end Rows
end Go.Proofs.YtocjjlmnkpnjbaaGreatDoor
