/-
  DERIVED. GIVEN WITH THE SEED: THE CARDS: each row of YtjkbgcgljnldeaaGreatDoorRows.lean that lists a variable, with what it lists TIED to the program's text (the seventh form; the later family's looks); each row that meets fmt, with fmt's text TOLD by the authors' own Lean function (tested against real Go, not proved from fmt's source: count such statements apart). THE CARD IS WHAT COUNTS. Prove the row's statement (the work); the ties are given (YtjkbgcgljnldeaaGreatDoorTie.lean); close each card by the builder's one call (the guide's Derived/Test/ToyasCard.lean, 'card_holds'). Laid BY PROGRAM, IN A SANDBOX (cutbox-door.mjs). By AI agents, Wed Nov 11 2026. No macro, syntax, notation, axiom, sorry.
-/
import Derived.Test.YtjkbgcgljnldeaaGreatDoorRows
import GoSem.ClaimSeven
namespace Go.Proofs.YtjkbgcgljnldeaaGreatDoor
namespace Rows

/-- THE TIED CARD OF 'farandolelaw33.ServiceParse'. -/
def serviceParseCard : Claim7 := { stood := { row := serviceParseRow, standIns := [], harness := (true, "b18f9cdbc4b8fdf7debfa3439e6aac50da26924336a3cc5c01cdde5858bb05e5"), looks := true }, kinds := [], alts := [], laidByText := true, laidKinds := [.data, .data, .data, .data, .pinned], laidTests := true, laidLooks := .later }
def ServiceParseCardSaid : Prop := Claim7.holds Tryz.pinned (.plain (OpenSpec.ofChange serviceParseSpec)) serviceParseCard

/-- THE TIED CARD OF 'farandolelaw33.ServicePrint'. -/
def servicePrintCard : Claim7 := { stood := { row := servicePrintRow, standIns := [], harness := (true, "b18f9cdbc4b8fdf7debfa3439e6aac50da26924336a3cc5c01cdde5858bb05e5"), looks := true }, kinds := [], alts := [], laidByText := true, laidKinds := [.data, .data, .data, .data, .pinned], laidTests := true, laidLooks := .later }
def ServicePrintCardSaid : Prop := Claim7.holds Tryz.pinned (.plain (OpenSpec.ofChange servicePrintSpec)) servicePrintCard

/-- THE TIED CARD OF 'farandolelaw33.ServiceEqual'. -/
def serviceEqualCard : Claim7 := { stood := { row := serviceEqualRow, standIns := [], harness := (true, "b18f9cdbc4b8fdf7debfa3439e6aac50da26924336a3cc5c01cdde5858bb05e5"), looks := true }, kinds := [], alts := [], laidByText := true, laidKinds := [.data, .data, .data, .data, .pinned], laidTests := true, laidLooks := .later }
def ServiceEqualCardSaid : Prop := Claim7.holds Tryz.pinned (.plain (OpenSpec.ofChange serviceEqualSpec)) serviceEqualCard

/-- THE TIED CARD OF 'farandolelaw33.ServicePrecedence'. -/
def servicePrecedenceCard : Claim7 := { stood := { row := servicePrecedenceRow, standIns := [], harness := (true, "b18f9cdbc4b8fdf7debfa3439e6aac50da26924336a3cc5c01cdde5858bb05e5"), looks := true }, kinds := [], alts := [], laidByText := true, laidKinds := [.data, .data, .data, .data, .pinned], laidTests := true, laidLooks := .later }
def ServicePrecedenceCardSaid : Prop := Claim7.holds Tryz.pinned (.plain (OpenSpec.ofChange servicePrecedenceSpec)) servicePrecedenceCard

/-- THE TIED CARD OF 'farandolelaw33.ServiceBlanks'. -/
def serviceBlanksCard : Claim7 := { stood := { row := serviceBlanksRow, standIns := [], harness := (true, "b18f9cdbc4b8fdf7debfa3439e6aac50da26924336a3cc5c01cdde5858bb05e5"), looks := true }, kinds := [], alts := [], laidByText := true, laidKinds := [.data, .data, .data, .data, .pinned], laidTests := true, laidLooks := .later }
def ServiceBlanksCardSaid : Prop := Claim7.holds Tryz.pinned (.plain (OpenSpec.ofChange serviceBlanksSpec)) serviceBlanksCard

/-- THE TIED CARD OF 'farandolelaw33.ServiceParens'. -/
def serviceParensCard : Claim7 := { stood := { row := serviceParensRow, standIns := [], harness := (true, "b18f9cdbc4b8fdf7debfa3439e6aac50da26924336a3cc5c01cdde5858bb05e5"), looks := true }, kinds := [], alts := [], laidByText := true, laidKinds := [.data, .data, .data, .data, .pinned], laidTests := true, laidLooks := .later }
def ServiceParensCardSaid : Prop := Claim7.holds Tryz.pinned (.plain (OpenSpec.ofChange serviceParensSpec)) serviceParensCard

/-- THE TIED CARD OF 'farandolelaw33.ServiceOrder'. -/
def serviceOrderCard : Claim7 := { stood := { row := serviceOrderRow, standIns := [], harness := (true, "b18f9cdbc4b8fdf7debfa3439e6aac50da26924336a3cc5c01cdde5858bb05e5"), looks := true }, kinds := [], alts := [], laidByText := true, laidKinds := [.data, .data, .data, .data, .pinned], laidTests := true, laidLooks := .later }
def ServiceOrderCardSaid : Prop := Claim7.holds Tryz.pinned (.plain (OpenSpec.ofChange serviceOrderSpec)) serviceOrderCard

/-- THE TIED CARD OF 'farandolelaw33.ServiceFirst'. -/
def serviceFirstCard : Claim7 := { stood := { row := serviceFirstRow, standIns := [], harness := (true, "b18f9cdbc4b8fdf7debfa3439e6aac50da26924336a3cc5c01cdde5858bb05e5"), looks := true }, kinds := [], alts := [], laidByText := true, laidKinds := [.data, .data, .data, .data, .pinned], laidTests := true, laidLooks := .later }
def ServiceFirstCardSaid : Prop := Claim7.holds Tryz.pinned (.plain (OpenSpec.ofChange serviceFirstSpec)) serviceFirstCard

/-- THE SECOND FORM's CARD OF 'farandolelaw33.ServiceParse'. -/
def serviceParseUptoCard : Claim7 := { stood := { row := serviceParseUptoRow, standIns := [], harness := (true, "b18f9cdbc4b8fdf7debfa3439e6aac50da26924336a3cc5c01cdde5858bb05e5"), looks := true }, kinds := [], alts := [], laidByText := true, laidKinds := [.data, .data, .data, .data, .pinned], laidTests := true, laidLooks := .later }
def ServiceParseUptoCardSaid : Prop := Claim7.holds Tryz.pinned (.plain (OpenSpec.upto serviceParseSpec)) serviceParseUptoCard

/-- THE SECOND FORM's CARD OF 'farandolelaw33.ServicePrint'. -/
def servicePrintUptoCard : Claim7 := { stood := { row := servicePrintUptoRow, standIns := [], harness := (true, "b18f9cdbc4b8fdf7debfa3439e6aac50da26924336a3cc5c01cdde5858bb05e5"), looks := true }, kinds := [], alts := [], laidByText := true, laidKinds := [.data, .data, .data, .data, .pinned], laidTests := true, laidLooks := .later }
def ServicePrintUptoCardSaid : Prop := Claim7.holds Tryz.pinned (.plain (OpenSpec.upto servicePrintSpec)) servicePrintUptoCard

/-- THE SECOND FORM's CARD OF 'farandolelaw33.ServiceEqual'. -/
def serviceEqualUptoCard : Claim7 := { stood := { row := serviceEqualUptoRow, standIns := [], harness := (true, "b18f9cdbc4b8fdf7debfa3439e6aac50da26924336a3cc5c01cdde5858bb05e5"), looks := true }, kinds := [], alts := [], laidByText := true, laidKinds := [.data, .data, .data, .data, .pinned], laidTests := true, laidLooks := .later }
def ServiceEqualUptoCardSaid : Prop := Claim7.holds Tryz.pinned (.plain (OpenSpec.upto serviceEqualSpec)) serviceEqualUptoCard

/-- THE SECOND FORM's CARD OF 'farandolelaw33.ServicePrecedence'. -/
def servicePrecedenceUptoCard : Claim7 := { stood := { row := servicePrecedenceUptoRow, standIns := [], harness := (true, "b18f9cdbc4b8fdf7debfa3439e6aac50da26924336a3cc5c01cdde5858bb05e5"), looks := true }, kinds := [], alts := [], laidByText := true, laidKinds := [.data, .data, .data, .data, .pinned], laidTests := true, laidLooks := .later }
def ServicePrecedenceUptoCardSaid : Prop := Claim7.holds Tryz.pinned (.plain (OpenSpec.upto servicePrecedenceSpec)) servicePrecedenceUptoCard

/-- THE SECOND FORM's CARD OF 'farandolelaw33.ServiceBlanks'. -/
def serviceBlanksUptoCard : Claim7 := { stood := { row := serviceBlanksUptoRow, standIns := [], harness := (true, "b18f9cdbc4b8fdf7debfa3439e6aac50da26924336a3cc5c01cdde5858bb05e5"), looks := true }, kinds := [], alts := [], laidByText := true, laidKinds := [.data, .data, .data, .data, .pinned], laidTests := true, laidLooks := .later }
def ServiceBlanksUptoCardSaid : Prop := Claim7.holds Tryz.pinned (.plain (OpenSpec.upto serviceBlanksSpec)) serviceBlanksUptoCard

/-- THE SECOND FORM's CARD OF 'farandolelaw33.ServiceParens'. -/
def serviceParensUptoCard : Claim7 := { stood := { row := serviceParensUptoRow, standIns := [], harness := (true, "b18f9cdbc4b8fdf7debfa3439e6aac50da26924336a3cc5c01cdde5858bb05e5"), looks := true }, kinds := [], alts := [], laidByText := true, laidKinds := [.data, .data, .data, .data, .pinned], laidTests := true, laidLooks := .later }
def ServiceParensUptoCardSaid : Prop := Claim7.holds Tryz.pinned (.plain (OpenSpec.upto serviceParensSpec)) serviceParensUptoCard

/-- THE SECOND FORM's CARD OF 'farandolelaw33.ServiceOrder'. -/
def serviceOrderUptoCard : Claim7 := { stood := { row := serviceOrderUptoRow, standIns := [], harness := (true, "b18f9cdbc4b8fdf7debfa3439e6aac50da26924336a3cc5c01cdde5858bb05e5"), looks := true }, kinds := [], alts := [], laidByText := true, laidKinds := [.data, .data, .data, .data, .pinned], laidTests := true, laidLooks := .later }
def ServiceOrderUptoCardSaid : Prop := Claim7.holds Tryz.pinned (.plain (OpenSpec.upto serviceOrderSpec)) serviceOrderUptoCard

/-- THE SECOND FORM's CARD OF 'farandolelaw33.ServiceFirst'. -/
def serviceFirstUptoCard : Claim7 := { stood := { row := serviceFirstUptoRow, standIns := [], harness := (true, "b18f9cdbc4b8fdf7debfa3439e6aac50da26924336a3cc5c01cdde5858bb05e5"), looks := true }, kinds := [], alts := [], laidByText := true, laidKinds := [.data, .data, .data, .data, .pinned], laidTests := true, laidLooks := .later }
def ServiceFirstUptoCardSaid : Prop := Claim7.holds Tryz.pinned (.plain (OpenSpec.upto serviceFirstSpec)) serviceFirstUptoCard
end Rows
end Go.Proofs.YtjkbgcgljnldeaaGreatDoor
