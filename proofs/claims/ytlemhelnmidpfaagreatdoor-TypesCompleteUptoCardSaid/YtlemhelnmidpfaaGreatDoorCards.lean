/-
  DERIVED. GIVEN WITH THE SEED: THE CARDS: each row of YtlemhelnmidpfaaGreatDoorRows.lean that lists a variable, with what it lists TIED to the program's text (the seventh form; the later family's looks); each row that meets fmt, with fmt's text TOLD by the authors' own Lean function (tested against real Go, not proved from fmt's source: count such statements apart). THE CARD IS WHAT COUNTS. Prove the row's statement (the work); the ties are given (YtlemhelnmidpfaaGreatDoorTie.lean); close each card by the builder's one call (the guide's Derived/Test/ToyasCard.lean, 'card_holds'). Laid BY PROGRAM, IN A SANDBOX (cutbox-door.mjs). By AI agents, Wed Nov 11 2026. No macro, syntax, notation, axiom, sorry.
-/
import Derived.Test.YtlemhelnmidpfaaGreatDoorRows
import GoSem.ClaimSeven
namespace Go.Proofs.YtlemhelnmidpfaaGreatDoor
namespace Rows

/-- THE TIED CARD OF 'farandolelaw36.CompileParts'. -/
def compilePartsCard : Claim7 := { stood := { row := compilePartsRow, standIns := [], harness := (true, "87ea50258b8265b99990d4b3a2e0df37b48b7d724cb80ad0cda4334fcb97a953"), looks := true }, kinds := [], alts := [], laidByText := true, laidKinds := [.data, .data, .data, .data, .pinned], laidTests := true, laidLooks := .later }
def CompilePartsCardSaid : Prop := Claim7.holds Tryz.pinned (.plain (OpenSpec.ofChange compilePartsSpec)) compilePartsCard

/-- THE TIED CARD OF 'farandolelaw36.CompileEnds'. -/
def compileEndsCard : Claim7 := { stood := { row := compileEndsRow, standIns := [], harness := (true, "87ea50258b8265b99990d4b3a2e0df37b48b7d724cb80ad0cda4334fcb97a953"), looks := true }, kinds := [], alts := [], laidByText := true, laidKinds := [.data, .data, .data, .data, .pinned], laidTests := true, laidLooks := .later }
def CompileEndsCardSaid : Prop := Claim7.holds Tryz.pinned (.plain (OpenSpec.ofChange compileEndsSpec)) compileEndsCard

/-- THE TIED CARD OF 'farandolelaw36.CompileDeep'. -/
def compileDeepCard : Claim7 := { stood := { row := compileDeepRow, standIns := [], harness := (true, "87ea50258b8265b99990d4b3a2e0df37b48b7d724cb80ad0cda4334fcb97a953"), looks := true }, kinds := [], alts := [], laidByText := true, laidKinds := [.data, .data, .data, .data, .pinned], laidTests := true, laidLooks := .later }
def CompileDeepCardSaid : Prop := Claim7.holds Tryz.pinned (.plain (OpenSpec.ofChange compileDeepSpec)) compileDeepCard

/-- THE TIED CARD OF 'farandolelaw36.CompileMore'. -/
def compileMoreCard : Claim7 := { stood := { row := compileMoreRow, standIns := [], harness := (true, "87ea50258b8265b99990d4b3a2e0df37b48b7d724cb80ad0cda4334fcb97a953"), looks := true }, kinds := [], alts := [], laidByText := true, laidKinds := [.data, .data, .data, .data, .pinned], laidTests := true, laidLooks := .later }
def CompileMoreCardSaid : Prop := Claim7.holds Tryz.pinned (.plain (OpenSpec.ofChange compileMoreSpec)) compileMoreCard

/-- THE TIED CARD OF 'farandolelaw36.CompileCode'. -/
def compileCodeCard : Claim7 := { stood := { row := compileCodeRow, standIns := [], harness := (true, "87ea50258b8265b99990d4b3a2e0df37b48b7d724cb80ad0cda4334fcb97a953"), looks := true }, kinds := [], alts := [], laidByText := true, laidKinds := [.data, .data, .data, .data, .pinned], laidTests := true, laidLooks := .later }
def CompileCodeCardSaid : Prop := Claim7.holds Tryz.pinned (.plain (OpenSpec.ofChange compileCodeSpec)) compileCodeCard

/-- THE TIED CARD OF 'farandolelaw34.TypesCheck'. -/
def typesCheckCard : Claim7 := { stood := { row := typesCheckRow, standIns := [], harness := (true, "87ea50258b8265b99990d4b3a2e0df37b48b7d724cb80ad0cda4334fcb97a953"), looks := true }, kinds := [], alts := [], laidByText := true, laidKinds := [.data, .data, .data, .data, .pinned], laidTests := true, laidLooks := .later }
def TypesCheckCardSaid : Prop := Claim7.holds Tryz.pinned (.plain (OpenSpec.ofChange typesCheckSpec)) typesCheckCard

/-- THE TIED CARD OF 'farandolelaw34.TypesMissing'. -/
def typesMissingCard : Claim7 := { stood := { row := typesMissingRow, standIns := [], harness := (true, "87ea50258b8265b99990d4b3a2e0df37b48b7d724cb80ad0cda4334fcb97a953"), looks := true }, kinds := [], alts := [], laidByText := true, laidKinds := [.data, .data, .data, .data, .pinned], laidTests := true, laidLooks := .later }
def TypesMissingCardSaid : Prop := Claim7.holds Tryz.pinned (.plain (OpenSpec.ofChange typesMissingSpec)) typesMissingCard

/-- THE TIED CARD OF 'farandolelaw34.TypesLess'. -/
def typesLessCard : Claim7 := { stood := { row := typesLessRow, standIns := [], harness := (true, "87ea50258b8265b99990d4b3a2e0df37b48b7d724cb80ad0cda4334fcb97a953"), looks := true }, kinds := [], alts := [], laidByText := true, laidKinds := [.data, .data, .data, .data, .pinned], laidTests := true, laidLooks := .later }
def TypesLessCardSaid : Prop := Claim7.holds Tryz.pinned (.plain (OpenSpec.ofChange typesLessSpec)) typesLessCard

/-- THE TIED CARD OF 'farandolelaw34.TypesOrder'. -/
def typesOrderCard : Claim7 := { stood := { row := typesOrderRow, standIns := [], harness := (true, "87ea50258b8265b99990d4b3a2e0df37b48b7d724cb80ad0cda4334fcb97a953"), looks := true }, kinds := [], alts := [], laidByText := true, laidKinds := [.data, .data, .data, .data, .pinned], laidTests := true, laidLooks := .later }
def TypesOrderCardSaid : Prop := Claim7.holds Tryz.pinned (.plain (OpenSpec.ofChange typesOrderSpec)) typesOrderCard

/-- THE TIED CARD OF 'farandolelaw34.TypesComplete'. -/
def typesCompleteCard : Claim7 := { stood := { row := typesCompleteRow, standIns := [], harness := (true, "87ea50258b8265b99990d4b3a2e0df37b48b7d724cb80ad0cda4334fcb97a953"), looks := true }, kinds := [], alts := [], laidByText := true, laidKinds := [.data, .data, .data, .data, .pinned], laidTests := true, laidLooks := .later }
def TypesCompleteCardSaid : Prop := Claim7.holds Tryz.pinned (.plain (OpenSpec.ofChange typesCompleteSpec)) typesCompleteCard

/-- THE TIED CARD OF 'farandolelaw34.TypesRename'. -/
def typesRenameCard : Claim7 := { stood := { row := typesRenameRow, standIns := [], harness := (true, "87ea50258b8265b99990d4b3a2e0df37b48b7d724cb80ad0cda4334fcb97a953"), looks := true }, kinds := [], alts := [], laidByText := true, laidKinds := [.data, .data, .data, .data, .pinned], laidTests := true, laidLooks := .later }
def TypesRenameCardSaid : Prop := Claim7.holds Tryz.pinned (.plain (OpenSpec.ofChange typesRenameSpec)) typesRenameCard

/-- THE TIED CARD OF 'farandolelaw38.VerifyCompiled'. -/
def verifyCompiledCard : Claim7 := { stood := { row := verifyCompiledRow, standIns := [], harness := (true, "87ea50258b8265b99990d4b3a2e0df37b48b7d724cb80ad0cda4334fcb97a953"), looks := true }, kinds := [], alts := [], laidByText := true, laidKinds := [.data, .data, .data, .data, .pinned], laidTests := true, laidLooks := .later }
def VerifyCompiledCardSaid : Prop := Claim7.holds Tryz.pinned (.plain (OpenSpec.ofChange verifyCompiledSpec)) verifyCompiledCard

/-- THE TIED CARD OF 'farandolelaw37.VmMeans'. -/
def vmMeansCard : Claim7 := { stood := { row := vmMeansRow, standIns := [], harness := (true, "87ea50258b8265b99990d4b3a2e0df37b48b7d724cb80ad0cda4334fcb97a953"), looks := true }, kinds := [], alts := [], laidByText := true, laidKinds := [.data, .data, .data, .data, .pinned], laidTests := true, laidLooks := .later }
def VmMeansCardSaid : Prop := Claim7.holds Tryz.pinned (.plain (OpenSpec.ofChange vmMeansSpec)) vmMeansCard

/-- THE TIED CARD OF 'farandolelaw37.VmOffers'. -/
def vmOffersCard : Claim7 := { stood := { row := vmOffersRow, standIns := [], harness := (true, "87ea50258b8265b99990d4b3a2e0df37b48b7d724cb80ad0cda4334fcb97a953"), looks := true }, kinds := [], alts := [], laidByText := true, laidKinds := [.data, .data, .data, .data, .pinned], laidTests := true, laidLooks := .later }
def VmOffersCardSaid : Prop := Claim7.holds Tryz.pinned (.plain (OpenSpec.ofChange vmOffersSpec)) vmOffersCard

/-- THE TIED CARD OF 'farandolelaw36.CompilePrinted'. -/
def compilePrintedCard : Claim7 := { stood := { row := compilePrintedRow, standIns := [], harness := (true, "87ea50258b8265b99990d4b3a2e0df37b48b7d724cb80ad0cda4334fcb97a953"), looks := true }, kinds := [], alts := [], laidByText := true, laidKinds := [.data, .data, .data, .data, .pinned], laidTests := true, laidLooks := .later }
def CompilePrintedCardSaid : Prop := Claim7.holds Tryz.pinned (.plain (OpenSpec.ofChange compilePrintedSpec)) compilePrintedCard

/-- THE SECOND FORM's CARD OF 'farandolelaw36.CompileParts'. -/
def compilePartsUptoCard : Claim7 := { stood := { row := compilePartsUptoRow, standIns := [], harness := (true, "87ea50258b8265b99990d4b3a2e0df37b48b7d724cb80ad0cda4334fcb97a953"), looks := true }, kinds := [], alts := [], laidByText := true, laidKinds := [.data, .data, .data, .data, .pinned], laidTests := true, laidLooks := .later }
def CompilePartsUptoCardSaid : Prop := Claim7.holds Tryz.pinned (.plain (OpenSpec.upto compilePartsSpec)) compilePartsUptoCard

/-- THE SECOND FORM's CARD OF 'farandolelaw36.CompileEnds'. -/
def compileEndsUptoCard : Claim7 := { stood := { row := compileEndsUptoRow, standIns := [], harness := (true, "87ea50258b8265b99990d4b3a2e0df37b48b7d724cb80ad0cda4334fcb97a953"), looks := true }, kinds := [], alts := [], laidByText := true, laidKinds := [.data, .data, .data, .data, .pinned], laidTests := true, laidLooks := .later }
def CompileEndsUptoCardSaid : Prop := Claim7.holds Tryz.pinned (.plain (OpenSpec.upto compileEndsSpec)) compileEndsUptoCard

/-- THE SECOND FORM's CARD OF 'farandolelaw36.CompileDeep'. -/
def compileDeepUptoCard : Claim7 := { stood := { row := compileDeepUptoRow, standIns := [], harness := (true, "87ea50258b8265b99990d4b3a2e0df37b48b7d724cb80ad0cda4334fcb97a953"), looks := true }, kinds := [], alts := [], laidByText := true, laidKinds := [.data, .data, .data, .data, .pinned], laidTests := true, laidLooks := .later }
def CompileDeepUptoCardSaid : Prop := Claim7.holds Tryz.pinned (.plain (OpenSpec.upto compileDeepSpec)) compileDeepUptoCard

/-- THE SECOND FORM's CARD OF 'farandolelaw36.CompileMore'. -/
def compileMoreUptoCard : Claim7 := { stood := { row := compileMoreUptoRow, standIns := [], harness := (true, "87ea50258b8265b99990d4b3a2e0df37b48b7d724cb80ad0cda4334fcb97a953"), looks := true }, kinds := [], alts := [], laidByText := true, laidKinds := [.data, .data, .data, .data, .pinned], laidTests := true, laidLooks := .later }
def CompileMoreUptoCardSaid : Prop := Claim7.holds Tryz.pinned (.plain (OpenSpec.upto compileMoreSpec)) compileMoreUptoCard

/-- THE SECOND FORM's CARD OF 'farandolelaw36.CompileCode'. -/
def compileCodeUptoCard : Claim7 := { stood := { row := compileCodeUptoRow, standIns := [], harness := (true, "87ea50258b8265b99990d4b3a2e0df37b48b7d724cb80ad0cda4334fcb97a953"), looks := true }, kinds := [], alts := [], laidByText := true, laidKinds := [.data, .data, .data, .data, .pinned], laidTests := true, laidLooks := .later }
def CompileCodeUptoCardSaid : Prop := Claim7.holds Tryz.pinned (.plain (OpenSpec.upto compileCodeSpec)) compileCodeUptoCard

/-- THE SECOND FORM's CARD OF 'farandolelaw34.TypesCheck'. -/
def typesCheckUptoCard : Claim7 := { stood := { row := typesCheckUptoRow, standIns := [], harness := (true, "87ea50258b8265b99990d4b3a2e0df37b48b7d724cb80ad0cda4334fcb97a953"), looks := true }, kinds := [], alts := [], laidByText := true, laidKinds := [.data, .data, .data, .data, .pinned], laidTests := true, laidLooks := .later }
def TypesCheckUptoCardSaid : Prop := Claim7.holds Tryz.pinned (.plain (OpenSpec.upto typesCheckSpec)) typesCheckUptoCard

/-- THE SECOND FORM's CARD OF 'farandolelaw34.TypesMissing'. -/
def typesMissingUptoCard : Claim7 := { stood := { row := typesMissingUptoRow, standIns := [], harness := (true, "87ea50258b8265b99990d4b3a2e0df37b48b7d724cb80ad0cda4334fcb97a953"), looks := true }, kinds := [], alts := [], laidByText := true, laidKinds := [.data, .data, .data, .data, .pinned], laidTests := true, laidLooks := .later }
def TypesMissingUptoCardSaid : Prop := Claim7.holds Tryz.pinned (.plain (OpenSpec.upto typesMissingSpec)) typesMissingUptoCard

/-- THE SECOND FORM's CARD OF 'farandolelaw34.TypesLess'. -/
def typesLessUptoCard : Claim7 := { stood := { row := typesLessUptoRow, standIns := [], harness := (true, "87ea50258b8265b99990d4b3a2e0df37b48b7d724cb80ad0cda4334fcb97a953"), looks := true }, kinds := [], alts := [], laidByText := true, laidKinds := [.data, .data, .data, .data, .pinned], laidTests := true, laidLooks := .later }
def TypesLessUptoCardSaid : Prop := Claim7.holds Tryz.pinned (.plain (OpenSpec.upto typesLessSpec)) typesLessUptoCard

/-- THE SECOND FORM's CARD OF 'farandolelaw34.TypesOrder'. -/
def typesOrderUptoCard : Claim7 := { stood := { row := typesOrderUptoRow, standIns := [], harness := (true, "87ea50258b8265b99990d4b3a2e0df37b48b7d724cb80ad0cda4334fcb97a953"), looks := true }, kinds := [], alts := [], laidByText := true, laidKinds := [.data, .data, .data, .data, .pinned], laidTests := true, laidLooks := .later }
def TypesOrderUptoCardSaid : Prop := Claim7.holds Tryz.pinned (.plain (OpenSpec.upto typesOrderSpec)) typesOrderUptoCard

/-- THE SECOND FORM's CARD OF 'farandolelaw34.TypesComplete'. -/
def typesCompleteUptoCard : Claim7 := { stood := { row := typesCompleteUptoRow, standIns := [], harness := (true, "87ea50258b8265b99990d4b3a2e0df37b48b7d724cb80ad0cda4334fcb97a953"), looks := true }, kinds := [], alts := [], laidByText := true, laidKinds := [.data, .data, .data, .data, .pinned], laidTests := true, laidLooks := .later }
def TypesCompleteUptoCardSaid : Prop := Claim7.holds Tryz.pinned (.plain (OpenSpec.upto typesCompleteSpec)) typesCompleteUptoCard

/-- THE SECOND FORM's CARD OF 'farandolelaw34.TypesRename'. -/
def typesRenameUptoCard : Claim7 := { stood := { row := typesRenameUptoRow, standIns := [], harness := (true, "87ea50258b8265b99990d4b3a2e0df37b48b7d724cb80ad0cda4334fcb97a953"), looks := true }, kinds := [], alts := [], laidByText := true, laidKinds := [.data, .data, .data, .data, .pinned], laidTests := true, laidLooks := .later }
def TypesRenameUptoCardSaid : Prop := Claim7.holds Tryz.pinned (.plain (OpenSpec.upto typesRenameSpec)) typesRenameUptoCard

/-- THE SECOND FORM's CARD OF 'farandolelaw38.VerifyCompiled'. -/
def verifyCompiledUptoCard : Claim7 := { stood := { row := verifyCompiledUptoRow, standIns := [], harness := (true, "87ea50258b8265b99990d4b3a2e0df37b48b7d724cb80ad0cda4334fcb97a953"), looks := true }, kinds := [], alts := [], laidByText := true, laidKinds := [.data, .data, .data, .data, .pinned], laidTests := true, laidLooks := .later }
def VerifyCompiledUptoCardSaid : Prop := Claim7.holds Tryz.pinned (.plain (OpenSpec.upto verifyCompiledSpec)) verifyCompiledUptoCard

/-- THE SECOND FORM's CARD OF 'farandolelaw37.VmMeans'. -/
def vmMeansUptoCard : Claim7 := { stood := { row := vmMeansUptoRow, standIns := [], harness := (true, "87ea50258b8265b99990d4b3a2e0df37b48b7d724cb80ad0cda4334fcb97a953"), looks := true }, kinds := [], alts := [], laidByText := true, laidKinds := [.data, .data, .data, .data, .pinned], laidTests := true, laidLooks := .later }
def VmMeansUptoCardSaid : Prop := Claim7.holds Tryz.pinned (.plain (OpenSpec.upto vmMeansSpec)) vmMeansUptoCard

/-- THE SECOND FORM's CARD OF 'farandolelaw37.VmOffers'. -/
def vmOffersUptoCard : Claim7 := { stood := { row := vmOffersUptoRow, standIns := [], harness := (true, "87ea50258b8265b99990d4b3a2e0df37b48b7d724cb80ad0cda4334fcb97a953"), looks := true }, kinds := [], alts := [], laidByText := true, laidKinds := [.data, .data, .data, .data, .pinned], laidTests := true, laidLooks := .later }
def VmOffersUptoCardSaid : Prop := Claim7.holds Tryz.pinned (.plain (OpenSpec.upto vmOffersSpec)) vmOffersUptoCard

/-- THE SECOND FORM's CARD OF 'farandolelaw36.CompilePrinted'. -/
def compilePrintedUptoCard : Claim7 := { stood := { row := compilePrintedUptoRow, standIns := [], harness := (true, "87ea50258b8265b99990d4b3a2e0df37b48b7d724cb80ad0cda4334fcb97a953"), looks := true }, kinds := [], alts := [], laidByText := true, laidKinds := [.data, .data, .data, .data, .pinned], laidTests := true, laidLooks := .later }
def CompilePrintedUptoCardSaid : Prop := Claim7.holds Tryz.pinned (.plain (OpenSpec.upto compilePrintedSpec)) compilePrintedUptoCard
end Rows
end Go.Proofs.YtlemhelnmidpfaaGreatDoor
