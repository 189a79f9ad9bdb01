/-
  No cell of these rows narrows 'for every input' (looked for: loops, veiled, ifaces, maps, wideKeys, modest, calm, conditions, laid).
  DERIVED. THE GIVEN ROWS OF THIS SEAT. 12 by the template 'for every input the law returns true; each argument reads behind the call as it read before'; 0 by the template 'total and deterministic' (their statements: YtjjngpjdhjeckaaTotals.lean).
  GIVEN WITH THE SEED: the statements are not yours to turn. If you find one false, say at which input.
  Laid BY PROGRAM, IN A SANDBOX (cutbox-rows.mjs): the forced cells as the released guide's own fill.sh prints them over the translation 91b7a371a4cb72b8… (all of the seat's roots in one cut). By AI agents, Wed Nov 11 2026. No macro, syntax, notation, axiom, sorry.
-/
import Derived.Test.YtjjngpjdhjeckaaChecked
import GoSem.Claim
import GoSem.ClaimJoined
import GoSem.ClaimMapViews
import Derived.JoinedTies
import Derived.KernelRfl
namespace Go.Proofs.Ytjjngpjdhjeckaa
/- THE CELL 'sum', in the pinned program and in every row, IS THE sha256 OF THE DUMP (.gsa) THAT YtjjngpjdhjeckaaProg.lean LOADS. Nothing in Lean hashes anything: it is a label: what it is worth is what the hold of that sum in a sandbox is worth. -/
noncomputable def Try.pinned : Pinned := { name := "ytjjngpjdhjeckaa", sum := "91b7a371a4cb72b829b6d9480517c21b6e67efed20479ceff96bc4dd89e8523a", checked := Try.checked }
namespace Rows
def none {H : Type} : Left H := { results := [], args := [] }

/-- 'farandolelaw38.VerifyCost': WHATEVER THE INPUT: true; the input reads as it did. -/
def verifyCostSpec : ChangeSpec := { name := "verifyCost", fn := fun _ => fun
  | [d1, d2] => { results := [.lit (.bool true)], args := [d1, d2] }
  | _ => none }
def verifyCostRow : OpenClaim := { program := "ytjjngpjdhjeckaa", sum := "91b7a371a4cb72b829b6d9480517c21b6e67efed20479ceff96bc4dd89e8523a", func := "farandole/farandolelaw38.VerifyCost", spec := "verifyCost", unfollowed := true, recurses := true, apart := false }
def VerifyCostSaid : Prop := verifyCostRow.holds Try.pinned (OpenSpec.ofChange verifyCostSpec)

/-- ITS FALSE NEIGHBOUR: 'it returns false'. Refute it at one input. -/
def verifyCostWrong : ChangeSpec := { name := "verifyCost", fn := fun _ => fun
  | [d1, d2] => { results := [.lit (.bool false)], args := [d1, d2] }
  | _ => none }
def VerifyCostWrongFalsely : Prop := verifyCostRow.holds Try.pinned (OpenSpec.ofChange verifyCostWrong)

/-- 'farandolelaw38.VerifyUnreached': WHATEVER THE INPUT: true; the input reads as it did. -/
def verifyUnreachedSpec : ChangeSpec := { name := "verifyUnreached", fn := fun _ => fun
  | [d1, d2, d3] => { results := [.lit (.bool true)], args := [d1, d2, d3] }
  | _ => none }
def verifyUnreachedRow : OpenClaim := { program := "ytjjngpjdhjeckaa", sum := "91b7a371a4cb72b829b6d9480517c21b6e67efed20479ceff96bc4dd89e8523a", func := "farandole/farandolelaw38.VerifyUnreached", spec := "verifyUnreached", unfollowed := true, recurses := true, apart := false }
def VerifyUnreachedSaid : Prop := verifyUnreachedRow.holds Try.pinned (OpenSpec.ofChange verifyUnreachedSpec)

/-- ITS FALSE NEIGHBOUR: 'it returns false'. Refute it at one input. -/
def verifyUnreachedWrong : ChangeSpec := { name := "verifyUnreached", fn := fun _ => fun
  | [d1, d2, d3] => { results := [.lit (.bool false)], args := [d1, d2, d3] }
  | _ => none }
def VerifyUnreachedWrongFalsely : Prop := verifyUnreachedRow.holds Try.pinned (OpenSpec.ofChange verifyUnreachedWrong)

/-- 'farandolelaw37.VmSteps': WHATEVER THE INPUT: true; the input reads as it did. -/
def vmStepsSpec : ChangeSpec := { name := "vmSteps", fn := fun _ => fun
  | [d1, d2, d3] => { results := [.lit (.bool true)], args := [d1, d2, d3] }
  | _ => none }
def vmStepsRow : OpenClaim := { program := "ytjjngpjdhjeckaa", sum := "91b7a371a4cb72b829b6d9480517c21b6e67efed20479ceff96bc4dd89e8523a", func := "farandole/farandolelaw37.VmSteps", spec := "vmSteps", inPlace := ["internal/abi.NoEscape", "internal/bytealg.MakeNoZero"], unfollowed := true, recurses := true, apart := false }
def VmStepsSaid : Prop := vmStepsRow.holds Try.pinned (OpenSpec.ofChange vmStepsSpec)

/-- ITS FALSE NEIGHBOUR: 'it returns false'. Refute it at one input. -/
def vmStepsWrong : ChangeSpec := { name := "vmSteps", fn := fun _ => fun
  | [d1, d2, d3] => { results := [.lit (.bool false)], args := [d1, d2, d3] }
  | _ => none }
def VmStepsWrongFalsely : Prop := vmStepsRow.holds Try.pinned (OpenSpec.ofChange vmStepsWrong)

/-- 'farandolelaw37.VmVars': WHATEVER THE INPUT: true; the input reads as it did. -/
def vmVarsSpec : ChangeSpec := { name := "vmVars", fn := fun _ => fun
  | [d1, d2] => { results := [.lit (.bool true)], args := [d1, d2] }
  | _ => none }
def vmVarsRow : OpenClaim := { program := "ytjjngpjdhjeckaa", sum := "91b7a371a4cb72b829b6d9480517c21b6e67efed20479ceff96bc4dd89e8523a", func := "farandole/farandolelaw37.VmVars", spec := "vmVars", inPlace := ["internal/abi.NoEscape", "internal/bytealg.MakeNoZero"], unfollowed := true, recurses := true, apart := false }
def VmVarsSaid : Prop := vmVarsRow.holds Try.pinned (OpenSpec.ofChange vmVarsSpec)

/-- ITS FALSE NEIGHBOUR: 'it returns false'. Refute it at one input. -/
def vmVarsWrong : ChangeSpec := { name := "vmVars", fn := fun _ => fun
  | [d1, d2] => { results := [.lit (.bool false)], args := [d1, d2] }
  | _ => none }
def VmVarsWrongFalsely : Prop := vmVarsRow.holds Try.pinned (OpenSpec.ofChange vmVarsWrong)

/-- 'farandolelaw37.VmArithmetic': WHATEVER THE INPUT: true; the input reads as it did. -/
def vmArithmeticSpec : ChangeSpec := { name := "vmArithmetic", fn := fun _ => fun
  | [d1, d2] => { results := [.lit (.bool true)], args := [d1, d2] }
  | _ => none }
def vmArithmeticRow : OpenClaim := { program := "ytjjngpjdhjeckaa", sum := "91b7a371a4cb72b829b6d9480517c21b6e67efed20479ceff96bc4dd89e8523a", func := "farandole/farandolelaw37.VmArithmetic", spec := "vmArithmetic", inPlace := ["internal/abi.NoEscape", "internal/bytealg.MakeNoZero"], unfollowed := true, recurses := true, apart := false }
def VmArithmeticSaid : Prop := vmArithmeticRow.holds Try.pinned (OpenSpec.ofChange vmArithmeticSpec)

/-- ITS FALSE NEIGHBOUR: 'it returns false'. Refute it at one input. -/
def vmArithmeticWrong : ChangeSpec := { name := "vmArithmetic", fn := fun _ => fun
  | [d1, d2] => { results := [.lit (.bool false)], args := [d1, d2] }
  | _ => none }
def VmArithmeticWrongFalsely : Prop := vmArithmeticRow.holds Try.pinned (OpenSpec.ofChange vmArithmeticWrong)

/-- 'farandolelaw37.VmOrder': WHATEVER THE INPUT: true; the input reads as it did. -/
def vmOrderSpec : ChangeSpec := { name := "vmOrder", fn := fun _ => fun
  | [d1, d2, d3] => { results := [.lit (.bool true)], args := [d1, d2, d3] }
  | _ => none }
def vmOrderRow : OpenClaim := { program := "ytjjngpjdhjeckaa", sum := "91b7a371a4cb72b829b6d9480517c21b6e67efed20479ceff96bc4dd89e8523a", func := "farandole/farandolelaw37.VmOrder", spec := "vmOrder", inPlace := ["internal/abi.NoEscape", "internal/bytealg.MakeNoZero"], unfollowed := true, recurses := true, apart := false }
def VmOrderSaid : Prop := vmOrderRow.holds Try.pinned (OpenSpec.ofChange vmOrderSpec)

/-- ITS FALSE NEIGHBOUR: 'it returns false'. Refute it at one input. -/
def vmOrderWrong : ChangeSpec := { name := "vmOrder", fn := fun _ => fun
  | [d1, d2, d3] => { results := [.lit (.bool false)], args := [d1, d2, d3] }
  | _ => none }
def VmOrderWrongFalsely : Prop := vmOrderRow.holds Try.pinned (OpenSpec.ofChange vmOrderWrong)

/-- 'farandolelaw37.VmTexts': WHATEVER THE INPUT: true; the input reads as it did. -/
def vmTextsSpec : ChangeSpec := { name := "vmTexts", fn := fun _ => fun
  | [d1, d2] => { results := [.lit (.bool true)], args := [d1, d2] }
  | _ => none }
def vmTextsRow : OpenClaim := { program := "ytjjngpjdhjeckaa", sum := "91b7a371a4cb72b829b6d9480517c21b6e67efed20479ceff96bc4dd89e8523a", func := "farandole/farandolelaw37.VmTexts", spec := "vmTexts", inPlace := ["internal/abi.NoEscape", "internal/bytealg.MakeNoZero"], unfollowed := true, recurses := true, apart := false }
def VmTextsSaid : Prop := vmTextsRow.holds Try.pinned (OpenSpec.ofChange vmTextsSpec)

/-- ITS FALSE NEIGHBOUR: 'it returns false'. Refute it at one input. -/
def vmTextsWrong : ChangeSpec := { name := "vmTexts", fn := fun _ => fun
  | [d1, d2] => { results := [.lit (.bool false)], args := [d1, d2] }
  | _ => none }
def VmTextsWrongFalsely : Prop := vmTextsRow.holds Try.pinned (OpenSpec.ofChange vmTextsWrong)

/-- 'farandolelaw37.VmLoops': WHATEVER THE INPUT: true; the input reads as it did. -/
def vmLoopsSpec : ChangeSpec := { name := "vmLoops", fn := fun _ => fun
  | [d1, d2] => { results := [.lit (.bool true)], args := [d1, d2] }
  | _ => none }
def vmLoopsRow : OpenClaim := { program := "ytjjngpjdhjeckaa", sum := "91b7a371a4cb72b829b6d9480517c21b6e67efed20479ceff96bc4dd89e8523a", func := "farandole/farandolelaw37.VmLoops", spec := "vmLoops", inPlace := ["internal/abi.NoEscape", "internal/bytealg.MakeNoZero"], unfollowed := true, recurses := true, apart := false }
def VmLoopsSaid : Prop := vmLoopsRow.holds Try.pinned (OpenSpec.ofChange vmLoopsSpec)

/-- ITS FALSE NEIGHBOUR: 'it returns false'. Refute it at one input. -/
def vmLoopsWrong : ChangeSpec := { name := "vmLoops", fn := fun _ => fun
  | [d1, d2] => { results := [.lit (.bool false)], args := [d1, d2] }
  | _ => none }
def VmLoopsWrongFalsely : Prop := vmLoopsRow.holds Try.pinned (OpenSpec.ofChange vmLoopsWrong)

/-- 'farandolelaw37.VmRun': WHATEVER THE INPUT: true; the input reads as it did. -/
def vmRunSpec : ChangeSpec := { name := "vmRun", fn := fun _ => fun
  | [d1, d2] => { results := [.lit (.bool true)], args := [d1, d2] }
  | _ => none }
def vmRunRow : OpenClaim := { program := "ytjjngpjdhjeckaa", sum := "91b7a371a4cb72b829b6d9480517c21b6e67efed20479ceff96bc4dd89e8523a", func := "farandole/farandolelaw37.VmRun", spec := "vmRun", inPlace := ["internal/abi.NoEscape", "internal/bytealg.MakeNoZero"], unfollowed := true, recurses := true, apart := false }
def VmRunSaid : Prop := vmRunRow.holds Try.pinned (OpenSpec.ofChange vmRunSpec)

/-- ITS FALSE NEIGHBOUR: 'it returns false'. Refute it at one input. -/
def vmRunWrong : ChangeSpec := { name := "vmRun", fn := fun _ => fun
  | [d1, d2] => { results := [.lit (.bool false)], args := [d1, d2] }
  | _ => none }
def VmRunWrongFalsely : Prop := vmRunRow.holds Try.pinned (OpenSpec.ofChange vmRunWrong)

/-- 'farandolelaw38.VerifySound': WHATEVER THE INPUT: true; the input reads as it did. -/
def verifySoundSpec : ChangeSpec := { name := "verifySound", fn := fun _ => fun
  | [d1, d2, d3] => { results := [.lit (.bool true)], args := [d1, d2, d3] }
  | _ => none }
def verifySoundRow : OpenClaim := { program := "ytjjngpjdhjeckaa", sum := "91b7a371a4cb72b829b6d9480517c21b6e67efed20479ceff96bc4dd89e8523a", func := "farandole/farandolelaw38.VerifySound", spec := "verifySound", inPlace := ["internal/abi.NoEscape", "internal/bytealg.MakeNoZero"], unfollowed := true, recurses := true, apart := false }
def VerifySoundSaid : Prop := verifySoundRow.holds Try.pinned (OpenSpec.ofChange verifySoundSpec)

/-- ITS FALSE NEIGHBOUR: 'it returns false'. Refute it at one input. -/
def verifySoundWrong : ChangeSpec := { name := "verifySound", fn := fun _ => fun
  | [d1, d2, d3] => { results := [.lit (.bool false)], args := [d1, d2, d3] }
  | _ => none }
def VerifySoundWrongFalsely : Prop := verifySoundRow.holds Try.pinned (OpenSpec.ofChange verifySoundWrong)

/-- 'farandolelaw38.VerifyStraight': WHATEVER THE INPUT: true; the input reads as it did. -/
def verifyStraightSpec : ChangeSpec := { name := "verifyStraight", fn := fun _ => fun
  | [d1, d2, d3] => { results := [.lit (.bool true)], args := [d1, d2, d3] }
  | _ => none }
def verifyStraightRow : OpenClaim := { program := "ytjjngpjdhjeckaa", sum := "91b7a371a4cb72b829b6d9480517c21b6e67efed20479ceff96bc4dd89e8523a", func := "farandole/farandolelaw38.VerifyStraight", spec := "verifyStraight", inPlace := ["internal/abi.NoEscape", "internal/bytealg.MakeNoZero"], unfollowed := true, recurses := true, apart := false }
def VerifyStraightSaid : Prop := verifyStraightRow.holds Try.pinned (OpenSpec.ofChange verifyStraightSpec)

/-- ITS FALSE NEIGHBOUR: 'it returns false'. Refute it at one input. -/
def verifyStraightWrong : ChangeSpec := { name := "verifyStraight", fn := fun _ => fun
  | [d1, d2, d3] => { results := [.lit (.bool false)], args := [d1, d2, d3] }
  | _ => none }
def VerifyStraightWrongFalsely : Prop := verifyStraightRow.holds Try.pinned (OpenSpec.ofChange verifyStraightWrong)

/-- 'farandolelaw38.VerifyLoops': WHATEVER THE INPUT: true; the input reads as it did. -/
def verifyLoopsSpec : ChangeSpec := { name := "verifyLoops", fn := fun _ => fun
  | [d] => { results := [.lit (.bool true)], args := [d] }
  | _ => none }
def verifyLoopsRow : OpenClaim := { program := "ytjjngpjdhjeckaa", sum := "91b7a371a4cb72b829b6d9480517c21b6e67efed20479ceff96bc4dd89e8523a", func := "farandole/farandolelaw38.VerifyLoops", spec := "verifyLoops", inPlace := ["internal/abi.NoEscape", "internal/bytealg.MakeNoZero"], unfollowed := true, recurses := true, apart := false }
def VerifyLoopsSaid : Prop := verifyLoopsRow.holds Try.pinned (OpenSpec.ofChange verifyLoopsSpec)

/-- ITS FALSE NEIGHBOUR: 'it returns false'. Refute it at one input. -/
def verifyLoopsWrong : ChangeSpec := { name := "verifyLoops", fn := fun _ => fun
  | [d] => { results := [.lit (.bool false)], args := [d] }
  | _ => none }
def VerifyLoopsWrongFalsely : Prop := verifyLoopsRow.holds Try.pinned (OpenSpec.ofChange verifyLoopsWrong)

/- THE SECOND FORM. 'bulk': how many values and letters a reading holds, each counted each time it is reached (what is shared counts as often as it is met; a slice's spare places count too). A statement '..UptoSaid' is the law's where the arguments, and the package variables that the reading takes, are together of bulk at most 1048576: NARROWER than '..Said'. Prove '..Said' where nothing that the law and all that it calls make is longer than what came in: it says more and counts as full. Else prove '..UptoSaid'. A law counts once. -/
mutual
def uptoBulk {H : Type} : DataW H → Nat
  | .lit (.string bytes) => bytes.length + 1
  | .lit _ => 1
  | .nil => 1
  | .ptr d => uptoBulk d + 1
  | .slice elems spare => uptoBulkAll elems + uptoBulkAll spare + 1
  | .agg parts => uptoBulkAll parts + 1
  | .iface _ d => uptoBulk d + 1
  | .map entries => uptoBulkEntries entries + 1
  | .held _ => 1
def uptoBulkAll {H : Type} : List (DataW H) → Nat
  | [] => 0
  | d :: r => uptoBulk d + uptoBulkAll r
def uptoBulkEntries {H : Type} : List (Lit × DataW H) → Nat
  | [] => 0
  | x :: r => uptoBulkEntry x + uptoBulkEntries r
def uptoBulkEntry {H : Type} : Lit × DataW H → Nat
  | (.string bytes, d) => bytes.length + uptoBulk d + 1
  | (_, d) => uptoBulk d + 1
 end
def uptoSmall : (H : Type) → List (DataW H) → Bool := fun _ ds => decide (uptoBulkAll ds ≤ 1048576)
def OpenSpec.upto (s : _root_.Go.ChangeSpec) : _root_.Go.OpenSpec := { _root_.Go.OpenSpec.ofChange s with cond := some uptoSmall }

/-- 'farandolelaw38.VerifyCost', WHERE WHAT IT READS IS OF BULK AT MOST 1048576: true; the input reads as it did. -/
def verifyCostUptoRow : OpenClaim := { program := "ytjjngpjdhjeckaa", sum := "91b7a371a4cb72b829b6d9480517c21b6e67efed20479ceff96bc4dd89e8523a", func := "farandole/farandolelaw38.VerifyCost", spec := "verifyCost", unfollowed := true, recurses := true, apart := false, narrowed := true }
def VerifyCostUptoSaid : Prop := verifyCostUptoRow.holds Try.pinned (OpenSpec.upto verifyCostSpec)

/-- 'farandolelaw38.VerifyUnreached', WHERE WHAT IT READS IS OF BULK AT MOST 1048576: true; the input reads as it did. -/
def verifyUnreachedUptoRow : OpenClaim := { program := "ytjjngpjdhjeckaa", sum := "91b7a371a4cb72b829b6d9480517c21b6e67efed20479ceff96bc4dd89e8523a", func := "farandole/farandolelaw38.VerifyUnreached", spec := "verifyUnreached", unfollowed := true, recurses := true, apart := false, narrowed := true }
def VerifyUnreachedUptoSaid : Prop := verifyUnreachedUptoRow.holds Try.pinned (OpenSpec.upto verifyUnreachedSpec)

/-- 'farandolelaw37.VmSteps', WHERE WHAT IT READS IS OF BULK AT MOST 1048576: true; the input reads as it did. -/
def vmStepsUptoRow : OpenClaim := { program := "ytjjngpjdhjeckaa", sum := "91b7a371a4cb72b829b6d9480517c21b6e67efed20479ceff96bc4dd89e8523a", func := "farandole/farandolelaw37.VmSteps", spec := "vmSteps", inPlace := ["internal/abi.NoEscape", "internal/bytealg.MakeNoZero"], unfollowed := true, recurses := true, apart := false, narrowed := true }
def VmStepsUptoSaid : Prop := vmStepsUptoRow.holds Try.pinned (OpenSpec.upto vmStepsSpec)

/-- 'farandolelaw37.VmVars', WHERE WHAT IT READS IS OF BULK AT MOST 1048576: true; the input reads as it did. -/
def vmVarsUptoRow : OpenClaim := { program := "ytjjngpjdhjeckaa", sum := "91b7a371a4cb72b829b6d9480517c21b6e67efed20479ceff96bc4dd89e8523a", func := "farandole/farandolelaw37.VmVars", spec := "vmVars", inPlace := ["internal/abi.NoEscape", "internal/bytealg.MakeNoZero"], unfollowed := true, recurses := true, apart := false, narrowed := true }
def VmVarsUptoSaid : Prop := vmVarsUptoRow.holds Try.pinned (OpenSpec.upto vmVarsSpec)

/-- 'farandolelaw37.VmArithmetic', WHERE WHAT IT READS IS OF BULK AT MOST 1048576: true; the input reads as it did. -/
def vmArithmeticUptoRow : OpenClaim := { program := "ytjjngpjdhjeckaa", sum := "91b7a371a4cb72b829b6d9480517c21b6e67efed20479ceff96bc4dd89e8523a", func := "farandole/farandolelaw37.VmArithmetic", spec := "vmArithmetic", inPlace := ["internal/abi.NoEscape", "internal/bytealg.MakeNoZero"], unfollowed := true, recurses := true, apart := false, narrowed := true }
def VmArithmeticUptoSaid : Prop := vmArithmeticUptoRow.holds Try.pinned (OpenSpec.upto vmArithmeticSpec)

/-- 'farandolelaw37.VmOrder', WHERE WHAT IT READS IS OF BULK AT MOST 1048576: true; the input reads as it did. -/
def vmOrderUptoRow : OpenClaim := { program := "ytjjngpjdhjeckaa", sum := "91b7a371a4cb72b829b6d9480517c21b6e67efed20479ceff96bc4dd89e8523a", func := "farandole/farandolelaw37.VmOrder", spec := "vmOrder", inPlace := ["internal/abi.NoEscape", "internal/bytealg.MakeNoZero"], unfollowed := true, recurses := true, apart := false, narrowed := true }
def VmOrderUptoSaid : Prop := vmOrderUptoRow.holds Try.pinned (OpenSpec.upto vmOrderSpec)

/-- 'farandolelaw37.VmTexts', WHERE WHAT IT READS IS OF BULK AT MOST 1048576: true; the input reads as it did. -/
def vmTextsUptoRow : OpenClaim := { program := "ytjjngpjdhjeckaa", sum := "91b7a371a4cb72b829b6d9480517c21b6e67efed20479ceff96bc4dd89e8523a", func := "farandole/farandolelaw37.VmTexts", spec := "vmTexts", inPlace := ["internal/abi.NoEscape", "internal/bytealg.MakeNoZero"], unfollowed := true, recurses := true, apart := false, narrowed := true }
def VmTextsUptoSaid : Prop := vmTextsUptoRow.holds Try.pinned (OpenSpec.upto vmTextsSpec)

/-- 'farandolelaw37.VmLoops', WHERE WHAT IT READS IS OF BULK AT MOST 1048576: true; the input reads as it did. -/
def vmLoopsUptoRow : OpenClaim := { program := "ytjjngpjdhjeckaa", sum := "91b7a371a4cb72b829b6d9480517c21b6e67efed20479ceff96bc4dd89e8523a", func := "farandole/farandolelaw37.VmLoops", spec := "vmLoops", inPlace := ["internal/abi.NoEscape", "internal/bytealg.MakeNoZero"], unfollowed := true, recurses := true, apart := false, narrowed := true }
def VmLoopsUptoSaid : Prop := vmLoopsUptoRow.holds Try.pinned (OpenSpec.upto vmLoopsSpec)

/-- 'farandolelaw37.VmRun', WHERE WHAT IT READS IS OF BULK AT MOST 1048576: true; the input reads as it did. -/
def vmRunUptoRow : OpenClaim := { program := "ytjjngpjdhjeckaa", sum := "91b7a371a4cb72b829b6d9480517c21b6e67efed20479ceff96bc4dd89e8523a", func := "farandole/farandolelaw37.VmRun", spec := "vmRun", inPlace := ["internal/abi.NoEscape", "internal/bytealg.MakeNoZero"], unfollowed := true, recurses := true, apart := false, narrowed := true }
def VmRunUptoSaid : Prop := vmRunUptoRow.holds Try.pinned (OpenSpec.upto vmRunSpec)

/-- 'farandolelaw38.VerifySound', WHERE WHAT IT READS IS OF BULK AT MOST 1048576: true; the input reads as it did. -/
def verifySoundUptoRow : OpenClaim := { program := "ytjjngpjdhjeckaa", sum := "91b7a371a4cb72b829b6d9480517c21b6e67efed20479ceff96bc4dd89e8523a", func := "farandole/farandolelaw38.VerifySound", spec := "verifySound", inPlace := ["internal/abi.NoEscape", "internal/bytealg.MakeNoZero"], unfollowed := true, recurses := true, apart := false, narrowed := true }
def VerifySoundUptoSaid : Prop := verifySoundUptoRow.holds Try.pinned (OpenSpec.upto verifySoundSpec)

/-- 'farandolelaw38.VerifyStraight', WHERE WHAT IT READS IS OF BULK AT MOST 1048576: true; the input reads as it did. -/
def verifyStraightUptoRow : OpenClaim := { program := "ytjjngpjdhjeckaa", sum := "91b7a371a4cb72b829b6d9480517c21b6e67efed20479ceff96bc4dd89e8523a", func := "farandole/farandolelaw38.VerifyStraight", spec := "verifyStraight", inPlace := ["internal/abi.NoEscape", "internal/bytealg.MakeNoZero"], unfollowed := true, recurses := true, apart := false, narrowed := true }
def VerifyStraightUptoSaid : Prop := verifyStraightUptoRow.holds Try.pinned (OpenSpec.upto verifyStraightSpec)

/-- 'farandolelaw38.VerifyLoops', WHERE WHAT IT READS IS OF BULK AT MOST 1048576: true; the input reads as it did. -/
def verifyLoopsUptoRow : OpenClaim := { program := "ytjjngpjdhjeckaa", sum := "91b7a371a4cb72b829b6d9480517c21b6e67efed20479ceff96bc4dd89e8523a", func := "farandole/farandolelaw38.VerifyLoops", spec := "verifyLoops", inPlace := ["internal/abi.NoEscape", "internal/bytealg.MakeNoZero"], unfollowed := true, recurses := true, apart := false, narrowed := true }
def VerifyLoopsUptoSaid : Prop := verifyLoopsUptoRow.holds Try.pinned (OpenSpec.upto verifyLoopsSpec)

end Rows
end Go.Proofs.Ytjjngpjdhjeckaa
