/- Part of a proof; own work. -/
import Derived.Test.YtlemhelnmidpfaaGreatDoorRows
import Derived.ProofKit
import Derived.LaidMore
import Derived.OpenShut
import Derived.Stop.Joined
import Derived.LaidLaws
import Derived.Lay
import Derived.MakeChecks
import Derived.Test.YtlemhelnmidpfaaGreatDoorQS12
set_option linter.unusedVariables false
set_option linter.unusedSimpArgs false
namespace Go.Proofs.YtlemhelnmidpfaaGreatDoor
open Go.ChangeShapes Go.WideShapes Go.ChangeAt Go.RowKit
def lE:=Rows.compileEndsRow.laid
theorem A0 (os:Os) (args:Array Value):laidMetH Tryz.prog lE ((World.laidAll Tryz.prog os lE).forCall (fun _ _=>0) ⟨#[],args,[]⟩).memory:=by
 rw[MakeChecks.laidMetH_plain _ _ _ (by kernel_rfl)]
 exact laidMet_laidAll _ (by kernel_rfl) (by kernel_rfl)
end Go.Proofs.YtlemhelnmidpfaaGreatDoor
