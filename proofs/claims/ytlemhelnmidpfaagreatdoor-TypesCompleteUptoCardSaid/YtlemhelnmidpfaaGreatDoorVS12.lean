/- Part of a proof; own work. -/
import Derived.Test.YtlemhelnmidpfaaGreatDoorRows
import Derived.ProofKit
import Derived.LaidMore
import Derived.OpenShut
import Derived.Stop.Joined
import Derived.LaidLaws
import Derived.Lay
import Derived.MakeChecks
import Derived.Test.YtlemhelnmidpfaaGreatDoorVS11
set_option linter.unusedVariables false
set_option linter.unusedSimpArgs false
open List renaming length_map→aT1,length_drop→bd3,length_cons→aT3,length_take→aX3,length_append→aT2,length_nil→aU1
open Nat renaming reduceBEq→bd1,le_of_ble_eq_true→aZ3,reduceAdd→bd2
namespace Go.Proofs.YtlemhelnmidpfaaGreatDoor
open Go.ChangeShapes Go.WideShapes Go.ChangeAt Go.RowKit
def vl:=Rows.compileEndsRow.laid
theorem Vz (os:Os) (args:Array Value):laidMetH Tryz.prog vl ((World.laidAll Tryz.prog os vl).forCall (fun _ _=>0) ⟨#[],args,[]⟩).memory:=by
 rw[MakeChecks.laidMetH_plain _ _ _ (by kernel_rfl)]
 exact laidMet_laidAll _ (by kernel_rfl) (by kernel_rfl)
end Go.Proofs.YtlemhelnmidpfaaGreatDoor
