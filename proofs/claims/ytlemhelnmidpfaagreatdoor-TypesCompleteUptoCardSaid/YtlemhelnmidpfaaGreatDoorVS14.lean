/- Part of a proof; own work. -/
import Derived.Test.YtlemhelnmidpfaaGreatDoorVS13
set_option linter.unusedVariables false
set_option linter.unusedSimpArgs false
open List renaming length_map→aT1,length_drop→bd3,length_cons→aT3,length_take→aX3,length_append→aT2,length_nil→aU1
open Nat renaming reduceBEq→bd1,le_of_ble_eq_true→aZ3,reduceAdd→bd2
namespace Go.Proofs.YtlemhelnmidpfaaGreatDoor
theorem YQ:Tryz.prog.mayEnter=true:=by kernel_rfl
theorem YR:(Tryz.prog.make==some .cut)=true:=by kernel_rfl
end Go.Proofs.YtlemhelnmidpfaaGreatDoor
