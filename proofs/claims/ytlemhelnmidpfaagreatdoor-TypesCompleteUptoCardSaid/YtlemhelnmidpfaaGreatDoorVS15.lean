/- Part of a proof; own work. -/
import Derived.SevenTiedAt
import Derived.Test.YtlemhelnmidpfaaGreatDoorVS14
set_option linter.unusedVariables false
set_option linter.unusedSimpArgs false
open List renaming length_map→aT1,length_drop→bd3,length_cons→aT3,length_take→aX3,length_append→aT2,length_nil→aU1
open Nat renaming reduceBEq→bd1,le_of_ble_eq_true→aZ3,reduceAdd→bd2
namespace Go.Proofs.YtlemhelnmidpfaaGreatDoor
theorem YO:Tryz.prog.mainIs=some (true, "87ea50258b8265b99990d4b3a2e0df37b48b7d724cb80ad0cda4334fcb97a953".toList):=by kernel_rfl
theorem YN:true=Tryz.prog.looks []:=by kernel_rfl
end Go.Proofs.YtlemhelnmidpfaaGreatDoor
