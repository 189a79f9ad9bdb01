/- Part of a proof; own work. -/
import Derived.SevenTiedAt
import Derived.Test.YtlemhelnmidpfaaGreatDoorRS14
set_option linter.unusedVariables false
set_option linter.unusedSimpArgs false
open List renaming length_append→bb7,length_drop→bl7,length_take→be9,length_nil→bc4,length_map→bb5,length_cons→bb9
open Nat renaming le_of_ble_eq_true→bh6,reduceBEq→bl3,reduceAdd→bl4
namespace Go.Proofs.YtlemhelnmidpfaaGreatDoor
theorem ak1:Tryz.prog.mainIs=some (true, "87ea50258b8265b99990d4b3a2e0df37b48b7d724cb80ad0cda4334fcb97a953".toList):=by kernel_rfl
theorem ak0:true=Tryz.prog.looks []:=by kernel_rfl
end Go.Proofs.YtlemhelnmidpfaaGreatDoor
