/- Part of a proof; own work. -/
import Derived.Test.YtlemhelnmidpfaaGreatDoorRS13
set_option linter.unusedVariables false
set_option linter.unusedSimpArgs false
open List renaming length_append→bb7,length_drop→bl7,length_take→be9,length_nil→bc4,length_map→bb5,length_cons→bb9
open Nat renaming le_of_ble_eq_true→bh6,reduceBEq→bl3,reduceAdd→bl4
namespace Go.Proofs.YtlemhelnmidpfaaGreatDoor
theorem ak3:Tryz.prog.mayEnter=true:=by kernel_rfl
theorem ak4:(Tryz.prog.make==some .cut)=true:=by kernel_rfl
end Go.Proofs.YtlemhelnmidpfaaGreatDoor
