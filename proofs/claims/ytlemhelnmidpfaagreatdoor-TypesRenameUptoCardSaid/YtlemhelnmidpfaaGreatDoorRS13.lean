/- Part of a proof; own work. -/
import Derived.Test.YtlemhelnmidpfaaGreatDoorRows
import Derived.JoinedCond
import Derived.KernelRfl
import Derived.Test.YtlemhelnmidpfaaGreatDoorRS12
set_option linter.unusedVariables false
set_option linter.unusedSimpArgs false
open List renaming length_append→bb7,length_drop→bl7,length_take→be9,length_nil→bc4,length_map→bb5,length_cons→bb9
open Nat renaming le_of_ble_eq_true→bh6,reduceBEq→bl3,reduceAdd→bl4
namespace Go.Proofs.YtlemhelnmidpfaaGreatDoor
theorem NK:laidOutB Tryz.prog=true:=by kernel_rfl
theorem ak2:mapsRowed Tryz.prog=true:=by kernel_rfl
theorem ak5:(true==Tryz.prog.plainKeys)=true:=by kernel_rfl
theorem ak6:Tryz.prog.stopsHeard=true:=by kernel_rfl
theorem aj9:(false==Tryz.prog.liftsFinal)=true:=by kernel_rfl
end Go.Proofs.YtlemhelnmidpfaaGreatDoor
