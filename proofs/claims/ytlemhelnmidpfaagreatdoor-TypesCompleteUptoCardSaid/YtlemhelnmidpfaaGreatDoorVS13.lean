/- Part of a proof; own work. -/
import Derived.Test.YtlemhelnmidpfaaGreatDoorRows
import Derived.JoinedCond
import Derived.KernelRfl
import Derived.Test.YtlemhelnmidpfaaGreatDoorVS12
set_option linter.unusedVariables false
set_option linter.unusedSimpArgs false
open List renaming length_map→aT1,length_drop→bd3,length_cons→aT3,length_take→aX3,length_append→aT2,length_nil→aU1
open Nat renaming reduceBEq→bd1,le_of_ble_eq_true→aZ3,reduceAdd→bd2
namespace Go.Proofs.YtlemhelnmidpfaaGreatDoor
theorem LW:laidOutB Tryz.prog=true:=by kernel_rfl
theorem YP:mapsRowed Tryz.prog=true:=by kernel_rfl
theorem YS:(true==Tryz.prog.plainKeys)=true:=by kernel_rfl
theorem YT:Tryz.prog.stopsHeard=true:=by kernel_rfl
theorem YM:(false==Tryz.prog.liftsFinal)=true:=by kernel_rfl
end Go.Proofs.YtlemhelnmidpfaaGreatDoor
