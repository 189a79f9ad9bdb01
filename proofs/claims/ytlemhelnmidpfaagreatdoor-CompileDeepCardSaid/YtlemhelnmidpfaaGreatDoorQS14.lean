/- Part of a proof; own work. -/
import Derived.Test.YtlemhelnmidpfaaGreatDoorRows
import Derived.JoinedCond
import Derived.KernelRfl
import Derived.Test.YtlemhelnmidpfaaGreatDoorQS13
set_option linter.unusedVariables false
set_option linter.unusedSimpArgs false
namespace Go.Proofs.YtlemhelnmidpfaaGreatDoor
theorem tU:laidOutB Tryz.prog=true:=by kernel_rfl
theorem BV:mapsRowed Tryz.prog=true:=by kernel_rfl
theorem BY:(true==Tryz.prog.plainKeys)=true:=by kernel_rfl
theorem BZ:Tryz.prog.stopsHeard=true:=by kernel_rfl
theorem BR:(false==Tryz.prog.liftsFinal)=true:=by kernel_rfl
end Go.Proofs.YtlemhelnmidpfaaGreatDoor
