/- Part of a proof; own work. -/
import Derived.Test.YtlemhelnmidpfaaGreatDoorQS14
set_option linter.unusedVariables false
set_option linter.unusedSimpArgs false
namespace Go.Proofs.YtlemhelnmidpfaaGreatDoor
theorem BW:Tryz.prog.mayEnter=true:=by kernel_rfl
theorem BX:(Tryz.prog.make==some .cut)=true:=by kernel_rfl
end Go.Proofs.YtlemhelnmidpfaaGreatDoor
