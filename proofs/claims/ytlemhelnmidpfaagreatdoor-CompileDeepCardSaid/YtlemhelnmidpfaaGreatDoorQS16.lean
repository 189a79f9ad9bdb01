/- Part of a proof; own work. -/
import Derived.SevenTiedAt
import Derived.Test.YtlemhelnmidpfaaGreatDoorQS15
set_option linter.unusedVariables false
set_option linter.unusedSimpArgs false
namespace Go.Proofs.YtlemhelnmidpfaaGreatDoor
theorem BU:Tryz.prog.mainIs=some (true, "87ea50258b8265b99990d4b3a2e0df37b48b7d724cb80ad0cda4334fcb97a953".toList):=by kernel_rfl
theorem BS:true=Tryz.prog.looks []:=by kernel_rfl
end Go.Proofs.YtlemhelnmidpfaaGreatDoor
