/- Words that the proof uses. -/
import Derived.Test.YtaodgnladjafoaaGreatDoorStore1V
set_option linter.unusedVariables false
set_option linter.unusedSimpArgs false
namespace Go.Proofs.YtaodgnladjafoaaGreatDoor.Sto
open Go.RowKit Go.Proofs.YtaodgnladjafoaaGreatDoorW.PrintWords Go.Proofs.YtaodgnladjafoaaGreatDoorW.PrintLast Go.Proofs.YtaodgnladjafoaaGreatDoorW.PrintMore Go.Proofs.YtaodgnladjafoaaGreatDoor.Md Go.Proofs.YtaodgnladjafoaaGreatDoor.Mni
end Go.Proofs.YtaodgnladjafoaaGreatDoor.Sto
