/- Contracts: errors.As at a variable of a fault. -/
import Derived.Test.YteceapipdhnhdaaGreatDoorNa35
set_option linter.unusedVariables false
set_option linter.unusedSimpArgs false
namespace Go.Proofs.YteceapipdhnhdaaGreatDoor
section
open Go Go.RowKit Go.Extern.Stop Go.Stop Go.Extern
end
end Go.Proofs.YteceapipdhnhdaaGreatDoor
