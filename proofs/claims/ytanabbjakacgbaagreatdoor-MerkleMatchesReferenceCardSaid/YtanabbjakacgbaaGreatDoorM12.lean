/- Put together by this session's program out of: Ky. -/
import Derived.Test.YtanabbjakacgbaaGreatDoorM2
namespace Go.Proofs.YtanabbjakacgbaaGreatDoor.Sp
set_option linter.unusedVariables false
end Go.Proofs.YtanabbjakacgbaaGreatDoor.Sp

