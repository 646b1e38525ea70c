/- Put together by this session's program out of: Ky. -/
import Derived.Test.YtanabbjakacgbaaDoorM2
namespace Go.Proofs.YtanabbjakacgbaaDoor.Sp
set_option linter.unusedVariables false
end Go.Proofs.YtanabbjakacgbaaDoor.Sp

