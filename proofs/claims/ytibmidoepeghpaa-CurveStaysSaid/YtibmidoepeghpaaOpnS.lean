/- What CurveStays needs, in one text. -/
import Derived.Test.YtibmidoepeghpaaCurZ
import Derived.Test.YtibmidoepeghpaaOpnC
import Derived.Test.YtibmidoepeghpaaOpnD
import Derived.Test.YtibmidoepeghpaaProg
import Derived.KernelRfl
set_option linter.unusedVariables false
set_option linter.unusedSimpArgs false
set_option maxRecDepth 10000
open Go Go.Proofs.Ytibmidoepeghpaa.E Go.Proofs
namespace Go.Proofs.Ytibmidoepeghpaa.E.M
end Go.Proofs.Ytibmidoepeghpaa.E.M

