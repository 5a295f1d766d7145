-- written for this claim by a program of this session (an adapted printer)
import Derived.Test.YtibmidoepeghpaaZPCurx0
import Derived.Test.YtibmidoepeghpaaZPCurx5
namespace Go.Proofs.Ytibmidoepeghpaa.PCur
open Go.Proofs.Ytibmidoepeghpaa.G
open Go.Proofs.Ytibmidoepeghpaa.PMod (errW errW_none errW_some)
open Go.RowKit Go.Proofs.YtibmidoepeghpaaW.PrintWords Go.Proofs.YtibmidoepeghpaaW.PrintLast Go.Proofs.YtibmidoepeghpaaW.PrintMore
attribute [local go_sem] max2_int min2_int max_two min_two max_three min_three max_four min_four   -- for this text's walks alone
set_option linter.unusedVariables false
set_option linter.unusedSimpArgs false

/-! ### obolref03_Sum: function 18 -/
/-! ### obolref03_Is: function 19 -/
/-! ### obolref03_Times: function 22 -/
/-! ### obolref03_In: function 25 -/
/-! ### obolref03_Sure: function 15 -/
/-! ### obolref03_Gen: function 31 -/
end Go.Proofs.Ytibmidoepeghpaa.PCur
