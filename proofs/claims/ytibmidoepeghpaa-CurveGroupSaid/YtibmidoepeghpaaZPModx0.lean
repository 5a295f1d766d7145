-- written for this claim by a program of this session (an adapted printer)
import Derived.Test.YtibmidoepeghpaaProg
import Derived.Below
import Derived.Deep.Draws
import Derived.Deep.AppendLies
import Derived.Maps.AppendAt
import Derived.OwnWalk
import Derived.Laws.BytesArg
import Derived.Laws.MakeOwn
import Derived.Laws.OwnMore
import Derived.Deep.OwnRows
import Derived.Tactics
import Derived.Lib.ConvBytes
import Derived.Laws.Slices
import Derived.WalkKit
import Derived.KernelRfl
import Derived.RowKit3
import Derived.Deep.LoopGhost
import Derived.Deep.QuietTactic
import Derived.BigQuiet
import Derived.WideLaws
import Derived.Deep.DeepCutAuto
import Derived.Deep.CutBlock
import Derived.Deep.RegionHeld3
import Derived.Laws.Rows
import Derived.Lib.AppendStr
import Derived.ArgAppend
import Derived.Laws.IdiomCopy
import Derived.OrdersHeld
import Derived.Laws.BitsLemmas
import Derived.RowKit
import Derived.Test.YtibmidoepeghpaaZBits
import Derived.Test.YtibmidoepeghpaaZDiv
import Derived.Test.YtibmidoepeghpaaZWWords
import Derived.Test.YtibmidoepeghpaaZWLast
import Derived.Test.YtibmidoepeghpaaZWTab
import Derived.Test.YtibmidoepeghpaaZWFour
import Derived.Test.YtibmidoepeghpaaZWQPut
import Derived.Test.YtibmidoepeghpaaZWApart
import Derived.Test.YtibmidoepeghpaaZWArr
import Derived.Test.YtibmidoepeghpaaZWZeros
import Derived.Test.YtibmidoepeghpaaZWFoot
import Derived.Test.YtibmidoepeghpaaZWKept
import Derived.Test.YtibmidoepeghpaaZWShare
import Derived.Test.YtibmidoepeghpaaZWN
import Derived.Test.YtibmidoepeghpaaZWFootNe
import Derived.Test.YtibmidoepeghpaaZWAt
import Derived.Test.YtibmidoepeghpaaZWEqStruct
import Derived.Test.YtibmidoepeghpaaZWRepsOne
import Derived.Test.YtibmidoepeghpaaZWInv
import Derived.Test.YtibmidoepeghpaaZWInvWords
import Derived.Test.YtibmidoepeghpaaZWGuard
import Derived.Test.YtibmidoepeghpaaZWNEv
import Derived.Test.YtibmidoepeghpaaZWMore
namespace Go.Proofs.Ytibmidoepeghpaa.PMod
open Go.Proofs.Ytibmidoepeghpaa.G
open Go.RowKit Go.Proofs.YtibmidoepeghpaaW.PrintWords Go.Proofs.YtibmidoepeghpaaW.PrintLast Go.Proofs.YtibmidoepeghpaaW.PrintMore
attribute [local go_sem] max2_int min2_int max_two min_two max_three min_three max_four min_four   -- for this text's walks alone
set_option linter.unusedVariables false
set_option linter.unusedSimpArgs false



def errW : Option Int → Value
  | none => .nilIface
  | some c => .iface 38 (.int .i64 c)
theorem errW_none : errW none = .nilIface := rfl
theorem errW_some (c : Int) : errW (some c) = .iface 38 (.int .i64 c) := rfl

-- the values' own types

end Go.Proofs.Ytibmidoepeghpaa.PMod
