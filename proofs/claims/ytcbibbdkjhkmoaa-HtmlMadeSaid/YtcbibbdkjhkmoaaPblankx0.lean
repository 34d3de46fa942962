-- PRINTED BY print.sh 35421559b90ae4d0a3588c463048766b98c2df88dd9212a6774a882060cdf62d: not written by this session
import Derived.Test.YtcbibbdkjhkmoaaProg
import Derived.Below
import Derived.Deep.Draws
import Derived.Deep.AppendLies
import Derived.Maps.AppendAt
import Derived.OwnWalk
import Derived.Laws.BytesArg
import Derived.Laws.MakeOwn
import Derived.Laws.OwnMore
import Derived.Deep.OwnRows
import Derived.Tactics
import Derived.Lib.ConvBytes
import Derived.Laws.Slices
import Derived.WalkKit
import Derived.KernelRfl
import Derived.RowKit3
import Derived.Deep.LoopGhost
import Derived.Deep.QuietTactic
import Derived.BigQuiet
import Derived.WideLaws
import Derived.Deep.DeepCutAuto
import Derived.Deep.CutBlock
import Derived.Deep.RegionHeld3
import Derived.Laws.Rows
import Derived.Lib.AppendStr
import Derived.ArgAppend
import Derived.Laws.IdiomCopy
import Derived.OrdersHeld
import Derived.Laws.BitsLemmas
import Derived.RowKit
import Derived.Test.YtcbibbdkjhkmoaaWWords
import Derived.Test.YtcbibbdkjhkmoaaWLast
import Derived.Test.YtcbibbdkjhkmoaaWTab
import Derived.Test.YtcbibbdkjhkmoaaWFour
import Derived.Test.YtcbibbdkjhkmoaaWQPut
import Derived.Test.YtcbibbdkjhkmoaaWApart
import Derived.Test.YtcbibbdkjhkmoaaWArr
import Derived.Test.YtcbibbdkjhkmoaaWZeros
import Derived.Test.YtcbibbdkjhkmoaaWFoot
import Derived.Test.YtcbibbdkjhkmoaaWKept
import Derived.Test.YtcbibbdkjhkmoaaWShare
import Derived.Test.YtcbibbdkjhkmoaaWN
import Derived.Test.YtcbibbdkjhkmoaaWFootNe
import Derived.Test.YtcbibbdkjhkmoaaWAt
import Derived.Test.YtcbibbdkjhkmoaaWEqStruct
import Derived.Test.YtcbibbdkjhkmoaaWRepsOne
import Derived.Test.YtcbibbdkjhkmoaaWInv
import Derived.Test.YtcbibbdkjhkmoaaWInvWords
import Derived.Test.YtcbibbdkjhkmoaaWGuard
import Derived.Test.YtcbibbdkjhkmoaaWNEv
import Derived.Test.YtcbibbdkjhkmoaaWMore
namespace Go.Proofs.Ytcbibbdkjhkmoaa.Pblank
open Go.RowKit Go.Proofs.YtcbibbdkjhkmoaaW.PrintWords Go.Proofs.YtcbibbdkjhkmoaaW.PrintLast Go.Proofs.YtcbibbdkjhkmoaaW.PrintMore
attribute [local go_sem] max2_int min2_int max_two min_two max_three min_three max_four min_four   -- for this text's walks alone
set_option linter.unusedVariables false
set_option linter.unusedSimpArgs false



def errW : Option Int → Value
  | none => .nilIface
  | some c => .iface 0 (.int .i64 c)
theorem errW_none : errW none = .nilIface := rfl
theorem errW_some (c : Int) : errW (some c) = .iface 0 (.int .i64 c) := rfl

-- the values' own types

end Go.Proofs.Ytcbibbdkjhkmoaa.Pblank
