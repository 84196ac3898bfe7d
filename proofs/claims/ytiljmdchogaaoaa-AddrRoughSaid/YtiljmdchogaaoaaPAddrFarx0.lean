-- PRINTED BY print.sh 35421559b90ae4d0a3588c463048766b98c2df88dd9212a6774a882060cdf62d: not written by this session
import Derived.Test.YtiljmdchogaaoaaProg
import Derived.Below
import Derived.Deep.Draws
import Derived.Deep.AppendLies
import Derived.Maps.AppendAt
import Derived.OwnWalk
import Derived.Laws.BytesArg
import Derived.Laws.MakeOwn
import Derived.Laws.OwnMore
import Derived.Deep.OwnRows
import Derived.Tactics
import Derived.Lib.ConvBytes
import Derived.Laws.Slices
import Derived.WalkKit
import Derived.KernelRfl
import Derived.RowKit3
import Derived.Deep.LoopGhost
import Derived.Deep.QuietTactic
import Derived.BigQuiet
import Derived.WideLaws
import Derived.Deep.DeepCutAuto
import Derived.Deep.CutBlock
import Derived.Deep.RegionHeld3
import Derived.Laws.Rows
import Derived.Lib.AppendStr
import Derived.ArgAppend
import Derived.Laws.IdiomCopy
import Derived.OrdersHeld
import Derived.Laws.BitsLemmas
import Derived.RowKit
import Derived.Test.YtiljmdchogaaoaaWWords
import Derived.Test.YtiljmdchogaaoaaWLast
import Derived.Test.YtiljmdchogaaoaaWTab
import Derived.Test.YtiljmdchogaaoaaWFour
import Derived.Test.YtiljmdchogaaoaaWQPut
import Derived.Test.YtiljmdchogaaoaaWApart
import Derived.Test.YtiljmdchogaaoaaWArr
import Derived.Test.YtiljmdchogaaoaaWZeros
import Derived.Test.YtiljmdchogaaoaaWFoot
import Derived.Test.YtiljmdchogaaoaaWKept
import Derived.Test.YtiljmdchogaaoaaWShare
import Derived.Test.YtiljmdchogaaoaaWN
import Derived.Test.YtiljmdchogaaoaaWFootNe
import Derived.Test.YtiljmdchogaaoaaWAt
import Derived.Test.YtiljmdchogaaoaaWEqStruct
import Derived.Test.YtiljmdchogaaoaaWRepsOne
import Derived.Test.YtiljmdchogaaoaaWInv
import Derived.Test.YtiljmdchogaaoaaWInvWords
import Derived.Test.YtiljmdchogaaoaaWGuard
import Derived.Test.YtiljmdchogaaoaaWNEv
import Derived.Test.YtiljmdchogaaoaaWMore
namespace Go.Proofs.Ytiljmdchogaaoaa.PAddrFar
open Go.RowKit Go.Proofs.YtiljmdchogaaoaaW.PrintWords Go.Proofs.YtiljmdchogaaoaaW.PrintLast Go.Proofs.YtiljmdchogaaoaaW.PrintMore
attribute [local go_sem] max2_int min2_int max_two min_two max_three min_three max_four min_four   -- for this text's walks alone
set_option linter.unusedVariables false
set_option linter.unusedSimpArgs false



def errW : Option Int → Value
  | none => .nilIface
  | some c => .iface 0 (.int .i64 c)
theorem errW_none : errW none = .nilIface := rfl
theorem errW_some (c : Int) : errW (some c) = .iface 0 (.int .i64 c) := rfl

theorem info22 : (Try.prog.info? 22).map (fun i => (i.zero, i.size, i.bytes)) = some (some (.int .u16 0), 1, 2) := by kernel_rfl
-- the values' own types

end Go.Proofs.Ytiljmdchogaaoaa.PAddrFar
