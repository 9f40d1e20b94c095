-- PRINTED BY print.sh 35421559b90ae4d0a3588c463048766b98c2df88dd9212a6774a882060cdf62d: not written by this session
import Derived.Test.YtlgljlgbnjjieaaDoorProg
import Derived.Below
import Derived.Deep.Draws
import Derived.Deep.AppendLies
import Derived.Maps.AppendAt
import Derived.OwnWalk
import Derived.Laws.BytesArg
import Derived.Laws.MakeOwn
import Derived.Laws.OwnMore
import Derived.Deep.OwnRows
import Derived.Tactics
import Derived.Lib.ConvBytes
import Derived.Laws.Slices
import Derived.WalkKit
import Derived.KernelRfl
import Derived.RowKit3
import Derived.Deep.LoopGhost
import Derived.Deep.QuietTactic
import Derived.BigQuiet
import Derived.WideLaws
import Derived.Deep.DeepCutAuto
import Derived.Deep.CutBlock
import Derived.Deep.RegionHeld3
import Derived.Laws.Rows
import Derived.Lib.AppendStr
import Derived.ArgAppend
import Derived.Laws.IdiomCopy
import Derived.OrdersHeld
import Derived.Laws.BitsLemmas
import Derived.RowKit
import Derived.Test.YtlgljlgbnjjieaaDoorWWords
import Derived.Test.YtlgljlgbnjjieaaDoorWLast
import Derived.Test.YtlgljlgbnjjieaaDoorWTab
import Derived.Test.YtlgljlgbnjjieaaDoorWFour
import Derived.Test.YtlgljlgbnjjieaaDoorWQPut
import Derived.Test.YtlgljlgbnjjieaaDoorWApart
import Derived.Test.YtlgljlgbnjjieaaDoorWArr
import Derived.Test.YtlgljlgbnjjieaaDoorWZeros
import Derived.Test.YtlgljlgbnjjieaaDoorWFoot
import Derived.Test.YtlgljlgbnjjieaaDoorWKept
import Derived.Test.YtlgljlgbnjjieaaDoorWShare
import Derived.Test.YtlgljlgbnjjieaaDoorWN
import Derived.Test.YtlgljlgbnjjieaaDoorWFootNe
import Derived.Test.YtlgljlgbnjjieaaDoorWAt
import Derived.Test.YtlgljlgbnjjieaaDoorWEqStruct
import Derived.Test.YtlgljlgbnjjieaaDoorWRepsOne
import Derived.Test.YtlgljlgbnjjieaaDoorWInv
import Derived.Test.YtlgljlgbnjjieaaDoorWInvWords
import Derived.Test.YtlgljlgbnjjieaaDoorWGuard
import Derived.Test.YtlgljlgbnjjieaaDoorWNEv
import Derived.Test.YtlgljlgbnjjieaaDoorWMore
namespace Go.Proofs.YtlgljlgbnjjieaaDoor.PShaHex
open Go.RowKit Go.Proofs.YtlgljlgbnjjieaaDoorW.PrintWords Go.Proofs.YtlgljlgbnjjieaaDoorW.PrintLast Go.Proofs.YtlgljlgbnjjieaaDoorW.PrintMore
attribute [local go_sem] max2_int min2_int max_two min_two max_three min_three max_four min_four   -- for this text's walks alone
set_option linter.unusedVariables false
set_option linter.unusedSimpArgs false



def errW : Option Int → Value
  | none => .nilIface
  | some c => .iface 0 (.int .i64 c)
theorem errW_none : errW none = .nilIface := rfl
theorem errW_some (c : Int) : errW (some c) = .iface 0 (.int .i64 c) := rfl

-- the values' own types

end Go.Proofs.YtlgljlgbnjjieaaDoor.PShaHex
