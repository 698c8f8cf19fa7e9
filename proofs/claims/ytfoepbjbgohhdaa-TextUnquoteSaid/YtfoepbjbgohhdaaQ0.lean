-- Written by a program of this session (wip/xprint.py) over the kit's print.py; Lean checks it.
import Derived.Test.YtfoepbjbgohhdaaProg
import Derived.Below
import Derived.Deep.Draws
import Derived.Deep.AppendLies
import Derived.Maps.AppendAt
import Derived.OwnWalk
import Derived.Laws.BytesArg
import Derived.Laws.MakeOwn
import Derived.Laws.OwnMore
import Derived.Deep.OwnRows
import Derived.Tactics
import Derived.Lib.ConvBytes
import Derived.Laws.Slices
import Derived.WalkKit
import Derived.KernelRfl
import Derived.RowKit3
import Derived.Deep.LoopGhost
import Derived.Deep.QuietTactic
import Derived.BigQuiet
import Derived.WideLaws
import Derived.Deep.DeepCutAuto
import Derived.Deep.CutBlock
import Derived.Deep.RegionHeld3
import Derived.Laws.Rows
import Derived.Lib.AppendStr
import Derived.ArgAppend
import Derived.Laws.IdiomCopy
import Derived.OrdersHeld
import Derived.Laws.BitsLemmas
import Derived.RowKit
import Derived.Test.YtfoepbjbgohhdaaWWords
import Derived.Test.YtfoepbjbgohhdaaWLast
import Derived.Test.YtfoepbjbgohhdaaWTab
import Derived.Test.YtfoepbjbgohhdaaWFour
import Derived.Test.YtfoepbjbgohhdaaWQPut
import Derived.Test.YtfoepbjbgohhdaaWApart
import Derived.Test.YtfoepbjbgohhdaaWArr
import Derived.Test.YtfoepbjbgohhdaaWZeros
import Derived.Test.YtfoepbjbgohhdaaWFoot
import Derived.Test.YtfoepbjbgohhdaaWKept
import Derived.Test.YtfoepbjbgohhdaaWShare
import Derived.Test.YtfoepbjbgohhdaaWN
import Derived.Test.YtfoepbjbgohhdaaWFootNe
import Derived.Test.YtfoepbjbgohhdaaWAt
import Derived.Test.YtfoepbjbgohhdaaWEqStruct
import Derived.Test.YtfoepbjbgohhdaaWRepsOne
import Derived.Test.YtfoepbjbgohhdaaWInv
import Derived.Test.YtfoepbjbgohhdaaWInvWords
import Derived.Test.YtfoepbjbgohhdaaWGuard
import Derived.Test.YtfoepbjbgohhdaaWNEv
import Derived.Test.YtfoepbjbgohhdaaWMore
import Derived.Test.YtfoepbjbgohhdaaShelf
import Derived.Test.YtfoepbjbgohhdaaTxt
import Derived.Test.YtfoepbjbgohhdaaBld
namespace Go.Proofs.Ytfoepbjbgohhdaa.Q
open Go.RowKit Go.Proofs.YtfoepbjbgohhdaaW.PrintWords Go.Proofs.YtfoepbjbgohhdaaW.PrintLast Go.Proofs.YtfoepbjbgohhdaaW.PrintMore
attribute [local go_sem] max2_int min2_int max_two min_two max_three min_three max_four min_four   -- for this text's walks alone
open Go.Proofs.Ytfoepbjbgohhdaa.X
set_option linter.unusedVariables false
set_option linter.unusedSimpArgs false



def errW : Option Int → Value
  | none => .nilIface
  | some c => .iface 0 (.int .i64 c)
theorem errW_none : errW none = .nilIface := rfl
theorem errW_some (c : Int) : errW (some c) = .iface 0 (.int .i64 c) := rfl

theorem info5 : (Try.prog.info? 5).map (fun i => (i.zero, i.size, i.bytes)) = some (some (.int .u8 0), 1, 1) := by kernel_rfl
-- the values' own types

end Go.Proofs.Ytfoepbjbgohhdaa.Q
