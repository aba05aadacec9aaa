/- What each function comes to, a contract of its call each (and the row of a law out of its plain statement); no condition beyond what stands in each. -/
import Derived.Test.YtjgapipknabgiaaProg
import Derived.Below
import Derived.Deep.Draws
import Derived.Deep.AppendLies
import Derived.Maps.AppendAt
import Derived.OwnWalk
import Derived.Laws.BytesArg
import Derived.Laws.MakeOwn
import Derived.Laws.OwnMore
import Derived.Deep.OwnRows
import Derived.Tactics
import Derived.Lib.ConvBytes
import Derived.Laws.Slices
import Derived.WalkKit
import Derived.KernelRfl
import Derived.RowKit3
import Derived.Deep.LoopGhost
import Derived.Deep.QuietTactic
import Derived.BigQuiet
import Derived.WideLaws
import Derived.Deep.DeepCutAuto
import Derived.Deep.CutBlock
import Derived.Deep.RegionHeld3
import Derived.Laws.Rows
import Derived.Lib.AppendStr
import Derived.ArgAppend
import Derived.Laws.IdiomCopy
import Derived.OrdersHeld
import Derived.Laws.BitsLemmas
import Derived.RowKit
import Derived.Test.YtjgapipknabgiaaPut
import Derived.Test.YtjgapipknabgiaaMul
import Derived.Test.YtjgapipknabgiaaWWords
import Derived.Test.YtjgapipknabgiaaWLast
import Derived.Test.YtjgapipknabgiaaWTab
import Derived.Test.YtjgapipknabgiaaWFour
import Derived.Test.YtjgapipknabgiaaWQPut
import Derived.Test.YtjgapipknabgiaaWApart
import Derived.Test.YtjgapipknabgiaaWArr
import Derived.Test.YtjgapipknabgiaaWZeros
import Derived.Test.YtjgapipknabgiaaWFoot
import Derived.Test.YtjgapipknabgiaaWKept
import Derived.Test.YtjgapipknabgiaaWShare
import Derived.Test.YtjgapipknabgiaaWN
import Derived.Test.YtjgapipknabgiaaWFootNe
import Derived.Test.YtjgapipknabgiaaWAt
import Derived.Test.YtjgapipknabgiaaWEqStruct
import Derived.Test.YtjgapipknabgiaaWRepsOne
import Derived.Test.YtjgapipknabgiaaWInv
import Derived.Test.YtjgapipknabgiaaWInvWords
import Derived.Test.YtjgapipknabgiaaWGuard
import Derived.Test.YtjgapipknabgiaaWNEv
import Derived.Test.YtjgapipknabgiaaWMore
namespace Go.Proofs.Ytjgapipknabgiaa.Hp
open Go.RowKit Go.Proofs.YtjgapipknabgiaaW.PrintWords Go.Proofs.YtjgapipknabgiaaW.PrintLast Go.Proofs.YtjgapipknabgiaaW.PrintMore
attribute [local go_sem] max2_int min2_int max_two min_two max_three min_three max_four min_four   -- for this text's walks alone
set_option linter.unusedVariables false
set_option linter.unusedSimpArgs false



def errW : Option Int → Value
  | none => .nilIface
  | some c => .iface 0 (.int .i64 c)
theorem errW_none : errW none = .nilIface := rfl
theorem errW_some (c : Int) : errW (some c) = .iface 0 (.int .i64 c) := rfl

theorem info5 : (Try.prog.info? 5).map (fun i => (i.zero, i.size, i.bytes)) = some (some (.int .u8 0), 1, 1) := by kernel_rfl
-- the values' own types

end Go.Proofs.Ytjgapipknabgiaa.Hp
