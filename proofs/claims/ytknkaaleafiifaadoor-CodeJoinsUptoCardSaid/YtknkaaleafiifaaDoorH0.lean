/- What each function comes to, a contract of its call each (and the row of a law out of its plain statement); no condition beyond what stands in each. -/
import Derived.Test.YtknkaaleafiifaaDoorProg
import Derived.Below
import Derived.Deep.Draws
import Derived.Deep.AppendLies
import Derived.Maps.AppendAt
import Derived.OwnWalk
import Derived.Laws.BytesArg
import Derived.Laws.MakeOwn
import Derived.Laws.OwnMore
import Derived.Deep.OwnRows
import Derived.Tactics
import Derived.Lib.ConvBytes
import Derived.Laws.Slices
import Derived.WalkKit
import Derived.KernelRfl
import Derived.RowKit3
import Derived.Deep.LoopGhost
import Derived.Deep.QuietTactic
import Derived.BigQuiet
import Derived.WideLaws
import Derived.Deep.DeepCutAuto
import Derived.Deep.CutBlock
import Derived.Deep.RegionHeld3
import Derived.Laws.Rows
import Derived.Lib.AppendStr
import Derived.ArgAppend
import Derived.Laws.IdiomCopy
import Derived.OrdersHeld
import Derived.Laws.BitsLemmas
import Derived.RowKit
import Derived.Test.YtknkaaleafiifaaDoorFirst
import Derived.Test.YtknkaaleafiifaaDoorK0
import Derived.Test.YtknkaaleafiifaaDoorK1
import Derived.Test.YtknkaaleafiifaaDoorK2
import Derived.Test.YtknkaaleafiifaaDoorK3
import Derived.Test.YtknkaaleafiifaaDoorWWords
import Derived.Test.YtknkaaleafiifaaDoorWLast
import Derived.Test.YtknkaaleafiifaaDoorWTab
import Derived.Test.YtknkaaleafiifaaDoorWFour
import Derived.Test.YtknkaaleafiifaaDoorWQPut
import Derived.Test.YtknkaaleafiifaaDoorWApart
import Derived.Test.YtknkaaleafiifaaDoorWArr
import Derived.Test.YtknkaaleafiifaaDoorWZeros
import Derived.Test.YtknkaaleafiifaaDoorWFoot
import Derived.Test.YtknkaaleafiifaaDoorWKept
import Derived.Test.YtknkaaleafiifaaDoorWShare
import Derived.Test.YtknkaaleafiifaaDoorWN
import Derived.Test.YtknkaaleafiifaaDoorWFootNe
import Derived.Test.YtknkaaleafiifaaDoorWAt
import Derived.Test.YtknkaaleafiifaaDoorWEqStruct
import Derived.Test.YtknkaaleafiifaaDoorWRepsOne
import Derived.Test.YtknkaaleafiifaaDoorWInv
import Derived.Test.YtknkaaleafiifaaDoorWInvWords
import Derived.Test.YtknkaaleafiifaaDoorWGuard
import Derived.Test.YtknkaaleafiifaaDoorWNEv
import Derived.Test.YtknkaaleafiifaaDoorWMore
namespace Go.Proofs.YtknkaaleafiifaaDoor.Hp
open Go.RowKit Go.Proofs.YtknkaaleafiifaaDoorW.PrintWords Go.Proofs.YtknkaaleafiifaaDoorW.PrintLast Go.Proofs.YtknkaaleafiifaaDoorW.PrintMore
open Go.Proofs.YtknkaaleafiifaaDoor.Kp
attribute [local go_sem] max2_int min2_int max_two min_two max_three min_three max_four min_four   -- for this text's walks alone
set_option linter.unusedVariables false
set_option linter.unusedSimpArgs false



def errW : Option Int → Value
  | none => .nilIface
  | some c => .iface 0 (.int .i64 c)
theorem errW_none : errW none = .nilIface := rfl
theorem errW_some (c : Int) : errW (some c) = .iface 0 (.int .i64 c) := rfl

theorem info32 : (Tryd.prog.info? 32).map (fun i => (i.zero, i.size, i.bytes)) = some (some (.agg #[(.int .i64 0), (.int .i64 0), (.string ⟨#[]⟩)]), 3, 32) := by kernel_rfl
-- the values' own types
/-! #### struct type 32 -/

end Go.Proofs.YtknkaaleafiifaaDoor.Hp
