/- What each function comes to, a contract of its call each (and the row of a law out of its plain statement); no condition beyond what stands in each. -/
import Derived.Test.YtkggdnnhgafopaaDoorProg
import Derived.Below
import Derived.Deep.Draws
import Derived.Deep.AppendLies
import Derived.Maps.AppendAt
import Derived.OwnWalk
import Derived.Laws.BytesArg
import Derived.Laws.MakeOwn
import Derived.Laws.OwnMore
import Derived.Deep.OwnRows
import Derived.Tactics
import Derived.Lib.ConvBytes
import Derived.Laws.Slices
import Derived.WalkKit
import Derived.KernelRfl
import Derived.RowKit3
import Derived.Deep.LoopGhost
import Derived.Deep.QuietTactic
import Derived.BigQuiet
import Derived.WideLaws
import Derived.Deep.DeepCutAuto
import Derived.Deep.CutBlock
import Derived.Deep.RegionHeld3
import Derived.Laws.Rows
import Derived.Lib.AppendStr
import Derived.ArgAppend
import Derived.Laws.IdiomCopy
import Derived.OrdersHeld
import Derived.Laws.BitsLemmas
import Derived.RowKit
import Derived.Test.YtkggdnnhgafopaaDoorSch8
import Derived.Test.YtkggdnnhgafopaaDoorK0
import Derived.Test.YtkggdnnhgafopaaDoorK1
import Derived.Test.YtkggdnnhgafopaaDoorK2
import Derived.Test.YtkggdnnhgafopaaDoorK3
import Derived.Test.YtkggdnnhgafopaaDoorK4
import Derived.Test.YtkggdnnhgafopaaDoorK5
import Derived.Test.YtkggdnnhgafopaaDoorK6
import Derived.Test.YtkggdnnhgafopaaDoorK7
import Derived.Test.YtkggdnnhgafopaaDoorG0
import Derived.Test.YtkggdnnhgafopaaDoorG1
import Derived.Test.YtkggdnnhgafopaaDoorJ0
import Derived.Test.YtkggdnnhgafopaaDoorJ1
import Derived.Test.YtkggdnnhgafopaaDoorWWords
import Derived.Test.YtkggdnnhgafopaaDoorWLast
import Derived.Test.YtkggdnnhgafopaaDoorWTab
import Derived.Test.YtkggdnnhgafopaaDoorWEqStruct
import Derived.Test.YtkggdnnhgafopaaDoorWRepsOne
import Derived.Test.YtkggdnnhgafopaaDoorWMx
namespace Go.Proofs.YtkggdnnhgafopaaDoor.Lp
open Go.RowKit Go.Proofs.YtkggdnnhgafopaaDoorW.PrintWords Go.Proofs.YtkggdnnhgafopaaDoorW.PrintLast Go.Proofs.YtkggdnnhgafopaaDoorW.PrintMore
open Go.Proofs.YtkggdnnhgafopaaDoor.Kp
open Go.Proofs.YtkggdnnhgafopaaDoor.Gp
open Go.Proofs.YtkggdnnhgafopaaDoor.Jp
attribute [local go_sem] max2_int min2_int max_two min_two max_three min_three max_four min_four   -- for this text's walks alone
set_option linter.unusedVariables false
set_option linter.unusedSimpArgs false



def errW : Option Int → Value
  | none => .nilIface
  | some c => .iface 0 (.int .i64 c)
theorem errW_none : errW none = .nilIface := rfl
theorem errW_some (c : Int) : errW (some c) = .iface 0 (.int .i64 c) := rfl

theorem info9 : (Tryd.prog.info? 9).map (fun i => (i.zero, i.size, i.bytes)) = some (some (.string ⟨#[]⟩), 1, 16) := by kernel_rfl
-- the values' own types
/-! #### struct type 25 -/

end Go.Proofs.YtkggdnnhgafopaaDoor.Lp
