/- What each function comes to, a contract of its call each (and the row of a law out of its plain statement); no condition beyond what stands in each. -/
import Derived.Test.YtkggdnnhgafopaaDoorK0
import Derived.Test.YtkggdnnhgafopaaDoorK1
import Derived.Test.YtkggdnnhgafopaaDoorK2
import Derived.Test.YtkggdnnhgafopaaDoorK3
import Derived.Test.YtkggdnnhgafopaaDoorK4
import Derived.Test.YtkggdnnhgafopaaDoorK5
import Derived.Test.YtkggdnnhgafopaaDoorK6
import Derived.Test.YtkggdnnhgafopaaDoorK7
namespace Go.Proofs.YtkggdnnhgafopaaDoor.Kp
open Go.RowKit Go.Proofs.YtkggdnnhgafopaaDoorW.PrintWords Go.Proofs.YtkggdnnhgafopaaDoorW.PrintLast Go.Proofs.YtkggdnnhgafopaaDoorW.PrintMore
attribute [local go_sem] max2_int min2_int max_two min_two max_three min_three max_four min_four   -- for this text's walks alone
set_option linter.unusedVariables false
set_option linter.unusedSimpArgs false

end Go.Proofs.YtkggdnnhgafopaaDoor.Kp
