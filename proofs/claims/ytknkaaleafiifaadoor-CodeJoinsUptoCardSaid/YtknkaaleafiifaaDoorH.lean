/- What each function comes to, a contract of its call each (and the row of a law out of its plain statement); no condition beyond what stands in each. -/
import Derived.Test.YtknkaaleafiifaaDoorH0
import Derived.Test.YtknkaaleafiifaaDoorH1
import Derived.Test.YtknkaaleafiifaaDoorH2
import Derived.Test.YtknkaaleafiifaaDoorH3
namespace Go.Proofs.YtknkaaleafiifaaDoor.Hp
open Go.RowKit Go.Proofs.YtknkaaleafiifaaDoorW.PrintWords Go.Proofs.YtknkaaleafiifaaDoorW.PrintLast Go.Proofs.YtknkaaleafiifaaDoorW.PrintMore
open Go.Proofs.YtknkaaleafiifaaDoor.Kp
attribute [local go_sem] max2_int min2_int max_two min_two max_three min_three max_four min_four   -- for this text's walks alone
set_option linter.unusedVariables false
set_option linter.unusedSimpArgs false

end Go.Proofs.YtknkaaleafiifaaDoor.Hp
