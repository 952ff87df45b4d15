/- The machine side of laws (their functions as Lean functions, each call answers what they answer), printed by a program for this claim. No condition of its own. -/
import Derived.Test.YtbjijgmafloeaaaPx0
import Derived.Test.YtbjijgmafloeaaaPx1
import Derived.Test.YtbjijgmafloeaaaPx2
import Derived.Test.YtbjijgmafloeaaaPx3
import Derived.Test.YtbjijgmafloeaaaPx4
import Derived.Test.YtbjijgmafloeaaaPx5
import Derived.Test.YtbjijgmafloeaaaPx6
namespace Go.Proofs.Ytbjijgmafloeaaa.P
open Go.RowKit Go.Proofs.YtbjijgmafloeaaaW.PrintWords Go.Proofs.YtbjijgmafloeaaaW.PrintLast Go.Proofs.YtbjijgmafloeaaaW.PrintMore Go.Proofs.Ytbjijgmafloeaaa.Ext
attribute [local go_sem] max2_int min2_int max_two min_two max_three min_three max_four min_four   -- for this text's walks alone
set_option linter.unusedVariables false
set_option linter.unusedSimpArgs false

end Go.Proofs.Ytbjijgmafloeaaa.P
