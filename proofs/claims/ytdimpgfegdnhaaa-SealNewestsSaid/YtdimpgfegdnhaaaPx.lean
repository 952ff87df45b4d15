/- The machine side of laws (their functions as Lean functions, each call answers what they answer), printed by a program for this claim. No condition of its own. -/
import Derived.Test.YtdimpgfegdnhaaaPx0
import Derived.Test.YtdimpgfegdnhaaaPx1
import Derived.Test.YtdimpgfegdnhaaaPx2
import Derived.Test.YtdimpgfegdnhaaaPx3
import Derived.Test.YtdimpgfegdnhaaaPx4
import Derived.Test.YtdimpgfegdnhaaaPx5
import Derived.Test.YtdimpgfegdnhaaaPx6
namespace Go.Proofs.Ytdimpgfegdnhaaa.P
set_option maxRecDepth 100000
open Go.RowKit Go.Proofs.YtdimpgfegdnhaaaW.PrintWords Go.Proofs.YtdimpgfegdnhaaaW.PrintLast Go.Proofs.YtdimpgfegdnhaaaW.PrintMore Go.Proofs.Ytdimpgfegdnhaaa.Ext
attribute [local go_sem] max2_int min2_int max_two min_two max_three min_three max_four min_four   -- for this text's walks alone
set_option linter.unusedVariables false
set_option linter.unusedSimpArgs false

end Go.Proofs.Ytdimpgfegdnhaaa.P
