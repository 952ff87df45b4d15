/- The machine side of laws (their functions as Lean functions, each call answers what they answer), printed by a program for this claim. No condition of its own. -/
import Derived.Test.YtdimpgfegdnhaaaProg
import Derived.Below
import Derived.Deep.Draws
import Derived.Deep.AppendLies
import Derived.Maps.AppendAt
import Derived.OwnWalk
import Derived.Laws.BytesArg
import Derived.Laws.MakeOwn
import Derived.Laws.OwnMore
import Derived.Deep.OwnRows
import Derived.Tactics
import Derived.Lib.ConvBytes
import Derived.Laws.Slices
import Derived.WalkKit
import Derived.KernelRfl
import Derived.RowKit3
import Derived.Deep.LoopGhost
import Derived.Deep.QuietTactic
import Derived.BigQuiet
import Derived.WideLaws
import Derived.Deep.DeepCutAuto
import Derived.Deep.CutBlock
import Derived.Deep.RegionHeld3
import Derived.Laws.Rows
import Derived.Lib.AppendStr
import Derived.ArgAppend
import Derived.Laws.IdiomCopy
import Derived.OrdersHeld
import Derived.Laws.BitsLemmas
import Derived.RowKit
import Derived.Test.YtdimpgfegdnhaaaVExtB
import Derived.Test.YtdimpgfegdnhaaaWWords
import Derived.Test.YtdimpgfegdnhaaaWLast
import Derived.Test.YtdimpgfegdnhaaaWTab
import Derived.Test.YtdimpgfegdnhaaaWFour
import Derived.Test.YtdimpgfegdnhaaaWQPut
import Derived.Test.YtdimpgfegdnhaaaWApart
import Derived.Test.YtdimpgfegdnhaaaWArr
import Derived.Test.YtdimpgfegdnhaaaWZeros
import Derived.Test.YtdimpgfegdnhaaaWFoot
import Derived.Test.YtdimpgfegdnhaaaWKept
import Derived.Test.YtdimpgfegdnhaaaWShare
import Derived.Test.YtdimpgfegdnhaaaWN
import Derived.Test.YtdimpgfegdnhaaaWFootNe
import Derived.Test.YtdimpgfegdnhaaaWAt
import Derived.Test.YtdimpgfegdnhaaaWEqStruct
import Derived.Test.YtdimpgfegdnhaaaWRepsOne
import Derived.Test.YtdimpgfegdnhaaaWInv
import Derived.Test.YtdimpgfegdnhaaaWInvWords
import Derived.Test.YtdimpgfegdnhaaaWGuard
import Derived.Test.YtdimpgfegdnhaaaWNEv
import Derived.Test.YtdimpgfegdnhaaaWMore
namespace Go.Proofs.Ytdimpgfegdnhaaa.P
set_option maxRecDepth 100000
open Go.RowKit Go.Proofs.YtdimpgfegdnhaaaW.PrintWords Go.Proofs.YtdimpgfegdnhaaaW.PrintLast Go.Proofs.YtdimpgfegdnhaaaW.PrintMore Go.Proofs.Ytdimpgfegdnhaaa.Ext
attribute [local go_sem] max2_int min2_int max_two min_two max_three min_three max_four min_four   -- for this text's walks alone
set_option linter.unusedVariables false
set_option linter.unusedSimpArgs false



def errW : Option Int → Value
  | none => .nilIface
  | some c => .iface 0 (.int .i64 c)
theorem errW_none : errW none = .nilIface := rfl
theorem errW_some (c : Int) : errW (some c) = .iface 0 (.int .i64 c) := rfl

theorem info5 : (Try.prog.info? 5).map (fun i => (i.zero, i.size, i.bytes)) = some (some (.int .u8 0), 1, 1) := by kernel_rfl
-- the values' own types

end Go.Proofs.Ytdimpgfegdnhaaa.P
