/- Printed by this session's program pp.py: the functions that the law uses as plain functions, and that each call comes to just what its plain function tells; in the last text the row itself. No conditions but those that stand in each statement. -/
import Derived.Test.YtaogafapkblchaaProg
import Derived.Below
import Derived.Deep.Draws
import Derived.Deep.AppendLies
import Derived.Maps.AppendAt
import Derived.OwnWalk
import Derived.Laws.BytesArg
import Derived.Laws.MakeOwn
import Derived.Laws.OwnMore
import Derived.Deep.OwnRows
import Derived.Tactics
import Derived.Lib.ConvBytes
import Derived.Laws.Slices
import Derived.WalkKit
import Derived.KernelRfl
import Derived.RowKit3
import Derived.Deep.LoopGhost
import Derived.Deep.QuietTactic
import Derived.BigQuiet
import Derived.WideLaws
import Derived.Deep.DeepCutAuto
import Derived.Deep.CutBlock
import Derived.Deep.RegionHeld3
import Derived.Laws.Rows
import Derived.Lib.AppendStr
import Derived.ArgAppend
import Derived.Laws.IdiomCopy
import Derived.OrdersHeld
import Derived.Laws.BitsLemmas
import Derived.RowKit
import Derived.Test.YtaogafapkblchaaSteps
import Derived.Test.YtaogafapkblchaaRef
import Derived.Test.YtaogafapkblchaaWWords
import Derived.Test.YtaogafapkblchaaWLast
import Derived.Test.YtaogafapkblchaaWTab
import Derived.Test.YtaogafapkblchaaWFour
import Derived.Test.YtaogafapkblchaaWQPut
import Derived.Test.YtaogafapkblchaaWApart
import Derived.Test.YtaogafapkblchaaWArr
import Derived.Test.YtaogafapkblchaaWZeros
import Derived.Test.YtaogafapkblchaaWFoot
import Derived.Test.YtaogafapkblchaaWKept
import Derived.Test.YtaogafapkblchaaWShare
import Derived.Test.YtaogafapkblchaaWN
import Derived.Test.YtaogafapkblchaaWFootNe
import Derived.Test.YtaogafapkblchaaWAt
import Derived.Test.YtaogafapkblchaaWEqStruct
import Derived.Test.YtaogafapkblchaaWRepsOne
import Derived.Test.YtaogafapkblchaaWInv
import Derived.Test.YtaogafapkblchaaWInvWords
import Derived.Test.YtaogafapkblchaaWGuard
import Derived.Test.YtaogafapkblchaaWNEv
import Derived.Test.YtaogafapkblchaaWMore
namespace Go.Proofs.Ytaogafapkblchaa.PLubyAny
open Go.RowKit Go.Proofs.YtaogafapkblchaaW.PrintWords Go.Proofs.YtaogafapkblchaaW.PrintLast Go.Proofs.YtaogafapkblchaaW.PrintMore
attribute [local go_sem] max2_int min2_int max_two min_two max_three min_three max_four min_four   -- for this text's walks alone
set_option linter.unusedVariables false
set_option linter.unusedSimpArgs false



def errW : Option Int → Value
  | none => .nilIface
  | some c => .iface 0 (.int .i64 c)
theorem errW_none : errW none = .nilIface := rfl
theorem errW_some (c : Int) : errW (some c) = .iface 0 (.int .i64 c) := rfl

theorem info3 : (Try.prog.info? 3).map (fun i => (i.zero, i.size, i.bytes)) = some (some (.int .i64 0), 1, 8) := by kernel_rfl
-- the values' own types

end Go.Proofs.Ytaogafapkblchaa.PLubyAny
