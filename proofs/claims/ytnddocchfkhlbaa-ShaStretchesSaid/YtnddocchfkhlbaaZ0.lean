-- Written by a program of this session (gprint.py, over the kit's printer).
import Derived.Test.YtnddocchfkhlbaaProg
import Derived.Below
import Derived.Deep.Draws
import Derived.Deep.AppendLies
import Derived.Maps.AppendAt
import Derived.OwnWalk
import Derived.Laws.BytesArg
import Derived.Laws.MakeOwn
import Derived.Laws.OwnMore
import Derived.Deep.OwnRows
import Derived.Tactics
import Derived.Lib.ConvBytes
import Derived.Laws.Slices
import Derived.WalkKit
import Derived.KernelRfl
import Derived.RowKit3
import Derived.Deep.LoopGhost
import Derived.Deep.QuietTactic
import Derived.BigQuiet
import Derived.WideLaws
import Derived.Deep.DeepCutAuto
import Derived.Deep.CutBlock
import Derived.Deep.RegionHeld3
import Derived.Laws.Rows
import Derived.Lib.AppendStr
import Derived.ArgAppend
import Derived.Laws.IdiomCopy
import Derived.OrdersHeld
import Derived.Laws.BitsLemmas
import Derived.RowKit
import Derived.Test.YtnddocchfkhlbaaWWords
import Derived.Test.YtnddocchfkhlbaaWLast
import Derived.Test.YtnddocchfkhlbaaWTab
import Derived.Test.YtnddocchfkhlbaaWFour
import Derived.Test.YtnddocchfkhlbaaWQPut
import Derived.Test.YtnddocchfkhlbaaWApart
import Derived.Test.YtnddocchfkhlbaaWArr
import Derived.Test.YtnddocchfkhlbaaWZeros
import Derived.Test.YtnddocchfkhlbaaWFoot
import Derived.Test.YtnddocchfkhlbaaWKept
import Derived.Test.YtnddocchfkhlbaaWShare
import Derived.Test.YtnddocchfkhlbaaWN
import Derived.Test.YtnddocchfkhlbaaWFootNe
import Derived.Test.YtnddocchfkhlbaaWAt
import Derived.Test.YtnddocchfkhlbaaWEqStruct
import Derived.Test.YtnddocchfkhlbaaWRepsOne
import Derived.Test.YtnddocchfkhlbaaWInv
import Derived.Test.YtnddocchfkhlbaaWInvWords
import Derived.Test.YtnddocchfkhlbaaWGuard
import Derived.Test.YtnddocchfkhlbaaWNEv
import Derived.Test.YtnddocchfkhlbaaWMore
namespace Go.Proofs.YtnddocchfkhlbaaZ
open Go.RowKit Go.Proofs.YtnddocchfkhlbaaW.PrintWords Go.Proofs.YtnddocchfkhlbaaW.PrintLast Go.Proofs.YtnddocchfkhlbaaW.PrintMore
attribute [local go_sem] max2_int min2_int max_two min_two max_three min_three max_four min_four   -- for this text's walks alone
set_option linter.unusedVariables false
set_option linter.unusedSimpArgs false



def errW : Option Int → Value
  | none => .nilIface
  | some c => .iface 0 (.int .i64 c)
theorem errW_none : errW none = .nilIface := rfl
theorem errW_some (c : Int) : errW (some c) = .iface 0 (.int .i64 c) := rfl

theorem info3 : (Try.prog.info? 3).map (fun i => (i.zero, i.size, i.bytes)) = some (some (.int .i64 0), 1, 8) := by kernel_rfl
theorem info5 : (Try.prog.info? 5).map (fun i => (i.zero, i.size, i.bytes)) = some (some (.int .u8 0), 1, 1) := by kernel_rfl
theorem info43 : (Try.prog.info? 43).map (fun i => (i.zero, i.size, i.bytes)) = some (some (.int .u64 0), 1, 8) := by kernel_rfl
-- the values' own types

end Go.Proofs.YtnddocchfkhlbaaZ
