-- Written for this claim by a program of this seat (the kit's printer, widened): Lean checks it.
import Derived.Test.YthamfldeoglfoaaProg
import Derived.Below
import Derived.Deep.Draws
import Derived.Deep.AppendLies
import Derived.Maps.AppendAt
import Derived.OwnWalk
import Derived.Laws.BytesArg
import Derived.Laws.MakeOwn
import Derived.Laws.OwnMore
import Derived.Deep.OwnRows
import Derived.Tactics
import Derived.Lib.ConvBytes
import Derived.Laws.Slices
import Derived.WalkKit
import Derived.KernelRfl
import Derived.RowKit3
import Derived.Deep.LoopGhost
import Derived.Deep.QuietTactic
import Derived.BigQuiet
import Derived.WideLaws
import Derived.Deep.DeepCutAuto
import Derived.Deep.CutBlock
import Derived.Deep.RegionHeld3
import Derived.Laws.Rows
import Derived.Lib.AppendStr
import Derived.ArgAppend
import Derived.Laws.IdiomCopy
import Derived.OrdersHeld
import Derived.Laws.BitsLemmas
import Derived.RowKit
import Derived.Test.YthamfldeoglfoaaWWords
import Derived.Test.YthamfldeoglfoaaWLast
import Derived.Test.YthamfldeoglfoaaWTab
import Derived.Test.YthamfldeoglfoaaWFour
import Derived.Test.YthamfldeoglfoaaWQPut
import Derived.Test.YthamfldeoglfoaaWApart
import Derived.Test.YthamfldeoglfoaaWArr
import Derived.Test.YthamfldeoglfoaaWZeros
import Derived.Test.YthamfldeoglfoaaWFoot
import Derived.Test.YthamfldeoglfoaaWKept
import Derived.Test.YthamfldeoglfoaaWShare
import Derived.Test.YthamfldeoglfoaaWN
import Derived.Test.YthamfldeoglfoaaWFootNe
import Derived.Test.YthamfldeoglfoaaWAt
import Derived.Test.YthamfldeoglfoaaWEqStruct
import Derived.Test.YthamfldeoglfoaaWRepsOne
import Derived.Test.YthamfldeoglfoaaWInv
import Derived.Test.YthamfldeoglfoaaWInvWords
import Derived.Test.YthamfldeoglfoaaWGuard
import Derived.Test.YthamfldeoglfoaaWNEv
import Derived.Test.YthamfldeoglfoaaWMore
namespace Go.Proofs.Ythamfldeoglfoaa.PRec
open Go.RowKit Go.Proofs.YthamfldeoglfoaaW.PrintWords Go.Proofs.YthamfldeoglfoaaW.PrintLast Go.Proofs.YthamfldeoglfoaaW.PrintMore
attribute [local go_sem] max2_int min2_int max_two min_two max_three min_three max_four min_four   -- for this text's walks alone
set_option linter.unusedVariables false
set_option linter.unusedSimpArgs false



def errW : Option Int → Value
  | none => .nilIface
  | some c => .iface 0 (.int .i64 c)
theorem errW_none : errW none = .nilIface := rfl
theorem errW_some (c : Int) : errW (some c) = .iface 0 (.int .i64 c) := rfl

theorem info5 : (Try.prog.info? 5).map (fun i => (i.zero, i.size, i.bytes)) = some (some (.int .u8 0), 1, 1) := by kernel_rfl
theorem info9 : (Try.prog.info? 9).map (fun i => (i.zero, i.size, i.bytes)) = some (some (.string ⟨#[]⟩), 1, 16) := by kernel_rfl
-- the values' own types

end Go.Proofs.Ythamfldeoglfoaa.PRec
