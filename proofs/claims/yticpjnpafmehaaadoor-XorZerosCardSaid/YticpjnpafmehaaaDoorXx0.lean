-- printed by a program of a session (wip/tools/printx.py) over the kit's print; not typed by hand
import Derived.Test.YticpjnpafmehaaaDoorProg
import Derived.Below
import Derived.Deep.Draws
import Derived.Deep.AppendLies
import Derived.Maps.AppendAt
import Derived.OwnWalk
import Derived.Laws.BytesArg
import Derived.Laws.MakeOwn
import Derived.Laws.OwnMore
import Derived.Deep.OwnRows
import Derived.Tactics
import Derived.Lib.ConvBytes
import Derived.Laws.Slices
import Derived.WalkKit
import Derived.KernelRfl
import Derived.RowKit3
import Derived.Deep.LoopGhost
import Derived.Deep.QuietTactic
import Derived.BigQuiet
import Derived.WideLaws
import Derived.Deep.DeepCutAuto
import Derived.Deep.CutBlock
import Derived.Deep.RegionHeld3
import Derived.Laws.Rows
import Derived.Lib.AppendStr
import Derived.ArgAppend
import Derived.Laws.IdiomCopy
import Derived.OrdersHeld
import Derived.Laws.BitsLemmas
import Derived.RowKit
import Derived.Lib.Hide
import Derived.Test.YticpjnpafmehaaaDoorWWords
import Derived.Test.YticpjnpafmehaaaDoorWLast
import Derived.Test.YticpjnpafmehaaaDoorWTab
import Derived.Test.YticpjnpafmehaaaDoorWFour
import Derived.Test.YticpjnpafmehaaaDoorWQPut
import Derived.Test.YticpjnpafmehaaaDoorWApart
import Derived.Test.YticpjnpafmehaaaDoorWArr
import Derived.Test.YticpjnpafmehaaaDoorWZeros
import Derived.Test.YticpjnpafmehaaaDoorWFoot
import Derived.Test.YticpjnpafmehaaaDoorWKept
import Derived.Test.YticpjnpafmehaaaDoorWShare
import Derived.Test.YticpjnpafmehaaaDoorWN
import Derived.Test.YticpjnpafmehaaaDoorWFootNe
import Derived.Test.YticpjnpafmehaaaDoorWAt
import Derived.Test.YticpjnpafmehaaaDoorWEqStruct
import Derived.Test.YticpjnpafmehaaaDoorWRepsOne
import Derived.Test.YticpjnpafmehaaaDoorWInv
import Derived.Test.YticpjnpafmehaaaDoorWInvWords
import Derived.Test.YticpjnpafmehaaaDoorWGuard
import Derived.Test.YticpjnpafmehaaaDoorWNEv
import Derived.Test.YticpjnpafmehaaaDoorWMore
namespace Go.Proofs.YticpjnpafmehaaaDoor.X
open Go.RowKit Go.Proofs.YticpjnpafmehaaaDoorW.PrintWords Go.Proofs.YticpjnpafmehaaaDoorW.PrintLast Go.Proofs.YticpjnpafmehaaaDoorW.PrintMore
attribute [local go_sem] max2_int min2_int max_two min_two max_three min_three max_four min_four   -- for this text's walks alone
set_option linter.unusedVariables false
set_option linter.unusedSimpArgs false



def errW : Option Int → Value
  | none => .nilIface
  | some c => .iface 0 (.int .i64 c)
theorem errW_none : errW none = .nilIface := rfl
theorem errW_some (c : Int) : errW (some c) = .iface 0 (.int .i64 c) := rfl

theorem info5 : (Tryd.prog.info? 5).map (fun i => (i.zero, i.size, i.bytes)) = some (some (.int .u8 0), 1, 1) := by kernel_rfl
theorem info9 : (Tryd.prog.info? 9).map (fun i => (i.zero, i.size, i.bytes)) = some (some (.string ⟨#[]⟩), 1, 16) := by kernel_rfl
-- the values' own types

end Go.Proofs.YticpjnpafmehaaaDoor.X
