/- Made by a program of this session (wip/given.py) out of the translation: Lean functions for the Go functions, with the walks that show it; of a law: its row, at every input, no condition of its own. -/
import Derived.Test.YtiocgpfnbmlfaaaProg
import Derived.Below
import Derived.Deep.Draws
import Derived.Deep.AppendLies
import Derived.Maps.AppendAt
import Derived.OwnWalk
import Derived.Laws.BytesArg
import Derived.Laws.MakeOwn
import Derived.Laws.OwnMore
import Derived.Deep.OwnRows
import Derived.Tactics
import Derived.Lib.ConvBytes
import Derived.Laws.Slices
import Derived.WalkKit
import Derived.KernelRfl
import Derived.RowKit3
import Derived.Deep.LoopGhost
import Derived.Deep.QuietTactic
import Derived.BigQuiet
import Derived.WideLaws
import Derived.Deep.DeepCutAuto
import Derived.Deep.CutBlock
import Derived.Deep.RegionHeld3
import Derived.Laws.Rows
import Derived.Lib.AppendStr
import Derived.ArgAppend
import Derived.Laws.IdiomCopy
import Derived.OrdersHeld
import Derived.Laws.BitsLemmas
import Derived.RowKit
import Derived.Test.YtiocgpfnbmlfaaaGD
import Derived.Test.YtiocgpfnbmlfaaaWWords
import Derived.Test.YtiocgpfnbmlfaaaWLast
import Derived.Test.YtiocgpfnbmlfaaaWTab
import Derived.Test.YtiocgpfnbmlfaaaWFour
import Derived.Test.YtiocgpfnbmlfaaaWQPut
import Derived.Test.YtiocgpfnbmlfaaaWApart
import Derived.Test.YtiocgpfnbmlfaaaWArr
import Derived.Test.YtiocgpfnbmlfaaaWZeros
import Derived.Test.YtiocgpfnbmlfaaaWFoot
import Derived.Test.YtiocgpfnbmlfaaaWKept
import Derived.Test.YtiocgpfnbmlfaaaWShare
import Derived.Test.YtiocgpfnbmlfaaaWN
import Derived.Test.YtiocgpfnbmlfaaaWFootNe
import Derived.Test.YtiocgpfnbmlfaaaWAt
import Derived.Test.YtiocgpfnbmlfaaaWEqStruct
import Derived.Test.YtiocgpfnbmlfaaaWRepsOne
import Derived.Test.YtiocgpfnbmlfaaaWInv
import Derived.Test.YtiocgpfnbmlfaaaWInvWords
import Derived.Test.YtiocgpfnbmlfaaaWGuard
import Derived.Test.YtiocgpfnbmlfaaaWNEv
import Derived.Test.YtiocgpfnbmlfaaaWMore
namespace Go.Proofs.Ytiocgpfnbmlfaaa.PQ
open Go.RowKit Go.Proofs.YtiocgpfnbmlfaaaW.PrintWords Go.Proofs.YtiocgpfnbmlfaaaW.PrintLast Go.Proofs.YtiocgpfnbmlfaaaW.PrintMore
attribute [local go_sem] max2_int min2_int max_two min_two max_three min_three max_four min_four   -- for this text's walks alone
set_option linter.unusedVariables false
set_option linter.unusedSimpArgs false



def errW : Option Int → Value
  | none => .nilIface
  | some c => .iface 0 (.int .i64 c)
theorem errW_none : errW none = .nilIface := rfl
theorem errW_some (c : Int) : errW (some c) = .iface 0 (.int .i64 c) := rfl

theorem info5 : (Try.prog.info? 5).map (fun i => (i.zero, i.size, i.bytes)) = some (some (.int .u8 0), 1, 1) := by kernel_rfl
-- the values' own types

end Go.Proofs.Ytiocgpfnbmlfaaa.PQ
