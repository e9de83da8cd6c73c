/- Functions of the given program as plain Lean functions, each with a proof that its call comes to what the function says; printed by a program of this session out of the kit's print and contracts proved by hand. -/
import Derived.Test.YtbgadcaomklbkaaDoorProg
import Derived.Below
import Derived.Deep.Draws
import Derived.Deep.AppendLies
import Derived.Maps.AppendAt
import Derived.OwnWalk
import Derived.Laws.BytesArg
import Derived.Laws.MakeOwn
import Derived.Laws.OwnMore
import Derived.Deep.OwnRows
import Derived.Tactics
import Derived.Lib.ConvBytes
import Derived.Laws.Slices
import Derived.WalkKit
import Derived.KernelRfl
import Derived.RowKit3
import Derived.Deep.LoopGhost
import Derived.Deep.QuietTactic
import Derived.BigQuiet
import Derived.WideLaws
import Derived.Deep.DeepCutAuto
import Derived.Deep.CutBlock
import Derived.Deep.RegionHeld3
import Derived.Laws.Rows
import Derived.Lib.AppendStr
import Derived.ArgAppend
import Derived.Laws.IdiomCopy
import Derived.OrdersHeld
import Derived.Laws.BitsLemmas
import Derived.RowKit
import Derived.Test.YtbgadcaomklbkaaDoorWWords
import Derived.Test.YtbgadcaomklbkaaDoorWLast
import Derived.Test.YtbgadcaomklbkaaDoorWTab
import Derived.Test.YtbgadcaomklbkaaDoorWFour
import Derived.Test.YtbgadcaomklbkaaDoorWQPut
import Derived.Test.YtbgadcaomklbkaaDoorWApart
import Derived.Test.YtbgadcaomklbkaaDoorWArr
import Derived.Test.YtbgadcaomklbkaaDoorWZeros
import Derived.Test.YtbgadcaomklbkaaDoorWFoot
import Derived.Test.YtbgadcaomklbkaaDoorWKept
import Derived.Test.YtbgadcaomklbkaaDoorWShare
import Derived.Test.YtbgadcaomklbkaaDoorWN
import Derived.Test.YtbgadcaomklbkaaDoorWFootNe
import Derived.Test.YtbgadcaomklbkaaDoorWAt
import Derived.Test.YtbgadcaomklbkaaDoorWEqStruct
import Derived.Test.YtbgadcaomklbkaaDoorWRepsOne
import Derived.Test.YtbgadcaomklbkaaDoorWInv
import Derived.Test.YtbgadcaomklbkaaDoorWInvWords
import Derived.Test.YtbgadcaomklbkaaDoorWGuard
import Derived.Test.YtbgadcaomklbkaaDoorWNEv
import Derived.Test.YtbgadcaomklbkaaDoorWMore
namespace Go.Proofs.YtbgadcaomklbkaaDoor.XLinesNumbers
open Go.RowKit Go.Proofs.YtbgadcaomklbkaaDoorW.PrintWords Go.Proofs.YtbgadcaomklbkaaDoorW.PrintLast Go.Proofs.YtbgadcaomklbkaaDoorW.PrintMore
attribute [local go_sem] max2_int min2_int max_two min_two max_three min_three max_four min_four   -- for this text's walks alone
set_option linter.unusedVariables false
set_option linter.unusedSimpArgs false



def errW : Option Int → Value
  | none => .nilIface
  | some c => .iface 0 (.int .i64 c)
theorem errW_none : errW none = .nilIface := rfl
theorem errW_some (c : Int) : errW (some c) = .iface 0 (.int .i64 c) := rfl

-- the values' own types

end Go.Proofs.YtbgadcaomklbkaaDoor.XLinesNumbers
