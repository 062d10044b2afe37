-- printed by a program of this session (wip/tools), a turned form of the kit's print
import Derived.Test.YtbfllekkbmeibaaProg
import Derived.Below
import Derived.Deep.Draws
import Derived.Deep.AppendLies
import Derived.Maps.AppendAt
import Derived.OwnWalk
import Derived.Laws.BytesArg
import Derived.Laws.MakeOwn
import Derived.Laws.OwnMore
import Derived.Deep.OwnRows
import Derived.Tactics
import Derived.Lib.ConvBytes
import Derived.Laws.Slices
import Derived.WalkKit
import Derived.KernelRfl
import Derived.RowKit3
import Derived.Deep.LoopGhost
import Derived.Deep.QuietTactic
import Derived.BigQuiet
import Derived.WideLaws
import Derived.Deep.DeepCutAuto
import Derived.Deep.CutBlock
import Derived.Deep.RegionHeld3
import Derived.Laws.Rows
import Derived.Lib.AppendStr
import Derived.ArgAppend
import Derived.Laws.IdiomCopy
import Derived.OrdersHeld
import Derived.Laws.BitsLemmas
import Derived.RowKit
import Derived.Test.YtbfllekkbmeibaaWWords
import Derived.Test.YtbfllekkbmeibaaWLast
import Derived.Test.YtbfllekkbmeibaaWTab
import Derived.Test.YtbfllekkbmeibaaWFour
import Derived.Test.YtbfllekkbmeibaaWQPut
import Derived.Test.YtbfllekkbmeibaaWApart
import Derived.Test.YtbfllekkbmeibaaWArr
import Derived.Test.YtbfllekkbmeibaaWZeros
import Derived.Test.YtbfllekkbmeibaaWFoot
import Derived.Test.YtbfllekkbmeibaaWKept
import Derived.Test.YtbfllekkbmeibaaWShare
import Derived.Test.YtbfllekkbmeibaaWN
import Derived.Test.YtbfllekkbmeibaaWFootNe
import Derived.Test.YtbfllekkbmeibaaWAt
import Derived.Test.YtbfllekkbmeibaaWEqStruct
import Derived.Test.YtbfllekkbmeibaaWRepsOne
import Derived.Test.YtbfllekkbmeibaaWInv
import Derived.Test.YtbfllekkbmeibaaWInvWords
import Derived.Test.YtbfllekkbmeibaaWGuard
import Derived.Test.YtbfllekkbmeibaaWNEv
import Derived.Test.YtbfllekkbmeibaaWMore
import Derived.Test.YtbfllekkbmeibaaWOrd
import Derived.Test.YtbfllekkbmeibaaWStr
import Derived.Test.YtbfllekkbmeibaaWMan
import Derived.Test.YtbfllekkbmeibaaWFn
import Derived.Test.YtbfllekkbmeibaaWReg
import Derived.Test.YtbfllekkbmeibaaWReg2
namespace Go.Proofs.Ytbfllekkbmeibaa.PLeaseLater
open Go.RowKit Go.Proofs.YtbfllekkbmeibaaW.PrintWords Go.Proofs.YtbfllekkbmeibaaW.PrintLast Go.Proofs.YtbfllekkbmeibaaW.PrintMore
attribute [local go_sem] max2_int min2_int max_two min_two max_three min_three max_four min_four max2_str min2_str str_geq str_leq str_gtr   -- for this text's walks alone
set_option linter.unusedVariables false
set_option linter.unusedSimpArgs false



def errW : Option Int → Value
  | none => .nilIface
  | some c => .iface 0 (.int .i64 c)
theorem errW_none : errW none = .nilIface := rfl
theorem errW_some (c : Int) : errW (some c) = .iface 0 (.int .i64 c) := rfl

-- the values' own types

end Go.Proofs.Ytbfllekkbmeibaa.PLeaseLater
