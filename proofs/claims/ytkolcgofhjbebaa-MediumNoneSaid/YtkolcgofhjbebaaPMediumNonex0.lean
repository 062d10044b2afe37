-- printed by a program of this session (wip/tools), a turned form of the kit's print
import Derived.Test.YtkolcgofhjbebaaProg
import Derived.Below
import Derived.Deep.Draws
import Derived.Deep.AppendLies
import Derived.Maps.AppendAt
import Derived.OwnWalk
import Derived.Laws.BytesArg
import Derived.Laws.MakeOwn
import Derived.Laws.OwnMore
import Derived.Deep.OwnRows
import Derived.Tactics
import Derived.Lib.ConvBytes
import Derived.Laws.Slices
import Derived.WalkKit
import Derived.KernelRfl
import Derived.RowKit3
import Derived.Deep.LoopGhost
import Derived.Deep.QuietTactic
import Derived.BigQuiet
import Derived.WideLaws
import Derived.Deep.DeepCutAuto
import Derived.Deep.CutBlock
import Derived.Deep.RegionHeld3
import Derived.Laws.Rows
import Derived.Lib.AppendStr
import Derived.ArgAppend
import Derived.Laws.IdiomCopy
import Derived.OrdersHeld
import Derived.Laws.BitsLemmas
import Derived.RowKit
import Derived.Test.YtkolcgofhjbebaaWWords
import Derived.Test.YtkolcgofhjbebaaWLast
import Derived.Test.YtkolcgofhjbebaaWTab
import Derived.Test.YtkolcgofhjbebaaWFour
import Derived.Test.YtkolcgofhjbebaaWQPut
import Derived.Test.YtkolcgofhjbebaaWApart
import Derived.Test.YtkolcgofhjbebaaWArr
import Derived.Test.YtkolcgofhjbebaaWZeros
import Derived.Test.YtkolcgofhjbebaaWFoot
import Derived.Test.YtkolcgofhjbebaaWKept
import Derived.Test.YtkolcgofhjbebaaWShare
import Derived.Test.YtkolcgofhjbebaaWN
import Derived.Test.YtkolcgofhjbebaaWFootNe
import Derived.Test.YtkolcgofhjbebaaWAt
import Derived.Test.YtkolcgofhjbebaaWEqStruct
import Derived.Test.YtkolcgofhjbebaaWRepsOne
import Derived.Test.YtkolcgofhjbebaaWInv
import Derived.Test.YtkolcgofhjbebaaWInvWords
import Derived.Test.YtkolcgofhjbebaaWGuard
import Derived.Test.YtkolcgofhjbebaaWNEv
import Derived.Test.YtkolcgofhjbebaaWMore
import Derived.Test.YtkolcgofhjbebaaWOrd
import Derived.Test.YtkolcgofhjbebaaWStr
import Derived.Test.YtkolcgofhjbebaaWMan
import Derived.Test.YtkolcgofhjbebaaWFn
import Derived.Test.YtkolcgofhjbebaaWFrz
import Derived.Test.YtkolcgofhjbebaaWMed
import Derived.Test.YtkolcgofhjbebaaWMed2
import Derived.Test.YtkolcgofhjbebaaWMed3
namespace Go.Proofs.Ytkolcgofhjbebaa.PMediumNone
open Go.RowKit Go.Proofs.YtkolcgofhjbebaaW.PrintWords Go.Proofs.YtkolcgofhjbebaaW.PrintLast Go.Proofs.YtkolcgofhjbebaaW.PrintMore
attribute [local go_sem] max2_int min2_int max_two min_two max_three min_three max_four min_four max2_str min2_str str_geq str_leq str_gtr   -- for this text's walks alone
set_option linter.unusedVariables false
set_option linter.unusedSimpArgs false



def errW : Option Int → Value
  | none => .nilIface
  | some c => .iface 0 (.int .i64 c)
theorem errW_none : errW none = .nilIface := rfl
theorem errW_some (c : Int) : errW (some c) = .iface 0 (.int .i64 c) := rfl

-- the values' own types

end Go.Proofs.Ytkolcgofhjbebaa.PMediumNone
