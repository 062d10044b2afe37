-- printed by a program of this session (wip/tools), a turned form of the kit's print
import Derived.Test.YtbajekndbamcmaaProg
import Derived.Below
import Derived.Deep.Draws
import Derived.Deep.AppendLies
import Derived.Maps.AppendAt
import Derived.OwnWalk
import Derived.Laws.BytesArg
import Derived.Laws.MakeOwn
import Derived.Laws.OwnMore
import Derived.Deep.OwnRows
import Derived.Tactics
import Derived.Lib.ConvBytes
import Derived.Laws.Slices
import Derived.WalkKit
import Derived.KernelRfl
import Derived.RowKit3
import Derived.Deep.LoopGhost
import Derived.Deep.QuietTactic
import Derived.BigQuiet
import Derived.WideLaws
import Derived.Deep.DeepCutAuto
import Derived.Deep.CutBlock
import Derived.Deep.RegionHeld3
import Derived.Laws.Rows
import Derived.Lib.AppendStr
import Derived.ArgAppend
import Derived.Laws.IdiomCopy
import Derived.OrdersHeld
import Derived.Laws.BitsLemmas
import Derived.RowKit
import Derived.Test.YtbajekndbamcmaaWWords
import Derived.Test.YtbajekndbamcmaaWLast
import Derived.Test.YtbajekndbamcmaaWTab
import Derived.Test.YtbajekndbamcmaaWFour
import Derived.Test.YtbajekndbamcmaaWQPut
import Derived.Test.YtbajekndbamcmaaWApart
import Derived.Test.YtbajekndbamcmaaWArr
import Derived.Test.YtbajekndbamcmaaWZeros
import Derived.Test.YtbajekndbamcmaaWFoot
import Derived.Test.YtbajekndbamcmaaWKept
import Derived.Test.YtbajekndbamcmaaWShare
import Derived.Test.YtbajekndbamcmaaWN
import Derived.Test.YtbajekndbamcmaaWFootNe
import Derived.Test.YtbajekndbamcmaaWAt
import Derived.Test.YtbajekndbamcmaaWEqStruct
import Derived.Test.YtbajekndbamcmaaWRepsOne
import Derived.Test.YtbajekndbamcmaaWInv
import Derived.Test.YtbajekndbamcmaaWInvWords
import Derived.Test.YtbajekndbamcmaaWGuard
import Derived.Test.YtbajekndbamcmaaWNEv
import Derived.Test.YtbajekndbamcmaaWMore
import Derived.Test.YtbajekndbamcmaaWOrd
import Derived.Test.YtbajekndbamcmaaWStr
import Derived.Test.YtbajekndbamcmaaWMan
import Derived.Test.YtbajekndbamcmaaWFn
import Derived.Test.YtbajekndbamcmaaWFrz
import Derived.Test.YtbajekndbamcmaaWReg
import Derived.Test.YtbajekndbamcmaaWReg2
import Derived.Test.YtbajekndbamcmaaWGroveX
namespace Go.Proofs.Ytbajekndbamcmaa.PGroveTexts
open Go.RowKit Go.Proofs.YtbajekndbamcmaaW.PrintWords Go.Proofs.YtbajekndbamcmaaW.PrintLast Go.Proofs.YtbajekndbamcmaaW.PrintMore
attribute [local go_sem] max2_int min2_int max_two min_two max_three min_three max_four min_four max2_str min2_str str_geq str_leq str_gtr   -- for this text's walks alone
set_option linter.unusedVariables false
set_option linter.unusedSimpArgs false



def errW : Option Int → Value
  | none => .nilIface
  | some c => .iface 0 (.int .i64 c)
theorem errW_none : errW none = .nilIface := rfl
theorem errW_some (c : Int) : errW (some c) = .iface 0 (.int .i64 c) := rfl

-- the values' own types
def rd_L1 (xs : List (List ByteArray)) (i : Int) : (List ByteArray) := xs.getD i.toNat ([] : List ByteArray)
theorem at_L1 {w : World} {A : Option Addr} {n : Nat} {xs : List (List ByteArray)} (h : Kd.C (Kd.slice 9 Kd.string) w A n xs) (i : Int) (h0 : 0 ≤ i) (h1 : i < n) : ∃ ad A0 c0, A = some ad ∧ w.cell? (ad.add i.toNat) = some (.slice A0 (rd_L1 xs i).length c0) ∧ (rd_L1 xs i).length ≤ c0 ∧ Kd.string.C w A0 (rd_L1 xs i).length (rd_L1 xs i) := by
  obtain ⟨ad, c, e, _, hK, hc0⟩ := Kd.C_get h ([] : List ByteArray) i h0 h1
  have hc : ∀ j u, c[j]? = some u → w.cell? (ad.add (i.toNat * 1 + j)) = some u := hc0
  obtain ⟨A0, c0, rfl, l0, g0⟩ := hK
  exact ⟨ad, A0, c0, e, by have hq := hc 0 _ rfl; rwa [Nat.mul_one, Nat.add_zero] at hq, l0, g0⟩

end Go.Proofs.Ytbajekndbamcmaa.PGroveTexts
