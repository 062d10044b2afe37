-- printed by a program of this session (wip/tools), a turned form of the kit's print
import Derived.Test.YtkolcgofhjbebaaProg
import Derived.Below
import Derived.Deep.Draws
import Derived.Deep.AppendLies
import Derived.Maps.AppendAt
import Derived.OwnWalk
import Derived.Laws.BytesArg
import Derived.Laws.MakeOwn
import Derived.Laws.OwnMore
import Derived.Deep.OwnRows
import Derived.Tactics
import Derived.Lib.ConvBytes
import Derived.Laws.Slices
import Derived.WalkKit
import Derived.KernelRfl
import Derived.RowKit3
import Derived.Deep.LoopGhost
import Derived.Deep.QuietTactic
import Derived.BigQuiet
import Derived.WideLaws
import Derived.Deep.DeepCutAuto
import Derived.Deep.CutBlock
import Derived.Deep.RegionHeld3
import Derived.Laws.Rows
import Derived.Lib.AppendStr
import Derived.ArgAppend
import Derived.Laws.IdiomCopy
import Derived.OrdersHeld
import Derived.Laws.BitsLemmas
import Derived.RowKit
import Derived.Test.YtkolcgofhjbebaaWWords
import Derived.Test.YtkolcgofhjbebaaWLast
import Derived.Test.YtkolcgofhjbebaaWTab
import Derived.Test.YtkolcgofhjbebaaWFour
import Derived.Test.YtkolcgofhjbebaaWQPut
import Derived.Test.YtkolcgofhjbebaaWApart
import Derived.Test.YtkolcgofhjbebaaWArr
import Derived.Test.YtkolcgofhjbebaaWZeros
import Derived.Test.YtkolcgofhjbebaaWFoot
import Derived.Test.YtkolcgofhjbebaaWKept
import Derived.Test.YtkolcgofhjbebaaWShare
import Derived.Test.YtkolcgofhjbebaaWN
import Derived.Test.YtkolcgofhjbebaaWFootNe
import Derived.Test.YtkolcgofhjbebaaWAt
import Derived.Test.YtkolcgofhjbebaaWEqStruct
import Derived.Test.YtkolcgofhjbebaaWRepsOne
import Derived.Test.YtkolcgofhjbebaaWInv
import Derived.Test.YtkolcgofhjbebaaWInvWords
import Derived.Test.YtkolcgofhjbebaaWGuard
import Derived.Test.YtkolcgofhjbebaaWNEv
import Derived.Test.YtkolcgofhjbebaaWMore
import Derived.Test.YtkolcgofhjbebaaWOrd
import Derived.Test.YtkolcgofhjbebaaWStr
import Derived.Test.YtkolcgofhjbebaaWMan
import Derived.Test.YtkolcgofhjbebaaWFn
import Derived.Test.YtkolcgofhjbebaaWFrz
import Derived.Test.YtkolcgofhjbebaaWMed
import Derived.Test.YtkolcgofhjbebaaWMed2
import Derived.Test.YtkolcgofhjbebaaWMed4
import Derived.Test.YtkolcgofhjbebaaWMed5
import Derived.Test.YtkolcgofhjbebaaWReg
import Derived.Test.YtkolcgofhjbebaaWReg2
namespace Go.Proofs.Ytkolcgofhjbebaa.PMediumHands
open Go.RowKit Go.Proofs.YtkolcgofhjbebaaW.PrintWords Go.Proofs.YtkolcgofhjbebaaW.PrintLast Go.Proofs.YtkolcgofhjbebaaW.PrintMore
attribute [local go_sem] max2_int min2_int max_two min_two max_three min_three max_four min_four max2_str min2_str str_geq str_leq str_gtr   -- for this text's walks alone
set_option linter.unusedVariables false
set_option linter.unusedSimpArgs false



def errW : Option Int → Value
  | none => .nilIface
  | some c => .iface 0 (.int .i64 c)
theorem errW_none : errW none = .nilIface := rfl
theorem errW_some (c : Int) : errW (some c) = .iface 0 (.int .i64 c) := rfl

-- the values' own types
def rd_L1 (xs : List (List Int)) (i : Int) : (List Int) := xs.getD i.toNat ([] : List Int)
theorem at_L1 {w : World} {A : Option Addr} {n : Nat} {xs : List (List Int)} (h : Kd.C (Kd.slice 5 (Kd.int .u8)) w A n xs) (i : Int) (h0 : 0 ≤ i) (h1 : i < n) : ∃ ad A0 c0, A = some ad ∧ w.cell? (ad.add i.toNat) = some (.slice A0 (rd_L1 xs i).length c0) ∧ (rd_L1 xs i).length ≤ c0 ∧ (Kd.int .u8).C w A0 (rd_L1 xs i).length (rd_L1 xs i) := by
  obtain ⟨ad, c, e, _, hK, hc0⟩ := Kd.C_get h ([] : List Int) i h0 h1
  have hc : ∀ j u, c[j]? = some u → w.cell? (ad.add (i.toNat * 1 + j)) = some u := hc0
  obtain ⟨A0, c0, rfl, l0, g0⟩ := hK
  exact ⟨ad, A0, c0, e, by have hq := hc 0 _ rfl; rwa [Nat.mul_one, Nat.add_zero] at hq, l0, g0⟩

end Go.Proofs.Ytkolcgofhjbebaa.PMediumHands
