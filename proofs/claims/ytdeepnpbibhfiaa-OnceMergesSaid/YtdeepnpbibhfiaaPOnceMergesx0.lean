-- printed by a program of this session (wip/tools), a turned form of the kit's print
import Derived.Test.YtdeepnpbibhfiaaProg
import Derived.Below
import Derived.Deep.Draws
import Derived.Deep.AppendLies
import Derived.Maps.AppendAt
import Derived.OwnWalk
import Derived.Laws.BytesArg
import Derived.Laws.MakeOwn
import Derived.Laws.OwnMore
import Derived.Deep.OwnRows
import Derived.Tactics
import Derived.Lib.ConvBytes
import Derived.Laws.Slices
import Derived.WalkKit
import Derived.KernelRfl
import Derived.RowKit3
import Derived.Deep.LoopGhost
import Derived.Deep.QuietTactic
import Derived.BigQuiet
import Derived.WideLaws
import Derived.Deep.DeepCutAuto
import Derived.Deep.CutBlock
import Derived.Deep.RegionHeld3
import Derived.Laws.Rows
import Derived.Lib.AppendStr
import Derived.ArgAppend
import Derived.Laws.IdiomCopy
import Derived.OrdersHeld
import Derived.Laws.BitsLemmas
import Derived.RowKit
import Derived.Test.YtdeepnpbibhfiaaWWords
import Derived.Test.YtdeepnpbibhfiaaWLast
import Derived.Test.YtdeepnpbibhfiaaWTab
import Derived.Test.YtdeepnpbibhfiaaWFour
import Derived.Test.YtdeepnpbibhfiaaWQPut
import Derived.Test.YtdeepnpbibhfiaaWApart
import Derived.Test.YtdeepnpbibhfiaaWArr
import Derived.Test.YtdeepnpbibhfiaaWZeros
import Derived.Test.YtdeepnpbibhfiaaWFoot
import Derived.Test.YtdeepnpbibhfiaaWKept
import Derived.Test.YtdeepnpbibhfiaaWShare
import Derived.Test.YtdeepnpbibhfiaaWN
import Derived.Test.YtdeepnpbibhfiaaWFootNe
import Derived.Test.YtdeepnpbibhfiaaWAt
import Derived.Test.YtdeepnpbibhfiaaWEqStruct
import Derived.Test.YtdeepnpbibhfiaaWRepsOne
import Derived.Test.YtdeepnpbibhfiaaWInv
import Derived.Test.YtdeepnpbibhfiaaWInvWords
import Derived.Test.YtdeepnpbibhfiaaWGuard
import Derived.Test.YtdeepnpbibhfiaaWNEv
import Derived.Test.YtdeepnpbibhfiaaWMore
import Derived.Test.YtdeepnpbibhfiaaWOrd
import Derived.Test.YtdeepnpbibhfiaaWStr
import Derived.Test.YtdeepnpbibhfiaaWMan
import Derived.Test.YtdeepnpbibhfiaaWFn
import Derived.Test.YtdeepnpbibhfiaaWFrz
import Derived.Test.YtdeepnpbibhfiaaWReg
import Derived.Test.YtdeepnpbibhfiaaWReg2
import Derived.Test.YtdeepnpbibhfiaaWReg3
import Derived.Test.YtdeepnpbibhfiaaWLit
import Derived.Test.YtdeepnpbibhfiaaWOnce10
namespace Go.Proofs.Ytdeepnpbibhfiaa.POnceMerges
open Go.RowKit Go.Proofs.YtdeepnpbibhfiaaW.PrintWords Go.Proofs.YtdeepnpbibhfiaaW.PrintLast Go.Proofs.YtdeepnpbibhfiaaW.PrintMore
attribute [local go_sem] max2_int min2_int max_two min_two max_three min_three max_four min_four max2_str min2_str str_geq str_leq str_gtr   -- for this text's walks alone
set_option linter.unusedVariables false
set_option linter.unusedSimpArgs false



def errW : Option Int → Value
  | none => .nilIface
  | some c => .iface 0 (.int .i64 c)
theorem errW_none : errW none = .nilIface := rfl
theorem errW_some (c : Int) : errW (some c) = .iface 0 (.int .i64 c) := rfl

theorem info39 : (Try.prog.info? 39).map (fun i => (i.zero, i.size, i.bytes)) = some (some (.agg #[(.int .i64 0), (.int .i64 0), (.int .i64 0), (.int .i64 0), (.bool false), (.string ⟨#[]⟩), (.slice none 0 0), (.string ⟨#[]⟩), (.bool false)]), 9, 104) := by kernel_rfl
theorem info47 : (Try.prog.info? 47).map (fun i => (i.zero, i.size, i.bytes)) = some (some (.agg #[(.int .i64 0), (.int .i64 0), (.int .i64 0), (.int .i64 0), (.bool false), (.string ⟨#[]⟩), (.slice none 0 0), (.string ⟨#[]⟩), (.bool false)]), 9, 104) := by kernel_rfl
-- the values' own types
export Go.Proofs.YtdeepnpbibhfiaaW.PrintOnce (S71 z71 k71 k71_open k71_openM k71_mk k71_mkM k71_mkF rd_T71 at_T71 rd_L4 at_L4 S33 z33 k33 k33_open k33_openM k33_mk k33_mkM k33_openF k33_mkF rd_T33 at_T33 S47 z47 k47 k47_open k47_openM k47_mk k47_mkM k47_openF k47_mkF rd_T47 at_T47 S39 z39 k39 k39_open k39_openM k39_mk k39_mkM k39_openF k39_mkF rd_T39 at_T39)
def rd_L8 (xs : List (List S33)) (i : Int) : (List S33) := xs.getD i.toNat ([] : List S33)
theorem at_L8 {w : World} {A : Option Addr} {n : Nat} {xs : List (List S33)} (h : Kd.C (Kd.slice 33 k33) w A n xs) (i : Int) (h0 : 0 ≤ i) (h1 : i < n) : ∃ ad A0 c0, A = some ad ∧ w.cell? (ad.add i.toNat) = some (.slice A0 (rd_L8 xs i).length c0) ∧ (rd_L8 xs i).length ≤ c0 ∧ k33.C w A0 (rd_L8 xs i).length (rd_L8 xs i) := by
  obtain ⟨ad, c, e, _, hK, hc0⟩ := Kd.C_get h ([] : List S33) i h0 h1
  have hc : ∀ j u, c[j]? = some u → w.cell? (ad.add (i.toNat * 1 + j)) = some u := hc0
  obtain ⟨A0, c0, rfl, l0, g0⟩ := hK
  exact ⟨ad, A0, c0, e, by have hq := hc 0 _ rfl; rwa [Nat.mul_one, Nat.add_zero] at hq, l0, g0⟩

end Go.Proofs.Ytdeepnpbibhfiaa.POnceMerges
