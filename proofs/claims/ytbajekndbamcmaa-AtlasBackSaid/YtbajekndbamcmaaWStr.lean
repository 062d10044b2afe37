-- cut down by a program of this session (wip/tools/trimwords.py) from printed words: what this claim names, and no more
import Derived.Test.YtbajekndbamcmaaWMore
import Derived.Test.YtbajekndbamcmaaWOrd
namespace Go.Proofs.YtbajekndbamcmaaW.PrintMore
open Go.RowKit
/-- The lesser of two strings. -/
def smn (x y : ByteArray) : ByteArray := if (Op.bytesLess x.toList y.toList || x.toList == y.toList) = true then x else y
/-- The greater of two strings. -/
def smx (x y : ByteArray) : ByteArray := if (!Op.bytesLess x.toList y.toList) = true then x else y
theorem min2_str (x y : ByteArray) : Builtin.min2 (.string x) (.string y) = pure (.string (smn x y)) := by
  simp only [Builtin.min2, Op.stringOp, asBool, smn]
  rfl
theorem max2_str (x y : ByteArray) : Builtin.max2 (.string x) (.string y) = pure (.string (smx x y)) := by
  simp only [Builtin.max2, Op.stringOp, asBool, smx]
  rfl
theorem str_geq (t : TypeId) (a b : ByteArray) : binOp .geq t (.string a) (.string b) = pure (.bool (!(Op.bytesLess a.toList b.toList))) := by
  simp only [binOp, Op.stringOp]
theorem str_leq (t : TypeId) (a b : ByteArray) : binOp .leq t (.string a) (.string b) = pure (.bool (!(Op.bytesLess b.toList a.toList))) := by
  have h : (Op.bytesLess a.toList b.toList || a.toList == b.toList) = !(Op.bytesLess b.toList a.toList) := by
    rcases PrintOrd.bl_tri a.toList b.toList with h | h | h
    · rw [h, PrintOrd.bl_asymm _ _ h]; rfl
    · rw [h, PrintOrd.bl_irrefl]; simp
    · rw [h, PrintOrd.bl_asymm _ _ h]
      have : (a.toList == b.toList) = false := by
        rw [beq_eq_false_iff_ne]; intro e; rw [e, PrintOrd.bl_irrefl] at h; cases h
      rw [this]; rfl
  rw [← h]
  simp only [binOp, Op.stringOp]
theorem str_gtr (t : TypeId) (a b : ByteArray) : binOp .gtr t (.string a) (.string b) = pure (.bool (Op.bytesLess b.toList a.toList)) := by
  have h : (!(Op.bytesLess a.toList b.toList || a.toList == b.toList)) = Op.bytesLess b.toList a.toList := by
    rcases PrintOrd.bl_tri a.toList b.toList with h | h | h
    · rw [h, PrintOrd.bl_asymm _ _ h]; rfl
    · rw [h, PrintOrd.bl_irrefl]; simp
    · rw [h, PrintOrd.bl_asymm _ _ h]
      have : (a.toList == b.toList) = false := by
        rw [beq_eq_false_iff_ne]; intro e; rw [e, PrintOrd.bl_irrefl] at h; cases h
      rw [this]; rfl
  rw [← h]
  simp only [binOp, Op.stringOp]
end Go.Proofs.YtbajekndbamcmaaW.PrintMore
