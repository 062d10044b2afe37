/- General lemmas, no law in them: the lesser and the greater of two strings, as the builtins min and max have them. No condition. -/
import Derived.Test.YtdeepnpbibhfiaaWMore
import Derived.Test.YtdeepnpbibhfiaaWOrd
namespace Go.Proofs.YtdeepnpbibhfiaaW.PrintMore
open Go.RowKit
/-- The lesser of two strings. -/
def smn (x y : ByteArray) : ByteArray := if (Op.bytesLess x.toList y.toList || x.toList == y.toList) = true then x else y
/-- The greater of two strings. -/
def smx (x y : ByteArray) : ByteArray := if (!Op.bytesLess x.toList y.toList) = true then x else y
theorem min2_str (x y : ByteArray) : Builtin.min2 (.string x) (.string y) = pure (.string (smn x y)) := by
  simp only [Builtin.min2, Op.stringOp, asBool, smn]
  rfl
theorem max2_str (x y : ByteArray) : Builtin.max2 (.string x) (.string y) = pure (.string (smx x y)) := by
  simp only [Builtin.max2, Op.stringOp, asBool, smx]
  rfl
theorem str_geq (t : TypeId) (a b : ByteArray) : binOp .geq t (.string a) (.string b) = pure (.bool (!(Op.bytesLess a.toList b.toList))) := by
  simp only [binOp, Op.stringOp]
theorem str_leq (t : TypeId) (a b : ByteArray) : binOp .leq t (.string a) (.string b) = pure (.bool (!(Op.bytesLess b.toList a.toList))) := by
  have h : (Op.bytesLess a.toList b.toList || a.toList == b.toList) = !(Op.bytesLess b.toList a.toList) := by
    rcases PrintOrd.bl_tri a.toList b.toList with h | h | h
    · rw [h, PrintOrd.bl_asymm _ _ h]; rfl
    · rw [h, PrintOrd.bl_irrefl]; simp
    · rw [h, PrintOrd.bl_asymm _ _ h]
      have : (a.toList == b.toList) = false := by
        rw [beq_eq_false_iff_ne]; intro e; rw [e, PrintOrd.bl_irrefl] at h; cases h
      rw [this]; rfl
  rw [← h]
  simp only [binOp, Op.stringOp]
theorem str_gtr (t : TypeId) (a b : ByteArray) : binOp .gtr t (.string a) (.string b) = pure (.bool (Op.bytesLess b.toList a.toList)) := by
  have h : (!(Op.bytesLess a.toList b.toList || a.toList == b.toList)) = Op.bytesLess b.toList a.toList := by
    rcases PrintOrd.bl_tri a.toList b.toList with h | h | h
    · rw [h, PrintOrd.bl_asymm _ _ h]; rfl
    · rw [h, PrintOrd.bl_irrefl]; simp
    · rw [h, PrintOrd.bl_asymm _ _ h]
      have : (a.toList == b.toList) = false := by
        rw [beq_eq_false_iff_ne]; intro e; rw [e, PrintOrd.bl_irrefl] at h; cases h
      rw [this]; rfl
  rw [← h]
  simp only [binOp, Op.stringOp]
/-- A step: what a call comes to. (No 'simp': the kernel is not to compare what comes behind with what stands ahead.) -/
theorem bindE {α β : Type} {x : Option α} {a : α} {f : α → Option β} {r : Option β} (h : x = some a) (k : f a = r) : x.bind f = r := by
  subst h; exact k
theorem iteT {α : Type} {c : Prop} [Decidable c] {a b r : α} (h : c) (k : a = r) : (if c then a else b) = r := by rw [if_pos h]; exact k
theorem iteF {α : Type} {c : Prop} [Decidable c] {a b r : α} (h : ¬ c) (k : b = r) : (if c then a else b) = r := by rw [if_neg h]; exact k
theorem dead_none : ¬ ((none : Option Bool) = some true) := by simp
theorem dead_false : ¬ ((some false : Option Bool) = some true) := by simp
theorem dead_bind {α : Type} {x : Option α} {f : α → Option Bool} (h : ∀ a, ¬ f a = some true) : ¬ x.bind f = some true := by
  intro e
  obtain ⟨a, _, ha⟩ := Option.bind_eq_some_iff.1 e
  exact h a ha
theorem dead_ite {c : Prop} [Decidable c] {a b : Option Bool} (ha : ¬ a = some true) (hb : ¬ b = some true) : ¬ (if c then a else b) = some true := by
  by_cases h : c
  · rw [if_pos h]; exact ha
  · rw [if_neg h]; exact hb
end Go.Proofs.YtdeepnpbibhfiaaW.PrintMore
