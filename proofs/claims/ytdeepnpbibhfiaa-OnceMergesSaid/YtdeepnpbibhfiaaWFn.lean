/- General lemmas, no law in them: the first place at which a test holds. No condition. -/
import Derived.Test.YtdeepnpbibhfiaaWMan
namespace Go.Proofs.YtdeepnpbibhfiaaW.PrintMore
open Go.RowKit Go.Proofs.YtdeepnpbibhfiaaW.PrintWords
/-- The first place at which a test holds, or -1. -/
def firstAt {α : Type} (p : α → Bool) (l : List α) : Int := match l.findIdx? p with
  | some i => i
  | none => -1
theorem firstAt_at {α : Type} {p : α → Bool} {l : List α} {d : α} {k : Nat} (hk : k < l.length) (h : p (l.getD k d) = true) (ha : ∀ j < k, p (l.getD j d) = false) : firstAt p l = k := by
  have e : l.findIdx? p = some k := by
    rw [List.findIdx?_eq_some_iff_getElem]
    refine ⟨hk, ?_, fun j hj => ?_⟩
    · rw [← h]; congr 1; simp [List.getD_eq_getElem?_getD, List.getElem?_eq_getElem hk]
    · have := ha j hj
      have hj' : j < l.length := by omega
      rw [List.getD_eq_getElem?_getD, List.getElem?_eq_getElem hj'] at this
      simpa using this
  simp only [firstAt, e]
theorem firstAt_none {α : Type} {p : α → Bool} {l : List α} {d : α} (ha : ∀ j < l.length, p (l.getD j d) = false) : firstAt p l = -1 := by
  have e : l.findIdx? p = none := by
    rw [List.findIdx?_eq_none_iff]
    intro x hx
    obtain ⟨j, hj, rfl⟩ := List.getElem_of_mem hx
    have := ha j hj
    rw [List.getD_eq_getElem?_getD, List.getElem?_eq_getElem hj] at this
    simpa using this
  simp only [firstAt, e]
/-- A function against nil. -/
theorem run_equalIn_func_nil {P : Program} (w : World) (d : Nat) (t : TypeId) (fn : Fn) (fi ca : Array Value) {ps rs : Array TypeId} {vd : Bool} (h : P.underlying t = some (.func ps rs vd)) :
    (Op.equalIn (d + 1) t (.func fn fi ca) .nilFunc).run P w = .ok false w := by
  simp [Op.equalIn, run_underlying h]
theorem run_eql_func_nil {P : Program} (w : World) (t : TypeId) (fn : Fn) (fi ca : Array Value) {ps rs : Array TypeId} {vd : Bool} (h : P.underlying t = some (.func ps rs vd)) :
    (binOp .eql t (.func fn fi ca) .nilFunc).run P w = .ok (.bool false) w := by
  simp only [binOp]
  simp [Op.equal, Op.maxDepth, run_equalIn_func_nil w 9999 t fn fi ca h]
/-- A slice against nil. -/
theorem run_equalIn_row_nil {P : Program} (w : World) (d : Nat) (t e : TypeId) (A : Option Addr) (n c : Nat) (h : P.underlying t = some (.slice e)) :
    (Op.equalIn (d + 1) t (.slice A n c) (.slice none 0 0)).run P w = .ok A.isNone w := by
  cases A <;> simp [Op.equalIn, run_underlying h]
theorem run_eql_row_nil {P : Program} (w : World) (t e : TypeId) (A : Option Addr) (n c : Nat) (h : P.underlying t = some (.slice e)) :
    (binOp .eql t (.slice A n c) (.slice none 0 0)).run P w = .ok (.bool A.isNone) w := by
  simp only [binOp]
  simp [Op.equal, Op.maxDepth, run_equalIn_row_nil w 9999 t e A n c h]
/-- A pointer against nil. -/
theorem run_equalIn_ptr_nil {P : Program} (w : World) (d : Nat) (t e : TypeId) (a : Addr) (h : P.underlying t = some (.pointer e)) :
    (Op.equalIn (d + 1) t (.pointer (some a)) (.pointer none)).run P w = .ok false w := by
  simp [Op.equalIn, run_underlying h]
theorem run_eql_ptr_nil {P : Program} (w : World) (t e : TypeId) (a : Addr) (h : P.underlying t = some (.pointer e)) :
    (binOp .eql t (.pointer (some a)) (.pointer none)).run P w = .ok (.bool false) w := by
  simp only [binOp]
  simp [Op.equal, Op.maxDepth, run_equalIn_ptr_nil w 9999 t e a h]
theorem run_neq_ptr_nil {P : Program} (w : World) (t e : TypeId) (a : Addr) (h : P.underlying t = some (.pointer e)) :
    (binOp .neq t (.pointer (some a)) (.pointer none)).run P w = .ok (.bool true) w := by
  simp only [binOp]
  simp [Op.equal, Op.maxDepth, run_equalIn_ptr_nil w 9999 t e a h]
theorem C_none {α : Type} {d : Kd α} {w : World} {n : Nat} {xs : List α} (h : Kd.C d w none n xs) : xs = [] := by
  rcases Nat.eq_zero_or_pos n with h0 | h0
  · exact List.eq_nil_of_length_eq_zero (h.1.trans h0)
  · obtain ⟨ad, h, _⟩ := h.2.2 h0
    cases h
theorem run_mf {P : Program} (fn : Fn) (fi ca : Array Value) (w : World) : (Instr.makeFunc fn fi ca).run P w = .ok (.func fn fi ca) w := rfl
end Go.Proofs.YtdeepnpbibhfiaaW.PrintMore
