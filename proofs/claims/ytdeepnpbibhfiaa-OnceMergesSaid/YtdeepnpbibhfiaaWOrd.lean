/- General lemmas, no law in them: the order of byte strings is a strict linear order; finitely many of them have ranks that are whole numbers. No condition. -/
import Derived.Test.YtdeepnpbibhfiaaWMore
namespace Go.Proofs.YtdeepnpbibhfiaaW.PrintOrd
open Go

theorem bl_irrefl : ∀ a : List UInt8, Op.bytesLess a a = false
  | [] => rfl
  | a :: x => by simp [Op.bytesLess, bl_irrefl x]
theorem bl_nil (a : List UInt8) : Op.bytesLess a [] = false := by cases a <;> rfl
theorem bl_trans : ∀ a b c : List UInt8, Op.bytesLess a b = true → Op.bytesLess b c = true → Op.bytesLess a c = true
  | _, [], _, h, _ => by rw [bl_nil] at h; cases h
  | _, _ :: _, [], _, h => by rw [bl_nil] at h; cases h
  | [], _ :: _, _ :: _, _, _ => rfl
  | a :: x, b :: y, c :: z, h1, h2 => by
    simp only [Op.bytesLess, Bool.or_eq_true, Bool.and_eq_true, decide_eq_true_eq, beq_iff_eq] at h1 h2 ⊢
    rcases h1 with h1 | ⟨rfl, h1⟩ <;> rcases h2 with h2 | ⟨rfl, h2⟩
    · exact Or.inl (UInt8.lt_trans h1 h2)
    · exact Or.inl h1
    · exact Or.inl h2
    · exact Or.inr ⟨rfl, bl_trans x y z h1 h2⟩
theorem bl_tri : ∀ a b : List UInt8, Op.bytesLess a b = true ∨ a = b ∨ Op.bytesLess b a = true
  | [], [] => Or.inr (Or.inl rfl)
  | [], _ :: _ => Or.inl rfl
  | _ :: _, [] => Or.inr (Or.inr rfl)
  | a :: x, b :: y => by
    simp only [Op.bytesLess, Bool.or_eq_true, Bool.and_eq_true, decide_eq_true_eq, beq_iff_eq]
    rcases UInt8.lt_or_lt_of_ne |> fun h => (by by_cases e : a = b; exact Or.inr (Or.inl e); exact (h e).elim Or.inl (fun h => Or.inr (Or.inr h)) : a < b ∨ a = b ∨ b < a) with h | rfl | h
    · exact Or.inl (Or.inl h)
    · rcases bl_tri x y with h | rfl | h
      · exact Or.inl (Or.inr ⟨rfl, h⟩)
      · exact Or.inr (Or.inl rfl)
      · exact Or.inr (Or.inr (Or.inr ⟨rfl, h⟩))
    · exact Or.inr (Or.inr (Or.inl h))
theorem bl_asymm (a b : List UInt8) (h : Op.bytesLess a b = true) : Op.bytesLess b a = false := by
  cases e : Op.bytesLess b a with
  | false => rfl
  | true => have := bl_trans a b a h e; rw [bl_irrefl] at this; cases this

theorem countP_lt {α : Type} {p q : α → Bool} {a : α} : ∀ (l : List α), (∀ x, p x = true → q x = true) → a ∈ l → p a = false → q a = true → l.countP p < l.countP q
  | [], _, h, _, _ => by cases h
  | x :: l, hm, h, hp, hq => by
    have hle : l.countP p ≤ l.countP q := List.countP_mono_left (fun y _ hy => hm y hy)
    rcases List.mem_cons.1 h with rfl | h
    · rw [List.countP_cons_of_neg (by simp [hp]), List.countP_cons_of_pos hq]; omega
    · have ih := countP_lt l hm h hp hq
      by_cases e : p x = true
      · rw [List.countP_cons_of_pos e, List.countP_cons_of_pos (hm x e)]; omega
      · rw [List.countP_cons_of_neg e]
        by_cases e' : q x = true
        · rw [List.countP_cons_of_pos e']; omega
        · rw [List.countP_cons_of_neg e']; exact ih

/-- How many strings of l are less. -/
def rnk (l : List (List UInt8)) (a : List UInt8) : Int := (l.countP (fun x => Op.bytesLess x a) : Nat)
theorem rnk_lt {l : List (List UInt8)} {a b : List UInt8} (ha : a ∈ l) (h : Op.bytesLess a b = true) : rnk l a < rnk l b := by
  unfold rnk
  have := countP_lt l (fun x hx => bl_trans x a b hx h) ha (bl_irrefl a) h
  omega
/-- Ranks: of finitely many strings, the order is that of whole numbers; the empty one is the least. -/
theorem ranks (l : List (List UInt8)) : ∃ r : List UInt8 → Int, (∀ a ∈ l, ∀ b ∈ l, Op.bytesLess a b = decide (r a < r b)) ∧ (∀ a ∈ l, ∀ b ∈ l, (a = b ↔ r a = r b)) ∧ r [] = 0 ∧ ∀ a, 0 ≤ r a := by
  refine ⟨rnk l, fun a ha b hb => ?_, fun a ha b hb => ?_, ?_, fun a => by unfold rnk; omega⟩
  · rcases bl_tri a b with h | rfl | h
    · rw [h]; exact (decide_eq_true (rnk_lt ha h)).symm
    · rw [bl_irrefl]; exact (decide_eq_false (Int.lt_irrefl _)).symm
    · rw [bl_asymm b a h]; have := rnk_lt hb h; exact (decide_eq_false (by omega)).symm
  · constructor
    · rintro rfl; rfl
    · intro e
      rcases bl_tri a b with h | h | h
      · have := rnk_lt ha h; omega
      · exact h
      · have := rnk_lt hb h; omega
  · have : l.countP (fun x => Op.bytesLess x []) = 0 := by
      rw [List.countP_eq_zero]; intro a _; simp [bl_nil]
    simp [rnk, this]
/-- r ranks the strings of l, the empty one among them. -/
structure Ranked (r : List UInt8 → Int) (l : List (List UInt8)) : Prop where
  lt : ∀ {a b}, a ∈ l → b ∈ l → Op.bytesLess a b = decide (r a < r b)
  eq : ∀ {a b}, a ∈ l → b ∈ l → (a = b ↔ r a = r b)
  nil_mem : [] ∈ l
  nil : r [] = 0
  nonneg : ∀ a, 0 ≤ r a
theorem ranked (l : List (List UInt8)) : ∃ r, Ranked r ([] :: l) := by
  obtain ⟨r, h1, h2, h3, h4⟩ := ranks ([] :: l)
  exact ⟨r, fun ha hb => h1 _ ha _ hb, fun ha hb => h2 _ ha _ hb, List.mem_cons_self, h3, h4⟩
theorem Ranked.isNil {r : List UInt8 → Int} {l : List (List UInt8)} (R : Ranked r l) {a : List UInt8} (ha : a ∈ l) : a = [] ↔ r a = 0 := by
  rw [R.eq ha R.nil_mem, R.nil]
end Go.Proofs.YtdeepnpbibhfiaaW.PrintOrd
