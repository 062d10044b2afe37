-- cut down by a program of this session (wip/tools/trimwords.py) from printed words: what this claim names, and no more
import Derived.Test.YtdmahdgcfaieoaaWSymP
namespace Go.Proofs.YtdmahdgcfaieoaaW.PrintSort
open Go Go.RowKit Go.Proofs.YtdmahdgcfaieoaaW.PrintWords
set_option linter.unusedVariables false
set_option linter.unusedSimpArgs false
/-- A row, and the same row with each block of b sorted; the last block may be shorter. -/
inductive Bl (k : Int → Int) (b : Nat) : List Int → List Int → Prop
  | last {T T' : List Int} : T.length ≤ b → St k T T' → Bl k b T T'
  | cons {U U' S X : List Int} : U.length = b → St k U U' → Bl k b S X → Bl k b (U ++ S) (U' ++ X)
/-- Blocks that others may follow. -/
def Pre (k : Int → Int) (b : Nat) (S M : List Int) : Prop := M.length = S.length ∧ ∀ T X, Bl k b T X → Bl k b (S ++ T) (M ++ X)
section
variable {k : Int → Int} {b : Nat}
theorem Pre.nil : Pre k b [] [] := ⟨rfl, fun T X h => h⟩
theorem Pre.snoc {S M U U' : List Int} (h : Pre k b S M) (hU : U.length = b) (hs : St k U U') : Pre k b (S ++ U) (M ++ U') :=
  ⟨by rw [List.length_append, List.length_append, h.1, hs.len], fun T X hT => by rw [List.append_assoc, List.append_assoc]; exact h.2 _ _ (.cons hU hs hT)⟩
theorem Bl.len {S X : List Int} (h : Bl k b S X) : X.length = S.length := by
  induction h with
  | last _ hs => exact hs.len
  | cons hU hs _ ih => rw [List.length_append, List.length_append, hs.len, ih]
theorem Bl.one {S X : List Int} (h : Bl k b S X) (hl : S.length ≤ b) : St k S X := by
  cases h with
  | last _ hs => exact hs
  | cons hU hs h2 =>
    rename_i U U' S2 X2
    rw [List.length_append] at hl
    have e1 : S2 = [] := List.eq_nil_of_length_eq_zero (by omega)
    have e2 : X2 = [] := List.eq_nil_of_length_eq_zero (by have := h2.len; rw [e1] at this; exact this)
    rw [e1, e2, List.append_nil, List.append_nil]; exact hs
theorem Bl.first {S X : List Int} (h : Bl k b S X) (hl : b < S.length) : ∃ U U' S2 X2, S = U ++ S2 ∧ X = U' ++ X2 ∧ U.length = b ∧ St k U U' ∧ Bl k b S2 X2 := by
  cases h with
  | last h1 _ => omega
  | cons hU hs h2 => exact ⟨_, _, _, _, rfl, rfl, hU, hs, h2⟩
theorem Bl.full {S X : List Int} (h : Bl k b S X) (hl : b ≤ S.length) (hb : 0 < b) : ∃ U U' S2 X2, S = U ++ S2 ∧ X = U' ++ X2 ∧ U.length = b ∧ St k U U' ∧ Bl k b S2 X2 := by
  rcases Nat.lt_or_ge b S.length with h1 | h1
  · exact h.first h1
  · exact ⟨S, X, [], [], by simp, by simp, by omega, h.one h1, .last (by simp) (St.refl List.Pairwise.nil)⟩
/-- Two full blocks stand at the front. -/
theorem Bl.two {S X : List Int} (h : Bl k b S X) (hl : b + b ≤ S.length) (hb : 0 < b) : ∃ U U' V V' S2 X2, S = U ++ V ++ S2 ∧ X = U' ++ V' ++ X2 ∧ U.length = b ∧ V.length = b ∧ St k U U' ∧ St k V V' ∧ Bl k b S2 X2 := by
  obtain ⟨U, U', S1, X1, rfl, rfl, hU, hs, h1⟩ := h.first (by omega)
  obtain ⟨V, V', S2, X2, rfl, rfl, hV, hv, h2⟩ := h1.full (by rw [List.length_append] at hl; omega) hb
  exact ⟨U, U', V, V', S2, X2, by simp, by simp, hU, hV, hs, hv, h2⟩
/-- A full block, and what is left, no longer than one. -/
theorem Bl.rest {S X : List Int} (h : Bl k b S X) (h1 : b < S.length) (h2 : S.length ≤ b + b) : ∃ U U' V V', S = U ++ V ∧ X = U' ++ V' ∧ U.length = b ∧ St k U U' ∧ St k V V' := by
  obtain ⟨U, U', S1, X1, rfl, rfl, hU, hs, h3⟩ := h.first h1
  exact ⟨U, U', S1, X1, rfl, rfl, hU, hs, h3.one (by rw [List.length_append] at h2; omega)⟩
theorem St.both {U U' V V' M : List Int} (h1 : St k U U') (h2 : St k V V') (h : St k (U' ++ V') M) : St k (U ++ V) M := St.trans (fun c => by rw [List.filter_append, List.filter_append, h1.2, h2.2]) h
end
end Go.Proofs.YtdmahdgcfaieoaaW.PrintSort
