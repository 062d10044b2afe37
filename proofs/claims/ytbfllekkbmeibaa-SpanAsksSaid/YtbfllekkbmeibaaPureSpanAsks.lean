/- SpanAsks, the plain law over the printed functions: any two spans, any key: the program's answers are the document's. No condition. -/
import Derived.Test.YtbfllekkbmeibaaPSpanAsksy
import Derived.Test.YtbfllekkbmeibaaWOrd
namespace Go.Proofs.Ytbfllekkbmeibaa.Pure
set_option linter.unusedVariables false
set_option linter.unusedSimpArgs false
open Go.RowKit Go.Proofs.Ytbfllekkbmeibaa.PSpanAsks Go.Proofs.YtbfllekkbmeibaaW.PrintWords Go.Proofs.YtbfllekkbmeibaaW.PrintLast Go.Proofs.YtbfllekkbmeibaaW.PrintMore Go.Proofs.YtbfllekkbmeibaaW.PrintOrd

-- plain facts on the printed span functions, by ranks (pasted into Pure texts)
theorem has_r {r : List UInt8 → Int} {l : List (List UInt8)} (R : Ranked r l) {f t k : ByteArray} (hf : f.toList ∈ l) (ht : t.toList ∈ l) (hk : k.toList ∈ l) :
    span_Has.f f t k = some (decide (r f.toList ≤ r k.toList ∧ (r t.toList = 0 ∨ r k.toList < r t.toList))) := by
  unfold span_Has.f
  have h := R.nonneg t.toList
  have h' := R.nonneg k.toList
  simp only [R.lt hk hf, R.lt hk ht, R.isNil ht]
  by_cases h1 : r k.toList < r f.toList <;> by_cases h2 : r t.toList = 0 <;> by_cases h3 : r k.toList < r t.toList <;> simp [h1, h2, h3] <;> omega
theorem empty_r {r : List UInt8 → Int} {l : List (List UInt8)} (R : Ranked r l) {f t : ByteArray} (hf : f.toList ∈ l) (ht : t.toList ∈ l) :
    span_Empty.f f t = some (decide (r t.toList ≠ 0 ∧ r t.toList ≤ r f.toList)) := by
  unfold span_Empty.f
  have h := R.nonneg t.toList
  simp only [R.lt hf ht, R.isNil ht]
  by_cases h1 : r t.toList = 0 <;> by_cases h2 : r f.toList < r t.toList <;> simp [h1, h2] <;> omega
theorem end_r {r : List UInt8 → Int} {l : List (List UInt8)} (R : Ranked r l) {a b : ByteArray} (ha : a.toList ∈ l) (hb : b.toList ∈ l) :
    ∃ m, span_End.f a b = some m ∧ ((m = a ∧ (r b.toList = 0 ∨ (r a.toList ≠ 0 ∧ r a.toList ≤ r b.toList))) ∨ (m = b ∧ (r a.toList = 0 ∨ (r b.toList ≠ 0 ∧ r b.toList ≤ r a.toList)))) := by
  unfold span_End.f
  simp only [R.isNil ha, R.isNil hb]
  by_cases h1 : r a.toList = 0
  · rw [if_pos h1]; exact ⟨b, rfl, Or.inr ⟨rfl, Or.inl h1⟩⟩
  · rw [if_neg h1]
    by_cases h2 : r b.toList = 0
    · rw [if_pos h2]; exact ⟨a, rfl, Or.inl ⟨rfl, Or.inl h2⟩⟩
    · rw [if_neg h2]
      refine ⟨_, rfl, ?_⟩
      unfold smn
      have e : (a.toList == b.toList) = decide (r a.toList = r b.toList) := by
        rw [Bool.eq_iff_iff]; simp [R.eq ha hb]
      simp only [R.lt ha hb, e, Bool.or_eq_true, decide_eq_true_eq]
      by_cases h3 : r a.toList < r b.toList ∨ r a.toList = r b.toList
      · rw [if_pos h3]; exact Or.inl ⟨rfl, Or.inr ⟨h1, by omega⟩⟩
      · rw [if_neg h3]; exact Or.inr ⟨rfl, Or.inr ⟨h2, by omega⟩⟩
theorem smx_r {r : List UInt8 → Int} {l : List (List UInt8)} (R : Ranked r l) {a b : ByteArray} (ha : a.toList ∈ l) (hb : b.toList ∈ l) :
    (smx a b = a ∧ r b.toList ≤ r a.toList) ∨ (smx a b = b ∧ r a.toList ≤ r b.toList) := by
  unfold smx
  rw [R.lt ha hb]
  by_cases h : r a.toList < r b.toList
  · rw [decide_eq_true h]; exact Or.inr ⟨by simp, by omega⟩
  · rw [decide_eq_false h]; exact Or.inl ⟨by simp, by omega⟩
theorem within_r {r : List UInt8 → Int} {l : List (List UInt8)} (R : Ranked r l) {f t g u : ByteArray} (hf : f.toList ∈ l) (ht : t.toList ∈ l) (hg : g.toList ∈ l) (hu : u.toList ∈ l) :
    span_Within.f f t g u = some (decide ((r t.toList ≠ 0 ∧ r t.toList ≤ r f.toList) ∨ (r g.toList ≤ r f.toList ∧ (r u.toList = 0 ∨ (r t.toList ≠ 0 ∧ r t.toList ≤ r u.toList))))) := by
  unfold span_Within.f
  rw [empty_r R hf ht, empty_r R hg hu]
  obtain ⟨m, hm, hc⟩ := end_r R ht hu
  rw [hm]
  simp only [Option.bind_some]
  have h1 := R.nonneg t.toList
  have h2 := R.nonneg u.toList
  have h3 := R.nonneg g.toList
  have h4 := R.nonneg f.toList
  have hmt : m.toList = t.toList ↔ r u.toList = 0 ∨ (r t.toList ≠ 0 ∧ r t.toList ≤ r u.toList) := by
    rcases hc with ⟨rfl, hc⟩ | ⟨rfl, hc⟩
    · exact ⟨fun _ => hc, fun _ => rfl⟩
    · rw [R.eq hu ht]; omega
  rw [R.lt hf hg]
  by_cases c1 : r t.toList ≠ 0 ∧ r t.toList ≤ r f.toList
  · rw [decide_eq_true c1, decide_eq_true (Or.inl c1)]; simp
  · rw [decide_eq_false c1]
    by_cases c2 : r f.toList < r g.toList
    · rw [decide_eq_true c2]; simp only [Bool.false_eq_true, if_false, if_true, Option.bind_some, Option.some.injEq]; rw [eq_comm, decide_eq_false_iff_not]; omega
    · rw [decide_eq_false c2]
      by_cases c3 : m.toList = t.toList
      · have c4 := hmt.1 c3
        rw [if_pos c3, decide_eq_false (show ¬ (r u.toList ≠ 0 ∧ r u.toList ≤ r g.toList) by omega)]; simp only [Bool.false_eq_true, if_false, if_true, Option.bind_some, Option.some.injEq, Bool.not_false]; rw [eq_comm, decide_eq_true_iff]; omega
      · have c4 : ¬ _ := fun h => c3 (hmt.2 h)
        rw [if_neg c3]; simp only [Bool.false_eq_true, if_false, if_true, Option.bind_some, Option.some.injEq]; rw [eq_comm, decide_eq_false_iff_not]; omega
theorem refhas_r {r : List UInt8 → Int} {l : List (List UInt8)} (R : Ranked r l) {f t k : ByteArray} (hf : f.toList ∈ l) (ht : t.toList ∈ l) (hk : k.toList ∈ l) :
    gazetteerref5_Has.f f t k = some (decide (r f.toList ≤ r k.toList ∧ (r t.toList = 0 ∨ r k.toList < r t.toList))) := by
  unfold gazetteerref5_Has.f
  have h := R.nonneg t.toList
  have h' := R.nonneg k.toList
  have e : (t.toList == []) = decide (r t.toList = 0) := by
    rw [Bool.eq_iff_iff]; simp [R.isNil ht]
  simp only [R.lt hk hf, R.lt hk ht, e]
  by_cases h1 : r k.toList < r f.toList <;> by_cases h2 : r t.toList = 0 <;> by_cases h3 : r k.toList < r t.toList <;> simp [h1, h2, h3] <;> omega
theorem refempty_r {r : List UInt8 → Int} {l : List (List UInt8)} (R : Ranked r l) {f t : ByteArray} (hf : f.toList ∈ l) (ht : t.toList ∈ l) :
    gazetteerref5_Empty.f f t = some (decide (r t.toList ≠ 0 ∧ r t.toList ≤ r f.toList)) := by
  unfold gazetteerref5_Empty.f
  have h := R.nonneg t.toList
  simp only [R.lt hf ht, R.isNil ht]
  by_cases h1 : r t.toList = 0 <;> by_cases h2 : r f.toList < r t.toList <;> simp [h1, h2] <;> omega
theorem refwithin_r {r : List UInt8 → Int} {l : List (List UInt8)} (R : Ranked r l) {f t g u : ByteArray} (hf : f.toList ∈ l) (ht : t.toList ∈ l) (hg : g.toList ∈ l) (hu : u.toList ∈ l) :
    gazetteerref5_Within.f f t g u = some (decide ((r t.toList ≠ 0 ∧ r t.toList ≤ r f.toList) ∨ (r g.toList ≤ r f.toList ∧ (r u.toList = 0 ∨ (r t.toList ≠ 0 ∧ r t.toList ≤ r u.toList))))) := by
  unfold gazetteerref5_Within.f
  rw [refempty_r R hf ht]
  simp only [Option.bind_some, R.lt hf hg, R.lt hu ht, R.isNil hu, R.isNil ht]
  have h1 := R.nonneg t.toList
  have h2 := R.nonneg u.toList
  have h3 := R.nonneg g.toList
  have h4 := R.nonneg f.toList
  by_cases c1 : r t.toList ≠ 0 ∧ r t.toList ≤ r f.toList
  · rw [decide_eq_true c1, decide_eq_true (Or.inl c1)]; simp
  · rw [decide_eq_false c1]
    by_cases c2 : r f.toList < r g.toList
    · rw [decide_eq_true c2]; simp only [Bool.false_eq_true, if_false, if_true, Option.bind_some, Option.some.injEq]; rw [eq_comm, decide_eq_false_iff_not]; omega
    · rw [decide_eq_false c2]
      by_cases c3 : r u.toList = 0
      · rw [if_pos c3]; simp only [Bool.false_eq_true, if_false, if_true, Option.bind_some, Option.some.injEq, Bool.not_false]; rw [eq_comm, decide_eq_true_iff]; omega
      · rw [if_neg c3]
        by_cases c4 : r t.toList = 0
        · rw [if_pos c4]; simp only [Bool.false_eq_true, if_false, if_true, Option.bind_some, Option.some.injEq]; rw [eq_comm, decide_eq_false_iff_not]; omega
        · rw [if_neg c4]
          by_cases c5 : r u.toList < r t.toList
          · rw [decide_eq_true c5]; simp only [Bool.false_eq_true, if_false, if_true, Option.bind_some, Option.some.injEq, Bool.not_true]; rw [eq_comm, decide_eq_false_iff_not]; omega
          · rw [decide_eq_false c5]; simp only [Bool.false_eq_true, if_false, if_true, Option.bind_some, Option.some.injEq, Bool.not_false]; rw [eq_comm, decide_eq_true_iff]; omega
theorem refmeets_r {r : List UInt8 → Int} {l : List (List UInt8)} (R : Ranked r l) {f t g u : ByteArray} (hf : f.toList ∈ l) (ht : t.toList ∈ l) (hg : g.toList ∈ l) (hu : u.toList ∈ l) :
    gazetteerref5_Meets.f f t g u = some (decide ((r t.toList = 0 ∨ r f.toList < r t.toList) ∧ (r u.toList = 0 ∨ r g.toList < r u.toList) ∧ (r t.toList = 0 ∨ r g.toList < r t.toList) ∧ (r u.toList = 0 ∨ r f.toList < r u.toList))) := by
  unfold gazetteerref5_Meets.f
  rw [refempty_r R hf ht, refempty_r R hg hu]
  simp only [Option.bind_some, R.lt hg ht, R.lt hf hu, R.isNil hu, R.isNil ht]
  have h1 := R.nonneg t.toList
  have h2 := R.nonneg u.toList
  have h3 := R.nonneg g.toList
  have h4 := R.nonneg f.toList
  by_cases c1 : r t.toList ≠ 0 ∧ r t.toList ≤ r f.toList
  · rw [decide_eq_true c1, decide_eq_false (show ¬ ((r t.toList = 0 ∨ r f.toList < r t.toList) ∧ _) by omega)]; simp
  · rw [decide_eq_false c1]
    by_cases c2 : r u.toList ≠ 0 ∧ r u.toList ≤ r g.toList
    · rw [decide_eq_true c2, decide_eq_false (show ¬ ((r t.toList = 0 ∨ r f.toList < r t.toList) ∧ _) by omega)]; simp
    · rw [decide_eq_false c2]
      by_cases c3 : r t.toList = 0 <;> by_cases c4 : r u.toList = 0 <;> by_cases c5 : r g.toList < r t.toList <;> by_cases c6 : r f.toList < r u.toList <;> simp [c3, c4, c5, c6] <;> omega
theorem awake_eq (k : Nat) : gazetteerlaw5_awake.f (k + 4) = some true := by
  simp [gazetteerlaw5_awake.f, span_Has.f, span_Within.f, span_Empty.f, span_End.f, span_Whole.f, span_Whole.l0, ByteArray.toList_eq, Op.bytesLess, rd_T38, wrap64]
theorem few_some (x y : S38) (k : Nat) : ∃ b, gazetteerlaw5_Few.f (k + 4) [x, y] = some b := by
  unfold gazetteerlaw5_Few.f
  have e1 : wrap64 (0 + 1) = 1 := by unfold wrap64; omega
  have e2 : wrap64 (1 + 1) = 2 := by unfold wrap64; omega
  simp only [gazetteerlaw5_Few.l0, List.length_cons, List.length_nil, e1, e2]
  exact ⟨_, rfl⟩

theorem j0_eq (k : Nat) (f t g u key : ByteArray) (b : Bool) : gazetteerlaw5_SpanAsks.j0 (k + 4) key b f t g u = some true := by
  simp only [gazetteerlaw5_SpanAsks.j0]
  cases b with
  | true => simp
  | false =>
    obtain ⟨r, R⟩ := ranked [f.toList, t.toList, g.toList, u.toList, key.toList]
    have hf : f.toList ∈ [] :: [f.toList, t.toList, g.toList, u.toList, key.toList] := by simp
    have ht : t.toList ∈ [] :: [f.toList, t.toList, g.toList, u.toList, key.toList] := by simp
    have hg : g.toList ∈ [] :: [f.toList, t.toList, g.toList, u.toList, key.toList] := by simp
    have hu : u.toList ∈ [] :: [f.toList, t.toList, g.toList, u.toList, key.toList] := by simp
    have hk : key.toList ∈ [] :: [f.toList, t.toList, g.toList, u.toList, key.toList] := by simp
    have n1 := R.nonneg f.toList
    have n2 := R.nonneg t.toList
    have n3 := R.nonneg g.toList
    have n4 := R.nonneg u.toList
    have n5 := R.nonneg key.toList
    unfold span_Meet.f
    obtain ⟨m, hm, hc⟩ := end_r R ht hu
    have hs := smx_r R hf hg
    rw [hm]
    simp only [Option.bind_some]
    generalize smx f g = n at hs ⊢
    have hn : n.toList ∈ [] :: [f.toList, t.toList, g.toList, u.toList, key.toList] := by rcases hs with ⟨rfl, _⟩ | ⟨rfl, _⟩ <;> assumption
    have hmm : m.toList ∈ [] :: [f.toList, t.toList, g.toList, u.toList, key.toList] := by rcases hc with ⟨rfl, _⟩ | ⟨rfl, _⟩ <;> assumption
    have n6 := R.nonneg n.toList
    have n7 := R.nonneg m.toList
    have en : r n.toList = r f.toList ∧ r g.toList ≤ r f.toList ∨ r n.toList = r g.toList ∧ r f.toList ≤ r g.toList := by
      rcases hs with ⟨rfl, h⟩ | ⟨rfl, h⟩
      · exact Or.inl ⟨rfl, h⟩
      · exact Or.inr ⟨rfl, h⟩
    have em : (r m.toList = r t.toList ∧ (r u.toList = 0 ∨ (r t.toList ≠ 0 ∧ r t.toList ≤ r u.toList))) ∨ (r m.toList = r u.toList ∧ (r t.toList = 0 ∨ (r u.toList ≠ 0 ∧ r u.toList ≤ r t.toList))) := by
      rcases hc with ⟨rfl, h⟩ | ⟨rfl, h⟩
      · exact Or.inl ⟨rfl, h⟩
      · exact Or.inr ⟨rfl, h⟩
    have j1 : ∀ b : Bool, b = decide ((r f.toList ≤ r key.toList ∧ (r t.toList = 0 ∨ r key.toList < r t.toList)) ∧ (r g.toList ≤ r key.toList ∧ (r u.toList = 0 ∨ r key.toList < r u.toList))) →
        gazetteerlaw5_SpanAsks.j1 (k + 3) key b f t g u n m = some true := by
      intro b hb
      simp only [gazetteerlaw5_SpanAsks.j1]
      rw [has_r R hf ht hk, refhas_r R hf ht hk, empty_r R hf ht, refempty_r R hf ht, within_r R hf ht hg hu, refwithin_r R hf ht hg hu, has_r R hn hmm hk, empty_r R hn hmm, refmeets_r R hf ht hg hu]
      simp only [Option.bind_some, BEq.rfl, if_true]
      rw [hb, if_pos (by simp only [beq_iff_eq, decide_eq_decide]; omega)]
      simp only [Option.some.injEq, beq_iff_eq]
      rw [← decide_not, decide_eq_decide]
      omega
    rw [refhas_r R hf ht hk, refhas_r R hg hu hk]
    simp only [Option.bind_some]
    by_cases c : r f.toList ≤ r key.toList ∧ (r t.toList = 0 ∨ r key.toList < r t.toList)
    · rw [decide_eq_true c]
      simp only [Bool.false_eq_true, if_false, if_true]
      refine j1 _ ?_
      rw [decide_eq_decide]; exact ⟨fun h => ⟨c, h⟩, fun h => h.2⟩
    · rw [decide_eq_false c]
      simp only [Bool.false_eq_true, if_false]
      exact j1 _ (decide_eq_false (fun h => c h.1)).symm

theorem SpanAsks : gazetteerlaw5_SpanAsks.Pure := by
  intro f t g u key _ _ _ _ _
  obtain ⟨k, _⟩ : ∃ k : Nat, k = 0 := ⟨0, rfl⟩
  refine ⟨k + 4, ?_⟩
  unfold gazetteerlaw5_SpanAsks.f
  refine bindE (awake_eq k) (iteT rfl ?_)
  obtain ⟨b, hb⟩ := few_some ⟨f, t⟩ ⟨g, u⟩ k
  refine bindE hb ?_
  by_cases h : b = true
  · exact iteT h (j0_eq _ _ _ _ _ _ _)
  · exact iteF h (j0_eq _ _ _ _ _ _ _)

end Go.Proofs.Ytbfllekkbmeibaa.Pure
