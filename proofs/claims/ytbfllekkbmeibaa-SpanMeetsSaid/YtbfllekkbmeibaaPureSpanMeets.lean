/- SpanMeets, the plain law over the printed functions: what is in all of three spans does not hang on the order. No condition. -/
import Derived.Test.YtbfllekkbmeibaaPSpanMeetsy
import Derived.Test.YtbfllekkbmeibaaWOrd
namespace Go.Proofs.Ytbfllekkbmeibaa.Pure
set_option linter.unusedVariables false
set_option linter.unusedSimpArgs false
open Go.RowKit Go.Proofs.Ytbfllekkbmeibaa.PSpanMeets Go.Proofs.YtbfllekkbmeibaaW.PrintWords Go.Proofs.YtbfllekkbmeibaaW.PrintLast Go.Proofs.YtbfllekkbmeibaaW.PrintMore Go.Proofs.YtbfllekkbmeibaaW.PrintOrd

-- plain facts on the printed span functions, by ranks (pasted into Pure texts)
theorem has_r {r : List UInt8 → Int} {l : List (List UInt8)} (R : Ranked r l) {f t k : ByteArray} (hf : f.toList ∈ l) (ht : t.toList ∈ l) (hk : k.toList ∈ l) :
    span_Has.f f t k = some (decide (r f.toList ≤ r k.toList ∧ (r t.toList = 0 ∨ r k.toList < r t.toList))) := by
  unfold span_Has.f
  have h := R.nonneg t.toList
  have h' := R.nonneg k.toList
  simp only [R.lt hk hf, R.lt hk ht, R.isNil ht]
  by_cases h1 : r k.toList < r f.toList <;> by_cases h2 : r t.toList = 0 <;> by_cases h3 : r k.toList < r t.toList <;> simp [h1, h2, h3] <;> omega
theorem empty_r {r : List UInt8 → Int} {l : List (List UInt8)} (R : Ranked r l) {f t : ByteArray} (hf : f.toList ∈ l) (ht : t.toList ∈ l) :
    span_Empty.f f t = some (decide (r t.toList ≠ 0 ∧ r t.toList ≤ r f.toList)) := by
  unfold span_Empty.f
  have h := R.nonneg t.toList
  simp only [R.lt hf ht, R.isNil ht]
  by_cases h1 : r t.toList = 0 <;> by_cases h2 : r f.toList < r t.toList <;> simp [h1, h2] <;> omega
theorem end_r {r : List UInt8 → Int} {l : List (List UInt8)} (R : Ranked r l) {a b : ByteArray} (ha : a.toList ∈ l) (hb : b.toList ∈ l) :
    ∃ m, span_End.f a b = some m ∧ ((m = a ∧ (r b.toList = 0 ∨ (r a.toList ≠ 0 ∧ r a.toList ≤ r b.toList))) ∨ (m = b ∧ (r a.toList = 0 ∨ (r b.toList ≠ 0 ∧ r b.toList ≤ r a.toList)))) := by
  unfold span_End.f
  simp only [R.isNil ha, R.isNil hb]
  by_cases h1 : r a.toList = 0
  · rw [if_pos h1]; exact ⟨b, rfl, Or.inr ⟨rfl, Or.inl h1⟩⟩
  · rw [if_neg h1]
    by_cases h2 : r b.toList = 0
    · rw [if_pos h2]; exact ⟨a, rfl, Or.inl ⟨rfl, Or.inl h2⟩⟩
    · rw [if_neg h2]
      refine ⟨_, rfl, ?_⟩
      unfold smn
      have e : (a.toList == b.toList) = decide (r a.toList = r b.toList) := by
        rw [Bool.eq_iff_iff]; simp [R.eq ha hb]
      simp only [R.lt ha hb, e, Bool.or_eq_true, decide_eq_true_eq]
      by_cases h3 : r a.toList < r b.toList ∨ r a.toList = r b.toList
      · rw [if_pos h3]; exact Or.inl ⟨rfl, Or.inr ⟨h1, by omega⟩⟩
      · rw [if_neg h3]; exact Or.inr ⟨rfl, Or.inr ⟨h2, by omega⟩⟩
theorem smx_r {r : List UInt8 → Int} {l : List (List UInt8)} (R : Ranked r l) {a b : ByteArray} (ha : a.toList ∈ l) (hb : b.toList ∈ l) :
    (smx a b = a ∧ r b.toList ≤ r a.toList) ∨ (smx a b = b ∧ r a.toList ≤ r b.toList) := by
  unfold smx
  rw [R.lt ha hb]
  by_cases h : r a.toList < r b.toList
  · rw [decide_eq_true h]; exact Or.inr ⟨by simp, by omega⟩
  · rw [decide_eq_false h]; exact Or.inl ⟨by simp, by omega⟩
theorem within_r {r : List UInt8 → Int} {l : List (List UInt8)} (R : Ranked r l) {f t g u : ByteArray} (hf : f.toList ∈ l) (ht : t.toList ∈ l) (hg : g.toList ∈ l) (hu : u.toList ∈ l) :
    span_Within.f f t g u = some (decide ((r t.toList ≠ 0 ∧ r t.toList ≤ r f.toList) ∨ (r g.toList ≤ r f.toList ∧ (r u.toList = 0 ∨ (r t.toList ≠ 0 ∧ r t.toList ≤ r u.toList))))) := by
  unfold span_Within.f
  rw [empty_r R hf ht, empty_r R hg hu]
  obtain ⟨m, hm, hc⟩ := end_r R ht hu
  rw [hm]
  simp only [Option.bind_some]
  have h1 := R.nonneg t.toList
  have h2 := R.nonneg u.toList
  have h3 := R.nonneg g.toList
  have h4 := R.nonneg f.toList
  have hmt : m.toList = t.toList ↔ r u.toList = 0 ∨ (r t.toList ≠ 0 ∧ r t.toList ≤ r u.toList) := by
    rcases hc with ⟨rfl, hc⟩ | ⟨rfl, hc⟩
    · exact ⟨fun _ => hc, fun _ => rfl⟩
    · rw [R.eq hu ht]; omega
  rw [R.lt hf hg]
  by_cases c1 : r t.toList ≠ 0 ∧ r t.toList ≤ r f.toList
  · rw [decide_eq_true c1, decide_eq_true (Or.inl c1)]; simp
  · rw [decide_eq_false c1]
    by_cases c2 : r f.toList < r g.toList
    · rw [decide_eq_true c2]; simp only [Bool.false_eq_true, if_false, if_true, Option.bind_some, Option.some.injEq]; rw [eq_comm, decide_eq_false_iff_not]; omega
    · rw [decide_eq_false c2]
      by_cases c3 : m.toList = t.toList
      · have c4 := hmt.1 c3
        rw [if_pos c3, decide_eq_false (show ¬ (r u.toList ≠ 0 ∧ r u.toList ≤ r g.toList) by omega)]; simp only [Bool.false_eq_true, if_false, if_true, Option.bind_some, Option.some.injEq, Bool.not_false]; rw [eq_comm, decide_eq_true_iff]; omega
      · have c4 : ¬ _ := fun h => c3 (hmt.2 h)
        rw [if_neg c3]; simp only [Bool.false_eq_true, if_false, if_true, Option.bind_some, Option.some.injEq]; rw [eq_comm, decide_eq_false_iff_not]; omega
theorem refhas_r {r : List UInt8 → Int} {l : List (List UInt8)} (R : Ranked r l) {f t k : ByteArray} (hf : f.toList ∈ l) (ht : t.toList ∈ l) (hk : k.toList ∈ l) :
    gazetteerref5_Has.f f t k = some (decide (r f.toList ≤ r k.toList ∧ (r t.toList = 0 ∨ r k.toList < r t.toList))) := by
  unfold gazetteerref5_Has.f
  have h := R.nonneg t.toList
  have h' := R.nonneg k.toList
  have e : (t.toList == []) = decide (r t.toList = 0) := by
    rw [Bool.eq_iff_iff]; simp [R.isNil ht]
  simp only [R.lt hk hf, R.lt hk ht, e]
  by_cases h1 : r k.toList < r f.toList <;> by_cases h2 : r t.toList = 0 <;> by_cases h3 : r k.toList < r t.toList <;> simp [h1, h2, h3] <;> omega
theorem awake_eq (k : Nat) : gazetteerlaw5_awake.f (k + 4) = some true := by
  simp [gazetteerlaw5_awake.f, span_Has.f, span_Within.f, span_Empty.f, span_End.f, span_Whole.f, span_Whole.l0, ByteArray.toList_eq, Op.bytesLess, rd_T38, wrap64]
theorem few_some (x y z : S38) (k : Nat) : ∃ b, gazetteerlaw5_Few.f (k + 5) [x, y, z] = some b := by
  unfold gazetteerlaw5_Few.f
  have e1 : wrap64 (0 + 1) = 1 := by unfold wrap64; omega
  have e2 : wrap64 (1 + 1) = 2 := by unfold wrap64; omega
  have e3 : wrap64 (2 + 1) = 3 := by unfold wrap64; omega
  simp only [gazetteerlaw5_Few.l0, List.length_cons, List.length_nil, e1, e2, e3]
  exact ⟨_, rfl⟩
theorem meet_r {r : List UInt8 → Int} {l : List (List UInt8)} (R : Ranked r l) {f t g u : ByteArray} (hf : f.toList ∈ l) (ht : t.toList ∈ l) (hg : g.toList ∈ l) (hu : u.toList ∈ l) :
    ∃ p q : ByteArray, span_Meet.f f t g u = some (p, q) ∧ p.toList ∈ l ∧ q.toList ∈ l ∧ ((r p.toList = r f.toList ∧ r g.toList ≤ r f.toList) ∨ (r p.toList = r g.toList ∧ r f.toList ≤ r g.toList)) ∧
      ((r q.toList = r t.toList ∧ (r u.toList = 0 ∨ (r t.toList ≠ 0 ∧ r t.toList ≤ r u.toList))) ∨ (r q.toList = r u.toList ∧ (r t.toList = 0 ∨ (r u.toList ≠ 0 ∧ r u.toList ≤ r t.toList)))) := by
  obtain ⟨m, hm, hc⟩ := end_r R ht hu
  have hs := smx_r R hf hg
  refine ⟨smx f g, m, ?_, ?_, ?_, ?_, ?_⟩
  · unfold span_Meet.f; rw [hm]; rfl
  · rcases hs with ⟨h, _⟩ | ⟨h, _⟩ <;> rw [h] <;> assumption
  · rcases hc with ⟨rfl, _⟩ | ⟨rfl, _⟩ <;> assumption
  · rcases hs with ⟨h, h'⟩ | ⟨h, h'⟩ <;> rw [h]
    · exact Or.inl ⟨rfl, h'⟩
    · exact Or.inr ⟨rfl, h'⟩
  · rcases hc with ⟨rfl, h⟩ | ⟨rfl, h⟩
    · exact Or.inl ⟨rfl, h⟩
    · exact Or.inr ⟨rfl, h⟩

section
variable {r : List UInt8 → Int} {l : List (List UInt8)} (R : Ranked r l) {a0 a1 b0 b1 c0 c1 x0 x1 y0 y1 : ByteArray}
  (ha0 : a0.toList ∈ l) (ha1 : a1.toList ∈ l) (hb0 : b0.toList ∈ l) (hb1 : b1.toList ∈ l) (hc0 : c0.toList ∈ l) (hc1 : c1.toList ∈ l) (hx0 : x0.toList ∈ l) (hx1 : x1.toList ∈ l) (hy0 : y0.toList ∈ l) (hy1 : y1.toList ∈ l)
  (HX : ∀ n : Int, 0 ≤ n → ((r x0.toList ≤ n ∧ (r x1.toList = 0 ∨ n < r x1.toList)) ↔ (r a0.toList ≤ n ∧ (r a1.toList = 0 ∨ n < r a1.toList)) ∧ (r b0.toList ≤ n ∧ (r b1.toList = 0 ∨ n < r b1.toList)) ∧ (r c0.toList ≤ n ∧ (r c1.toList = 0 ∨ n < r c1.toList))))
  (HY : ∀ n : Int, 0 ≤ n → ((r y0.toList ≤ n ∧ (r y1.toList = 0 ∨ n < r y1.toList)) ↔ (r a0.toList ≤ n ∧ (r a1.toList = 0 ∨ n < r a1.toList)) ∧ (r b0.toList ≤ n ∧ (r b1.toList = 0 ∨ n < r b1.toList)) ∧ (r c0.toList ≤ n ∧ (r c1.toList = 0 ∨ n < r c1.toList))))
include R ha0 ha1 hx0 hx1 hy0 hy1 HX HY
theorem j1_eq (x9 : List ByteArray) (hk : ∀ k ∈ x9, k.toList ∈ l) (i : Nat) (hi : i < x9.length) (hlen : x9.length ≤ 10) (k : Nat) (b : Bool)
    (hb : b = decide ((r a0.toList ≤ r (rdOf ByteArray.empty x9 (i : Int)).toList ∧ (r a1.toList = 0 ∨ r (rdOf ByteArray.empty x9 (i : Int)).toList < r a1.toList)) ∧ (r b0.toList ≤ r (rdOf ByteArray.empty x9 (i : Int)).toList ∧ (r b1.toList = 0 ∨ r (rdOf ByteArray.empty x9 (i : Int)).toList < r b1.toList)) ∧ (r c0.toList ≤ r (rdOf ByteArray.empty x9 (i : Int)).toList ∧ (r c1.toList = 0 ∨ r (rdOf ByteArray.empty x9 (i : Int)).toList < r c1.toList)))) :
    gazetteerlaw5_SpanMeets.j1 (k + 1) x9 (i : Int) b a0 a1 b0 b1 c0 c1 x0 x1 y0 y1 = gazetteerlaw5_SpanMeets.l0 k x9 ((i + 1 : Nat) : Int) a0 a1 b0 b1 c0 c1 x0 x1 y0 y1 := by
  simp only [gazetteerlaw5_SpanMeets.j1]
  have hw : wrap64 ((i : Int) + 1) = ((i + 1 : Nat) : Int) := by unfold wrap64; omega
  rw [if_pos (by omega), if_pos (by omega), hw]
  have hm : rdOf ByteArray.empty x9 (i : Int) ∈ x9 := by
    simp only [rdOf, Int.toNat_natCast, List.getD_eq_getElem?_getD, List.getElem?_eq_getElem hi, Option.getD_some]
    exact List.getElem_mem hi
  have hkk := hk _ hm
  generalize rdOf ByteArray.empty x9 (i : Int) = key at *
  have hn := R.nonneg key.toList
  rw [has_r R hx0 hx1 hkk, has_r R hy0 hy1 hkk]
  have he : (⟨#[]⟩ : ByteArray).toList ∈ l := by simpa [ByteArray.toList_eq] using R.nil_mem
  have he0 : r (⟨#[]⟩ : ByteArray).toList = 0 := by simpa [ByteArray.toList_eq] using R.nil
  obtain ⟨p, q, hpq, hp, hq, ep, eq⟩ := meet_r R ha0 ha1 he he
  rw [he0] at ep eq
  simp only [hpq, Option.bind_some]
  rw [has_r R hp hq hkk, refhas_r R ha0 ha1 hkk]
  simp only [Option.bind_some]
  have n0 := R.nonneg a0.toList
  have n1 := R.nonneg a1.toList
  have n2 := R.nonneg p.toList
  have n3 := R.nonneg q.toList
  have d1 : decide (r x0.toList ≤ r key.toList ∧ (r x1.toList = 0 ∨ r key.toList < r x1.toList)) = b := by rw [hb, decide_eq_decide]; exact HX _ hn
  have d2 : decide (r y0.toList ≤ r key.toList ∧ (r y1.toList = 0 ∨ r key.toList < r y1.toList)) = b := by rw [hb, decide_eq_decide]; exact HY _ hn
  have d3 : decide (r p.toList ≤ r key.toList ∧ (r q.toList = 0 ∨ r key.toList < r q.toList)) = decide (r a0.toList ≤ r key.toList ∧ (r a1.toList = 0 ∨ r key.toList < r a1.toList)) := by rw [decide_eq_decide]; omega
  rw [d1, d2, d3]
  simp only [bne_self_eq_false, Bool.false_eq_true, if_false]
include hb0 hb1 hc0 hc1
theorem l0_eq (x9 : List ByteArray) (hk : ∀ k ∈ x9, k.toList ∈ l) (hlen : x9.length ≤ 10)
    (hfin : ∀ k, gazetteerlaw5_SpanMeets.l0 (k + 1) x9 (x9.length : Int) a0 a1 b0 b1 c0 c1 x0 x1 y0 y1 = some true) :
    ∀ (n i k : Nat), n = x9.length - i → i ≤ x9.length → 2 * n + 1 ≤ k → gazetteerlaw5_SpanMeets.l0 k x9 (i : Int) a0 a1 b0 b1 c0 c1 x0 x1 y0 y1 = some true
  | 0, i, k + 1, hn, hi, hkk => by
    have : i = x9.length := by omega
    subst this
    exact hfin k
  | n + 1, i, k + 2, hn, hi, hkk => by
    have hi' : i < x9.length := by omega
    have hm : rdOf ByteArray.empty x9 (i : Int) ∈ x9 := by
      simp only [rdOf, Int.toNat_natCast, List.getD_eq_getElem?_getD, List.getElem?_eq_getElem hi', Option.getD_some]
      exact List.getElem_mem hi'
    have hmk := hk _ hm
    have hj := fun b => j1_eq R ha0 ha1 hx0 hx1 hy0 hy1 HX HY x9 hk i hi' hlen k b
    have ih := l0_eq x9 hk hlen hfin n (i + 1) k (by omega) (by omega) (by omega)
    simp only [gazetteerlaw5_SpanMeets.l0]
    rw [if_pos (by omega), if_pos (by omega)]
    rw [refhas_r R ha0 ha1 hmk, refhas_r R hb0 hb1 hmk, refhas_r R hc0 hc1 hmk]
    simp only [Option.bind_some]
    by_cases ca : r a0.toList ≤ r (rdOf ByteArray.empty x9 (i : Int)).toList ∧ (r a1.toList = 0 ∨ r (rdOf ByteArray.empty x9 (i : Int)).toList < r a1.toList)
    · rw [if_pos (decide_eq_true ca)]
      by_cases cb : r b0.toList ≤ r (rdOf ByteArray.empty x9 (i : Int)).toList ∧ (r b1.toList = 0 ∨ r (rdOf ByteArray.empty x9 (i : Int)).toList < r b1.toList)
      · rw [if_pos (decide_eq_true cb), hj _ (by rw [decide_eq_decide]; exact ⟨fun h => ⟨ca, cb, h⟩, fun h => h.2.2⟩)]
        exact ih
      · rw [if_neg (by rw [decide_eq_false cb]; exact Bool.false_ne_true), hj _ (decide_eq_false (fun h => cb h.2.1)).symm]
        exact ih
    · rw [if_neg (by rw [decide_eq_false ca]; exact Bool.false_ne_true), hj _ (decide_eq_false (fun h => ca h.1)).symm]
      exact ih
end

theorem SpanMeets : gazetteerlaw5_SpanMeets.Pure := by
  intro a0 a1 b0 b1 c0 c1 s0 s1 s2 s3 s4 s5
  obtain ⟨r, R⟩ := ranked [a0.toList, a1.toList, b0.toList, b1.toList, c0.toList, c1.toList, (a0 ++ (⟨#[0]⟩ : ByteArray)).toList, (b1 ++ (⟨#[120]⟩ : ByteArray)).toList, (⟨#[255, 255]⟩ : ByteArray).toList]
  generalize hL : [] :: [a0.toList, a1.toList, b0.toList, b1.toList, c0.toList, c1.toList, (a0 ++ (⟨#[0]⟩ : ByteArray)).toList, (b1 ++ (⟨#[120]⟩ : ByteArray)).toList, (⟨#[255, 255]⟩ : ByteArray).toList] = l at R
  have ha0 : a0.toList ∈ l := by rw [← hL]; simp
  have ha1 : a1.toList ∈ l := by rw [← hL]; simp
  have hb0 : b0.toList ∈ l := by rw [← hL]; simp
  have hb1 : b1.toList ∈ l := by rw [← hL]; simp
  have hc0 : c0.toList ∈ l := by rw [← hL]; simp
  have hc1 : c1.toList ∈ l := by rw [← hL]; simp
  obtain ⟨p0, p1, ep, hp0, hp1, ip0, ip1⟩ := meet_r R ha0 ha1 hb0 hb1
  obtain ⟨x0, x1, ex, hx0, hx1, ix0, ix1⟩ := meet_r R hp0 hp1 hc0 hc1
  obtain ⟨q0, q1, eq, hq0, hq1, iq0, iq1⟩ := meet_r R hc0 hc1 hb0 hb1
  obtain ⟨y0, y1, ey, hy0, hy1, iy0, iy1⟩ := meet_r R ha0 ha1 hq0 hq1
  have n0 := R.nonneg a0.toList
  have n1 := R.nonneg a1.toList
  have n2 := R.nonneg b0.toList
  have n3 := R.nonneg b1.toList
  have n4 := R.nonneg c0.toList
  have n5 := R.nonneg c1.toList
  have HX : ∀ n : Int, 0 ≤ n → ((r x0.toList ≤ n ∧ (r x1.toList = 0 ∨ n < r x1.toList)) ↔ (r a0.toList ≤ n ∧ (r a1.toList = 0 ∨ n < r a1.toList)) ∧ (r b0.toList ≤ n ∧ (r b1.toList = 0 ∨ n < r b1.toList)) ∧ (r c0.toList ≤ n ∧ (r c1.toList = 0 ∨ n < r c1.toList))) := by
    intro n hn
    clear iq0 iq1 iy0 iy1
    omega
  have HY : ∀ n : Int, 0 ≤ n → ((r y0.toList ≤ n ∧ (r y1.toList = 0 ∨ n < r y1.toList)) ↔ (r a0.toList ≤ n ∧ (r a1.toList = 0 ∨ n < r a1.toList)) ∧ (r b0.toList ≤ n ∧ (r b1.toList = 0 ∨ n < r b1.toList)) ∧ (r c0.toList ≤ n ∧ (r c1.toList = 0 ∨ n < r c1.toList))) := by
    intro n hn
    clear ip0 ip1 ix0 ix1
    omega
  have wab := within_r R ha0 ha1 hb0 hb1
  have wbc := within_r R hb0 hb1 hc0 hc1
  have wac := within_r R ha0 ha1 hc0 hc1
  have wxa : span_Within.f x0 x1 a0 a1 = some true := by
    rw [within_r R hx0 hx1 ha0 ha1]; congr 1; apply decide_eq_true; clear iq0 iq1 iy0 iy1; omega
  have wxc : span_Within.f x0 x1 c0 c1 = some true := by
    rw [within_r R hx0 hx1 hc0 hc1]; congr 1; apply decide_eq_true; clear iq0 iq1 iy0 iy1; omega
  clear ip0 ip1 ix0 ix1 iq0 iq1 iy0 iy1
  obtain ⟨k, hkk⟩ : ∃ k : Nat, k = 20 := ⟨20, rfl⟩
  refine ⟨k + 5, ?_⟩
  unfold gazetteerlaw5_SpanMeets.f
  refine bindE (awake_eq (k + 1)) (iteT rfl ?_)
  obtain ⟨b, hb⟩ := few_some ⟨a0, a1⟩ ⟨b0, b1⟩ ⟨c0, c1⟩ k
  refine bindE hb ?_
  by_cases h : b = true
  · refine iteT h ?_
    refine bindE ep (bindE ex (bindE eq (bindE ey ?_)))
    refine iteT (by omega) (iteT (by omega) ?_)
    refine l0_eq R ha0 ha1 hb0 hb1 hc0 hc1 hx0 hx1 hy0 hy1 HX HY _ ?_ (by simp) (fun k => ?_) 10 0 (k + 5) (by simp) (by simp) (by omega)
    · intro key hkey
      simp only [List.mem_cons, List.not_mem_nil, or_false] at hkey
      rw [← hL]
      rcases hkey with rfl | rfl | rfl | rfl | rfl | rfl | rfl | rfl | rfl | rfl <;> simp [ByteArray.toList_eq]
    · simp only [gazetteerlaw5_SpanMeets.l0]
      rw [if_neg (by omega), wab, wbc, wac]
      simp only [wxa, wxc, Option.bind_some, if_true]
      split
      · split
        · rw [if_pos]
          simp only [decide_eq_true_eq] at *
          omega
        · rfl
      · rfl
  · exact iteF h rfl
end Go.Proofs.Ytbfllekkbmeibaa.Pure
