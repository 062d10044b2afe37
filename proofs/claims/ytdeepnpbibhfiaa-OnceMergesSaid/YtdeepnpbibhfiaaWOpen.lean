/- General lemmas, no law in them: what an argument of any type (whole numbers, bools, strings, structs, arrays, slices, nested in any way) reads as, in the kinds' words, with its bounds. No condition. -/
import Derived.Test.YtdeepnpbibhfiaaWWords
import Derived.Test.YtdeepnpbibhfiaaWArr
import Derived.Deep.Slices
import Derived.ChangeArms
import Derived.OpenShut
import Derived.SizedLaws
namespace Go.Proofs.YtdeepnpbibhfiaaW.PrintOpen
open Go.ChangeShapes Go.WideShapes Go.Deep Go.Proofs.YtdeepnpbibhfiaaW.PrintWords
set_option linter.unusedVariables false

/-- What a value weighs is within the reach. -/
def Sized {H : Type} (P : Program) (t : TypeId) (d : DataW H) : Prop := ∀ n ∈ d.weights P t, n ≤ reachBytes

theorem sized_of {H : Type} {P : Program} {ts : List TypeId} {ds : List (DataW H)} (h : (DataW.weightsEach P ts ds).all (· ≤ reachBytes) = true) {j : Nat} {t : TypeId} {d : DataW H} (ht : ts[j]? = some t) (hd : ds[j]? = some d) : Sized P t d := by
  intro n hn
  have := List.all_eq_true.1 h _ (DataW.weights_mem_each ht hd n hn)
  simpa using this

def Opens {α : Type} (P : Program) (t : TypeId) (k : Kd α) (B : α → Prop) : Prop :=
  ∀ {H : Type} {enc : TypeId × Value → H} {w : World} {base : Nat} {spare : Nat → Bool} {held : Bool} {fuel : Nat} {cs : List Value} {x : DataW H × List MemPlace},
    DataW.trod enc P w base spare held fuel t cs = some x → Sized P t x.1 → ∃ a, k.K w a cs ∧ B a

theorem Opens.int {P : Program} {t : TypeId} {k : IntKind} (hu : P.underlying t = some (.int k)) : Opens P t (Kd.int k) (fun n => (Lit.int k n).wf = true) := by
  intro H enc w base spare held fuel cs x h _
  obtain ⟨n, rfl, _, hw⟩ := DataW.trod_int hu h
  exact ⟨n, rfl, hw⟩
theorem Opens.bool {P : Program} {t : TypeId} (hu : P.underlying t = some .bool) : Opens P t Kd.bool (fun _ => True) := by
  intro H enc w base spare held fuel cs x h _
  obtain ⟨n, rfl, _⟩ := DataW.trod_bool hu h
  exact ⟨n, rfl, trivial⟩
theorem Opens.string {P : Program} {t : TypeId} (hu : P.underlying t = some .string) : Opens P t Kd.string (fun s => s.size ≤ 140737488351232) := by
  intro H enc w base spare held fuel cs x h hs
  obtain ⟨s, rfl, rfl, _⟩ := DataW.trod_string hu h
  refine ⟨s, rfl, ?_⟩
  have := hs s.data.toList.length (by simp [DataW.weights])
  simpa [reachBytes] using this

theorem cells_at {w : World} {base : Nat} {a : Addr} {n : Nat} {cs : List Value} (h : w.cells? base a n = some cs) : cs.length = n ∧ ∀ i u, cs[i]? = some u → w.cell? (a.add i) = some u := by
  unfold World.cells? at h
  split at h
  · have key : ∀ (l : List Nat) (cs : List Value), (l.mapM fun i => w.cell? (a.add i)) = some cs → cs.length = l.length ∧ ∀ (i : Nat) (u : Value), cs[i]? = some u → ∃ j : Nat, l[i]? = some j ∧ w.cell? (a.add j) = some u := by
      intro l
      induction l with
      | nil => intro cs h; simp at h; subst h; simp
      | cons x l ih =>
        intro cs h
        rw [List.mapM_cons] at h
        simp only [Option.bind_eq_bind, Option.bind_eq_some_iff] at h
        obtain ⟨v, hv, vs, hvs, hcs⟩ := h
        simp at hcs
        subst hcs
        obtain ⟨h1, h2⟩ := ih vs hvs
        refine ⟨by simp [h1], fun i u hu => ?_⟩
        cases i with
        | zero => simp at hu; subst hu; exact ⟨x, rfl, hv⟩
        | succ i => simp at hu; obtain ⟨j, hj, hc⟩ := h2 i u hu; exact ⟨j, by simpa using hj, hc⟩
    obtain ⟨h1, h2⟩ := key _ _ h
    refine ⟨by simpa using h1, fun i u hu => ?_⟩
    obtain ⟨j, hj, hc⟩ := h2 i u hu
    rw [List.getElem?_range (by have := (List.getElem?_eq_some_iff.1 hu).1; simp at h1; omega)] at hj
    obtain rfl : i = j := by simpa using hj
    exact hc
  · cases h

theorem weights_all_mem {H : Type} {P : Program} {e : TypeId} : ∀ (ds : List (DataW H)) (d : DataW H), d ∈ ds → ∀ n ∈ d.weights P e, n ∈ DataW.weightsAll P e ds
  | [], d, h, n, hn => by cases h
  | d0 :: ds, d, h, n, hn => by
    simp only [DataW.weightsAll, List.mem_append]
    rcases List.mem_cons.1 h with rfl | h
    · exact Or.inl hn
    · exact Or.inr (weights_all_mem ds d h n hn)

theorem Opens.slice {α : Type} [Inhabited α] {P : Program} {t e : TypeId} {k : Kd α} {B : α → Prop} {b : Nat} (hu : P.underlying t = some (.slice e)) (he : Opens P e k B) (hc : P.cellsOf e = k.sz) (hb : P.bytesOf e = b) :
    Opens P t (Kd.slice e k) (fun l => l.length ≤ maxLen ∧ l.length * b ≤ 140737488351232 ∧ ∀ x ∈ l, B x) := by
  intro H enc w base spare held fuel cs x h hs
  rcases open_slice hu h with ⟨rfl, _⟩ | ⟨a, len, cap, m, n, D, Pl, rfl, hba, hl, hm, hmm, rfl, hx⟩
  · refine ⟨[], ⟨none, 0, rfl, by simp, ?_⟩, by simp, by simp, by simp⟩
    exact ⟨rfl, by simp, by simp⟩
  · have hlm : len ≤ m := by rw [hmm]; split <;> omega
    have hD : ∀ i, i < len → Sized P e (D i) := by
      intro i hi q hq
      refine hs q ?_
      simp only [DataW.weights, hu, List.mem_cons, List.mem_append]
      exact Or.inr (Or.inl (weights_all_mem _ (D i) (List.mem_map.2 ⟨i, List.mem_range.2 hi, rfl⟩) q hq))
    obtain ⟨f, hf⟩ := choose_lt (α := α) (n := len) (p := fun i y => B y ∧ ∃ c, c.length = k.sz ∧ k.K w y c ∧ ∀ j u, c[j]? = some u → w.cell? (a.add (i * k.sz + j)) = some u) (fun i hi => by
      obtain ⟨cs', h1, h2⟩ := hx i (by omega)
      obtain ⟨y, hy, hB⟩ := he h2 (hD i hi)
      obtain ⟨h3, h4⟩ := cells_at h1
      refine ⟨y, hB, cs', by rw [h3, hc], hy, fun j u hj => ?_⟩
      have := h4 j u hj
      rwa [Deep.add_add, hc] at this)
    have hml : len ≤ maxLen := by omega
    refine ⟨(List.range len).map f, ⟨some a, cap, by simp, by simpa using hl, ⟨rfl, by simpa [maxLen] using hml, fun _ => ⟨a, rfl, fun j p hj => ?_⟩⟩⟩, by simpa using hml, ?_, ?_⟩
    · have hj' : j < len := by have := (List.getElem?_eq_some_iff.1 hj).1; simpa using this
      rw [List.getElem?_map, List.getElem?_range hj'] at hj
      simp at hj
      subst hj
      exact (hf j hj').2
    · have := hs ((((List.range len).map D).length + ((List.range (m - len)).map fun j => D (len + j)).length) * P.bytesOf e) (by simp [DataW.weights, hu])
      simp only [List.length_map, List.length_range, reachBytes, hb] at this ⊢
      exact Nat.le_trans (Nat.mul_le_mul_right b (by omega)) this
    · intro y hy
      obtain ⟨i, hi, rfl⟩ := List.mem_map.1 hy
      exact (hf i (List.mem_range.1 hi)).1

theorem Opens.iso {α β : Type} {P : Program} {t : TypeId} {k : Kd α} {B : α → Prop} (h : Opens P t k B) (f : β → α) (g : α → β) (hg : ∀ x, f (g x) = x) : Opens P t (Kd.iso k f) (fun x => B (f x)) := by
  intro H enc w base spare held fuel cs x hx hs
  obtain ⟨a, h1, h2⟩ := h hx hs
  exact ⟨g a, by show k.K w (f (g a)) cs; rw [hg]; exact h1, by show B (f (g a)); rw [hg]; exact h2⟩

theorem Opens.weaken {α : Type} {P : Program} {t : TypeId} {k : Kd α} {B B' : α → Prop} (h : Opens P t k B) (hb : ∀ x, B x → B' x) : Opens P t k B' := by
  intro H enc w base spare held fuel cs x hx hs
  obtain ⟨a, h1, h2⟩ := h hx hs
  exact ⟨a, h1, hb a h2⟩

/-- Fields in line, from a place on. -/
def OpensFs {α : Type} (P : Program) (fs : List (TypeId × Nat)) (off : Nat) (k : Kd α) (B : α → Prop) : Prop :=
  ∀ {H : Type} {enc : TypeId × Value → H} {w : World} {base : Nat} {spare : Nat → Bool} {held : Bool} {fuel : Nat} {cs : List Value} {xs : List (DataW H × List MemPlace)},
    xs.length = fs.length → (∀ (i : Nat) (f : TypeId × Nat), fs[i]? = some f → DataW.trod enc P w base spare held fuel f.1 ((cs.drop f.2).take (P.cellsOf f.1)) = xs[i]?) → cs.length = off + k.sz → (∀ q ∈ DataW.weightsEach P (fs.map (·.1)) (xs.map (·.1)), q ≤ reachBytes) → ∃ a, k.K w a (cs.drop off) ∧ B a

theorem OpensFs.one {α : Type} {P : Program} {t : TypeId} {off : Nat} {k : Kd α} {B : α → Prop} (h : Opens P t k B) (hc : P.cellsOf t = k.sz) : OpensFs P [(t, off)] off k B := by
  intro H enc w base spare held fuel cs xs hm0 hm hl hs
  obtain ⟨y, rfl⟩ : ∃ y, xs = [y] := by
    match xs, hm0 with
    | [y], _ => exact ⟨y, rfl⟩
  have hy := hm 0 _ rfl
  simp only [List.getElem?_cons_zero] at hy
  rw [List.take_of_length_le (by rw [List.length_drop, hc]; omega)] at hy
  obtain ⟨a, h1, h2⟩ := h hy (fun n hn => hs n (by simp [DataW.weightsEach, hn]))
  exact ⟨a, h1, h2⟩

theorem OpensFs.cons {α β : Type} {P : Program} {t : TypeId} {off : Nat} {fs : List (TypeId × Nat)} {k : Kd α} {k' : Kd β} {B : α → Prop} {B' : β → Prop} (h : Opens P t k B) (hc : P.cellsOf t = k.sz) (hr : OpensFs P fs (off + k.sz) k' B') :
    OpensFs P ((t, off) :: fs) off (Kd.pair k k') (fun x => B x.1 ∧ B' x.2) := by
  intro H enc w base spare held fuel cs xs hm0 hm hl hs
  obtain ⟨y, ys, rfl⟩ : ∃ y ys, xs = y :: ys := by
    match xs, hm0 with
    | y :: ys, _ => exact ⟨y, ys, rfl⟩
  have hy := hm 0 _ rfl
  simp only [List.getElem?_cons_zero] at hy
  have hl' : cs.length = off + (k.sz + k'.sz) := hl
  obtain ⟨a, h1, h2⟩ := h hy (fun n hn => hs n (by simp [DataW.weightsEach, hn]))
  obtain ⟨b, h3, h4⟩ := hr (xs := ys) (by simpa using hm0) (fun i f hf => by simpa using hm (i + 1) f (by simpa using hf)) (by omega) (fun n hn => hs n (by simp only [List.map_cons, DataW.weightsEach, List.mem_append]; exact Or.inr hn))
  refine ⟨(a, b), ⟨_, _, ?_, h1, h3⟩, h2, h4⟩
  rw [hc, ← List.drop_drop, List.take_append_drop]

theorem Opens.struct {α : Type} {P : Program} {t : TypeId} {fs : Array Field} {k : Kd α} {B : α → Prop} (hu : P.underlying t = some (.struct fs)) (hc : P.cellsOf t = k.sz) (h : OpensFs P (fs.toList.map fun f => (f.type, f.offset)) 0 k B) : Opens P t k B := by
  intro H enc w base spare held fuel cs x hx hs
  obtain ⟨xs, n, hfu, hxe, hlen, hm0, hm⟩ := DataW.trod_struct hu hx
  subst hxe
  obtain ⟨a, h1, h2⟩ := h (xs := xs) (fuel := n) (by simpa using hm0) (fun i f hf => by
    rw [List.getElem?_map] at hf
    obtain ⟨g, hg, rfl⟩ := Option.map_eq_some_iff.1 hf
    exact hm i g (by simpa using hg)) (by rw [hlen, hc]; omega) (by
    intro q hq
    refine hs q ?_
    simp only [DataW.weights, hu]
    simpa [List.map_map, Function.comp_def] using hq)
  exact ⟨a, by simpa using h1, h2⟩

theorem Opens.array {α : Type} {P : Program} {t e : TypeId} {n : Nat} {k : Kd α} {B : α → Prop} (hu : P.underlying t = some (.array n e)) (hc : P.cellsOf t = k.sz) (h : OpensFs P ((List.range n).map fun i => (e, i * P.cellsOf e)) 0 k B) : Opens P t k B := by
  intro H enc w base spare held fuel cs x hx hs
  obtain ⟨xs, m, hfu, hxe, hlen, hm0, hm⟩ := DataW.trod_array hu hx
  subst hxe
  obtain ⟨a, h1, h2⟩ := h (xs := xs) (fuel := m) (by simpa using hm0) (fun i f hf => by
    rw [List.getElem?_map] at hf
    obtain ⟨g, hg, rfl⟩ := Option.map_eq_some_iff.1 hf
    have hi : i < n := by have := (List.getElem?_eq_some_iff.1 hg).1; simpa using this
    rw [List.getElem?_range hi] at hg
    obtain rfl : i = g := by simpa using hg
    exact hm i hi) (by rw [hlen, hc]; omega) (by
    intro q hq
    refine hs q ?_
    simp only [DataW.weights, hu]
    have hone : ∀ (l : List Nat) (ds : List (DataW H)), q ∈ DataW.weightsEach P ((l.map fun i => (e, i * P.cellsOf e)).map (·.1)) ds → q ∈ DataW.weightsAll P e ds := by
      intro l
      induction l with
      | nil => intro ds hq; simp [DataW.weightsEach] at hq
      | cons i l ih =>
        intro ds hq
        cases ds with
        | nil => simp [DataW.weightsEach] at hq
        | cons d ds =>
          simp only [List.map_cons, DataW.weightsEach, List.mem_append] at hq
          simp only [DataW.weightsAll, List.mem_append]
          exact hq.imp id (ih ds)
    exact hone _ _ hq)
  exact ⟨a, by simpa using h1, h2⟩

section
variable {H : Type} {enc : TypeId × Value → H} {P : Program} {w : World} {base b0 : Nat} {spare : Nat → Bool} {held : Bool} {r : Reach} {t : TypeId} {v : Value} {d : DataW H} {ps : List MemPlace}
theorem at_int {k : IntKind} (hu : P.underlying t = some (.int k)) (hv : Value.okWide P w r b0 t v) (h : DataW.Trod enc P w base spare held t v d ps) (hs : Sized P t d) : ∃ n, v = .int k n ∧ (Lit.int k n).wf = true := by
  obtain ⟨n, rfl⟩ := okWide_int hu hv
  obtain ⟨fuel, hf⟩ := h
  obtain ⟨m, hm, hw⟩ := Opens.int hu hf hs
  have e : [Value.int k n] = [Value.int k m] := hm
  simp at e
  subst e
  exact ⟨n, rfl, hw⟩
theorem at_bool (hu : P.underlying t = some .bool) (hv : Value.okWide P w r b0 t v) : ∃ b, v = .bool b := okWide_bool hu hv
theorem at_string (hu : P.underlying t = some .string) (hv : Value.okWide P w r b0 t v) (h : DataW.Trod enc P w base spare held t v d ps) (hs : Sized P t d) : ∃ s : ByteArray, v = .string s ∧ s.size ≤ 140737488351232 := by
  obtain ⟨n, rfl⟩ := okWide_string hu hv
  obtain ⟨fuel, hf⟩ := h
  obtain ⟨m, hm, hw⟩ := Opens.string hu hf hs
  have e : [Value.string n] = [Value.string m] := hm
  simp at e
  subst e
  exact ⟨n, rfl, hw⟩
theorem at_slice {α : Type} {e : TypeId} {k : Kd α} {B : List α → Prop} (ho : Opens P t (Kd.slice e k) B) {e' : TypeId} (hu : P.underlying t = some (.slice e')) (hv : Value.okWide P w r b0 t v) (h : DataW.Trod enc P w base spare held t v d ps) (hs : Sized P t d) :
    ∃ (xs : List α) (A : Option Addr) (c : Nat), v = .slice A xs.length c ∧ xs.length ≤ c ∧ Kd.C k w A xs.length xs ∧ B xs := by
  obtain ⟨A, n, c, rfl⟩ := okWide_slice hu hv
  obtain ⟨fuel, hf⟩ := h
  obtain ⟨xs, ⟨A', c', he, hl, hc⟩, hB⟩ := ho hf hs
  have e : [Value.slice A n c] = [Value.slice A' xs.length c'] := he
  simp at e
  obtain ⟨rfl, rfl, rfl⟩ := e
  exact ⟨xs, A, c, rfl, hl, hc, hB⟩
theorem at_struct {α : Type} {fs : Array Field} {k : Kd α} {B : α → Prop} (ho : Opens P t k B) (hu : P.underlying t = some (.struct fs)) (hv : Value.okWide P w r b0 t v) (h : DataW.Trod enc P w base spare held t v d ps) (hs : Sized P t d) :
    ∃ (a : α) (cs : List Value), v = .agg cs.toArray ∧ k.K w a cs ∧ B a := by
  simp only [Value.okWide, hu] at hv
  obtain ⟨cs, rfl, _, _⟩ := hv
  obtain ⟨fuel, hf⟩ := h
  obtain ⟨a, ha, hB⟩ := ho hf hs
  exact ⟨a, cs.toList, rfl, ha, hB⟩
theorem at_array {α : Type} {n : Nat} {e : TypeId} {k : Kd α} {B : α → Prop} (ho : Opens P t k B) (hu : P.underlying t = some (.array n e)) (hv : Value.okWide P w r b0 t v) (h : DataW.Trod enc P w base spare held t v d ps) (hs : Sized P t d) :
    ∃ (a : α) (cs : List Value), v = .agg cs.toArray ∧ k.K w a cs ∧ B a := by
  simp only [Value.okWide, hu] at hv
  obtain ⟨cs, rfl, _, _⟩ := hv
  obtain ⟨fuel, hf⟩ := h
  obtain ⟨a, ha, hB⟩ := ho hf hs
  exact ⟨a, cs.toList, rfl, ha, hB⟩
end

end Go.Proofs.YtdeepnpbibhfiaaW.PrintOpen
