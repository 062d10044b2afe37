/- Trees of blocks: what they hold as a sorted row, and that they stay even (no program in sight). No condition. -/
import Derived.Test.YtbajekndbamcmaaWTree2
namespace Go.Proofs.YtbajekndbamcmaaW.PrintTree
open Go Go.RowKit Go.Proofs.YtbajekndbamcmaaW.PrintWords
set_option linter.unusedVariables false
set_option linter.unusedSimpArgs false
/-- Put into a sorted row; true: it was there. -/
def putL {K V : Type} (cmp : K → K → Int) (x : K) (y : V) : List (K × V) → List (K × V) × Bool
  | [] => ([(x, y)], false)
  | (k, v) :: l => if cmp x k < 0 then ((x, y) :: (k, v) :: l, false) else if 0 < cmp x k then ((k, v) :: (putL cmp x y l).1, (putL cmp x y l).2) else ((x, y) :: l, true)
/-- Taken out of a sorted row. -/
def takeL {K V : Type} (cmp : K → K → Int) (x : K) : List (K × V) → List (K × V) × Option V
  | [] => ([], none)
  | (k, v) :: l => if cmp x k < 0 then ((k, v) :: l, none) else if 0 < cmp x k then ((k, v) :: (takeL cmp x l).1, (takeL cmp x l).2) else (l, some v)
/-- A row is seen till it is enough. -/
def goL {K V σ : Type} (step : σ → K → V → σ × Bool) : List (K × V) → σ → σ × Bool
  | [], s => (s, true)
  | (k, v) :: l, s => if (step s k v).2 then goL step l (step s k v).1 else ((step s k v).1, false)
/-- What is asked of an order, on the keys that may be. -/
structure Ordr {K : Type} (cmp : K → K → Int) (OK : K → Prop) : Prop where
  up : ∀ a b x, OK a → OK b → OK x → cmp a b < 0 → ¬ cmp x b < 0 → 0 < cmp x a
  lo : ∀ a b x, OK a → OK b → OK x → cmp a b < 0 → cmp b x < 0 → cmp a x < 0
  sym : ∀ a x, OK a → OK x → 0 < cmp x a → cmp a x < 0
  eqv : ∀ a x, OK a → OK x → ¬ cmp x a < 0 → ¬ 0 < cmp x a → x = a
def Srt {K V : Type} (cmp : K → K → Int) (l : List (K × V)) : Prop := l.Pairwise (fun a b => cmp a.1 b.1 < 0)
theorem goL_append {K V σ : Type} (step : σ → K → V → σ × Bool) : ∀ (l m : List (K × V)) (s : σ), goL step (l ++ m) s = if (goL step l s).2 then goL step m (goL step l s).1 else ((goL step l s).1, false)
  | [], m, s => by simp [goL]
  | (k, v) :: l, m, s => by
    rw [List.cons_append, goL, goL]
    split
    · exact goL_append step l m _
    · simp
section
variable {K V : Type} {cmp : K → K → Int} {OK : K → Prop}
theorem putL_lo (x : K) (y : V) {k : K} (v : V) (m : List (K × V)) (h : cmp x k < 0) : ∀ (l : List (K × V)), putL cmp x y (l ++ (k, v) :: m) = ((putL cmp x y l).1 ++ (k, v) :: m, (putL cmp x y l).2)
  | [] => by simp [putL, h]
  | (k1, v1) :: l => by
    rw [List.cons_append, putL, putL, putL_lo x y v m h l]
    split
    · rfl
    · split <;> rfl
theorem putL_hi (x : K) (y : V) (m : List (K × V)) : ∀ (l : List (K × V)), (∀ p ∈ l, 0 < cmp x p.1) → putL cmp x y (l ++ m) = (l ++ (putL cmp x y m).1, (putL cmp x y m).2)
  | [], _ => by simp
  | (k1, v1) :: l, h => by
    have h1 : 0 < cmp x k1 := h (k1, v1) (by simp)
    rw [List.cons_append, putL, if_neg (by omega), if_pos h1, putL_hi x y m l (fun p hp => h p (by simp [hp]))]
    rfl
theorem takeL_lo (x : K) {k : K} (v : V) (m : List (K × V)) (h : cmp x k < 0) : ∀ (l : List (K × V)), takeL cmp x (l ++ (k, v) :: m) = ((takeL cmp x l).1 ++ (k, v) :: m, (takeL cmp x l).2)
  | [] => by simp [takeL, h]
  | (k1, v1) :: l => by
    rw [List.cons_append, takeL, takeL, takeL_lo x v m h l]
    split
    · rfl
    · split <;> rfl
theorem takeL_hi (x : K) (m : List (K × V)) : ∀ (l : List (K × V)), (∀ p ∈ l, 0 < cmp x p.1) → takeL cmp x (l ++ m) = (l ++ (takeL cmp x m).1, (takeL cmp x m).2)
  | [], _ => by simp
  | (k1, v1) :: l, h => by
    have h1 : 0 < cmp x k1 := h (k1, v1) (by simp)
    rw [List.cons_append, takeL, if_neg (by omega), if_pos h1, takeL_hi x m l (fun p hp => h p (by simp [hp]))]
    rfl
theorem putL_mem (x : K) (y : V) : ∀ (l : List (K × V)) (p : K × V), p ∈ (putL cmp x y l).1 → p = (x, y) ∨ p ∈ l
  | [], p, h => .inl (by simpa [putL] using h)
  | (k, v) :: l, p, h => by
    rw [putL] at h
    split at h
    · simpa using h
    · split at h
      · rcases List.mem_cons.1 h with h | h
        · exact .inr (by simp [h])
        · rcases putL_mem x y l p h with h | h
          · exact .inl h
          · exact .inr (by simp [h])
      · rcases List.mem_cons.1 h with h | h
        · exact .inl h
        · exact .inr (by simp [h])
theorem takeL_mem (x : K) : ∀ (l : List (K × V)) (p : K × V), p ∈ (takeL cmp x l).1 → p ∈ l
  | [], p, h => h
  | (k, v) :: l, p, h => by
    rw [takeL] at h
    split at h
    · exact h
    · split at h
      · rcases List.mem_cons.1 h with h | h
        · simp [h]
        · exact List.mem_cons_of_mem _ (takeL_mem x l p h)
      · exact List.mem_cons_of_mem _ h
theorem putL_srt (O : Ordr cmp OK) (x : K) (y : V) (hx : OK x) : ∀ (l : List (K × V)), Srt cmp l → (∀ p ∈ l, OK p.1) → Srt cmp (putL cmp x y l).1
  | [], _, _ => by simp [putL, Srt]
  | (k, v) :: l, h, ho => by
    have ok : OK k := ho (k, v) (by simp)
    have hk := List.pairwise_cons.1 h
    have ol : ∀ p ∈ l, OK p.1 := fun p hp => ho p (by simp [hp])
    rw [putL]
    by_cases c1 : cmp x k < 0
    · rw [if_pos c1]
      refine List.pairwise_cons.2 ⟨fun p hp => ?_, h⟩
      rcases List.mem_cons.1 hp with rfl | hp
      · exact c1
      · exact O.lo _ _ _ hx ok (ol p hp) c1 (hk.1 p hp)
    · rw [if_neg c1]
      by_cases c2 : 0 < cmp x k
      · rw [if_pos c2]
        refine List.pairwise_cons.2 ⟨fun p hp => ?_, putL_srt O x y hx l hk.2 ol⟩
        rcases putL_mem x y l p hp with rfl | hp
        · exact O.sym _ _ ok hx c2
        · exact hk.1 p hp
      · rw [if_neg c2]
        obtain rfl := O.eqv _ _ ok hx c1 c2
        exact List.pairwise_cons.2 ⟨fun p hp => hk.1 p hp, hk.2⟩
theorem takeL_sub (x : K) : ∀ (l : List (K × V)), (takeL cmp x l).1.Sublist l
  | [] => .slnil
  | (k, v) :: l => by
    rw [takeL]
    split
    · exact List.Sublist.refl _
    · split
      · exact (takeL_sub x l).cons_cons _
      · exact List.sublist_cons_self _ _
theorem takeL_srt (x : K) {l : List (K × V)} (h : Srt cmp l) : Srt cmp (takeL cmp x l).1 := List.Pairwise.sublist (takeL_sub x l) h
theorem putL_len (x : K) (y : V) : ∀ (l : List (K × V)), (putL cmp x y l).1.length = if (putL cmp x y l).2 then l.length else l.length + 1
  | [] => by simp [putL]
  | (k, v) :: l => by
    rw [putL]
    split
    · simp
    · split
      · have := putL_len x y l
        simp only [List.length_cons, this]
        split <;> rfl
      · simp
theorem takeL_len (x : K) : ∀ (l : List (K × V)), (takeL cmp x l).1.length = if (takeL cmp x l).2.isSome then l.length - 1 else l.length
  | [] => by simp [takeL]
  | (k, v) :: l => by
    rw [takeL]
    split
    · simp
    · split
      · have := takeL_len x l
        simp only [List.length_cons, this]
        split
        · rename_i hs
          have : l ≠ [] := fun e => by rw [e] at hs; simp [takeL] at hs
          have := List.length_pos_iff.2 this
          omega
        · rfl
      · simp
theorem takeL_some (x : K) {l : List (K × V)} (h : (takeL cmp x l).2.isSome = true) : 1 ≤ l.length := by
  cases l with
  | nil => simp [takeL] at h
  | cons a l => simp
end
namespace Tr
variable {K V : Type} {cmp : K → K → Int} {OK : K → Prop}
theorem srt_parts {g : Nat} {k : K} {v : V} {d : Int} {l r : Tr K V} (h : Srt cmp (node g k v d l r).list) : Srt cmp l.list ∧ Srt cmp r.list ∧ (∀ p ∈ l.list, cmp p.1 k < 0) ∧ (∀ p ∈ r.list, cmp k p.1 < 0) := by
  simp only [Srt, list, List.pairwise_append, List.pairwise_cons, List.mem_cons, forall_eq_or_imp] at h
  exact ⟨h.1, h.2.1.2, fun p hp => (h.2.2 p hp).1, fun p hp => h.2.1.1 p hp⟩
theorem put_list (O : Ordr cmp OK) (n : Nat) (x : K) (y : V) (hx : OK x) : ∀ (t : Tr K V), Srt cmp t.list → (∀ p ∈ t.list, OK p.1) → (put cmp n x y t).1.list = (putL cmp x y t.list).1 ∧ (put cmp n x y t).2 = (putL cmp x y t.list).2
  | nil, _, _ => by simp [put, putL, list]
  | node g k v d l r, h, ho => by
    obtain ⟨hl, hr, al, ar⟩ := srt_parts h
    have ol : ∀ p ∈ l.list, OK p.1 := fun p hp => ho p (by simp [list, hp])
    have or' : ∀ p ∈ r.list, OK p.1 := fun p hp => ho p (by simp [list, hp])
    have ok : OK k := ho (k, v) (by simp [list])
    simp only [list]
    rw [put]
    by_cases c1 : cmp x k < 0
    · have ih := put_list O n x y hx l hl ol
      rw [if_pos c1, putL_lo x y v r.list c1, even_list, ih.1, ih.2]
      exact ⟨rfl, rfl⟩
    · rw [putL_hi x y _ l.list (fun p hp => O.up _ _ _ (ol p hp) ok hx (al p hp) c1), if_neg c1, putL, if_neg c1]
      by_cases c2 : 0 < cmp x k
      · have ih := put_list O n x y hx r hr or'
        rw [if_pos c2, if_pos c2, even_list, ih.1, ih.2]
        exact ⟨rfl, rfl⟩
      · rw [if_neg c2, if_neg c2]
        exact ⟨rfl, rfl⟩
theorem take_list (O : Ordr cmp OK) (x : K) (hx : OK x) : ∀ (t : Tr K V), Srt cmp t.list → (∀ p ∈ t.list, OK p.1) → (take cmp x t).1.list = (takeL cmp x t.list).1 ∧ (take cmp x t).2.map (·.2) = (takeL cmp x t.list).2
  | nil, _, _ => by simp [take, takeL, list]
  | node g k v d l r, h, ho => by
    obtain ⟨hl, hr, al, ar⟩ := srt_parts h
    have ol : ∀ p ∈ l.list, OK p.1 := fun p hp => ho p (by simp [list, hp])
    have or' : ∀ p ∈ r.list, OK p.1 := fun p hp => ho p (by simp [list, hp])
    have ok : OK k := ho (k, v) (by simp [list])
    simp only [list]
    rw [take]
    by_cases c1 : cmp x k < 0
    · have ih := take_list O x hx l hl ol
      rw [if_pos c1, takeL_lo x v r.list c1, even_list, ih.1, ih.2]
      exact ⟨rfl, rfl⟩
    · rw [takeL_hi x _ l.list (fun p hp => O.up _ _ _ (ol p hp) ok hx (al p hp) c1), if_neg c1, takeL, if_neg c1]
      by_cases c2 : 0 < cmp x k
      · have ih := take_list O x hx r hr or'
        rw [if_pos c2, if_pos c2, even_list, ih.1, ih.2]
        exact ⟨rfl, rfl⟩
      · rw [if_neg c2, if_neg c2]
        exact ⟨joined_list l r, rfl⟩
theorem walk_list {σ : Type} (O : Ordr cmp OK) (step : σ → K → V → σ × Bool) (x : K) (hx : OK x) : ∀ (t : Tr K V) (s : σ), Srt cmp t.list → (∀ p ∈ t.list, OK p.1) → walk cmp step x t s = goL step (t.list.filter (fun p => !decide (cmp p.1 x < 0))) s
  | nil, s, _, _ => by simp [walk, list, goL]
  | node g k v d l r, s, h, ho => by
    obtain ⟨hl, hr, al, ar⟩ := srt_parts h
    have ol : ∀ p ∈ l.list, OK p.1 := fun p hp => ho p (by simp [list, hp])
    have or' : ∀ p ∈ r.list, OK p.1 := fun p hp => ho p (by simp [list, hp])
    have ok : OK k := ho (k, v) (by simp [list])
    rw [walk]
    simp only [list, List.filter_append, List.filter_cons]
    by_cases c1 : cmp k x < 0
    · have e : l.list.filter (fun p => !decide (cmp p.1 x < 0)) = [] := by
        rw [List.filter_eq_nil_iff]
        intro p hp
        have := O.lo _ _ _ (ol p hp) ok hx (al p hp) c1
        simp [this]
      rw [if_pos c1, walk_list O step x hx r s hr or', e, if_neg (by simp [c1])]
      rfl
    · have e : (!decide (cmp (k, v).1 x < 0)) = true := by simpa using c1
      rw [if_neg c1, if_pos e, goL_append, ← walk_list O step x hx l s hl ol]
      simp only [goL]
      split
      · split
        · exact walk_list O step x hx r _ hr or'
        · rfl
      · rfl
theorem deep_node (g : Nat) (k : K) (v : V) (d : Int) (l r : Tr K V) : (node g k v d l r).deep = d := rfl
theorem deep_nil : (nil : Tr K V).deep = 0 := rfl
/-- Even: of the two below none is deeper by more than one. -/
def Bal : Tr K V → Prop
  | nil => True
  | node _ _ _ _ l r => -1 ≤ l.deep - r.deep ∧ l.deep - r.deep ≤ 1 ∧ Bal l ∧ Bal r
theorem even_bal {g : Nat} {k : K} {v : V} {l r : Tr K V} (fl : l.Fit) (fr : r.Fit) (bl : l.Bal) (br : r.Bal) (h1 : -2 ≤ l.deep - r.deep) (h2 : l.deep - r.deep ≤ 2) :
    (even g k v l r).Bal ∧ max l.deep r.deep ≤ (even g k v l r).deep ∧ (even g k v l r).deep ≤ 1 + max l.deep r.deep ∧ (-1 ≤ l.deep - r.deep → l.deep - r.deep ≤ 1 → (even g k v l r).deep = 1 + max l.deep r.deep) := by
  unfold even
  by_cases c1 : 1 < l.deep - r.deep
  · rw [if_pos c1]
    have hr0 := fr.bounds.1
    cases l with
    | nil => have e0 : (nil : Tr K V).deep = 0 := rfl; omega
    | node g1 k1 v1 d1 a b =>
      obtain ⟨e1, fa, fb⟩ := fl
      obtain ⟨x1, x2, ba, bb⟩ := bl
      have ha0 := fa.bounds.1; have hb0 := fb.bounds.1
      by_cases c2 : (node g1 k1 v1 d1 a b).lean < 0
      · rw [if_pos c2]
        have c2' : a.deep - b.deep < 0 := c2
        clear c2
        cases b with
        | nil => have e0 : (nil : Tr K V).deep = 0 := rfl; omega
        | node g2 k2 v2 d2 b1 b2 =>
          obtain ⟨e2, f1, f2⟩ := fb
          obtain ⟨y1, y2, z1, z2⟩ := bb
          simp only [toLeft, mk, toRight, Bal, deep_node, deep_nil] at *
          refine ⟨⟨?_, ?_, ⟨?_, ?_, ba, z1⟩, ?_, ?_, z2, br⟩, ?_, ?_, ?_⟩ <;> omega
      · rw [if_neg c2]
        have c2' : ¬ a.deep - b.deep < 0 := c2
        clear c2
        simp only [mk, toRight, Bal, deep_node, deep_nil] at *
        refine ⟨⟨?_, ?_, ba, ?_, ?_, bb, br⟩, ?_, ?_, ?_⟩ <;> omega
  · rw [if_neg c1]
    by_cases c3 : l.deep - r.deep < -1
    · rw [if_pos c3]
      have hl0 := fl.bounds.1
      cases r with
      | nil => have e0 : (nil : Tr K V).deep = 0 := rfl; omega
      | node g1 k1 v1 d1 b a =>
        obtain ⟨e1, fb, fa⟩ := fr
        obtain ⟨x1, x2, bb, ba⟩ := br
        have ha0 := fa.bounds.1; have hb0 := fb.bounds.1
        by_cases c2 : 0 < (node g1 k1 v1 d1 b a).lean
        · rw [if_pos c2]
          have c2' : 0 < b.deep - a.deep := c2
          clear c2
          cases b with
          | nil => have e0 : (nil : Tr K V).deep = 0 := rfl; omega
          | node g2 k2 v2 d2 b2 b1 =>
            obtain ⟨e2, f2, f1⟩ := fb
            obtain ⟨y1, y2, z2, z1⟩ := bb
            simp only [toLeft, mk, toRight, Bal, deep_node, deep_nil] at *
            refine ⟨⟨?_, ?_, ⟨?_, ?_, bl, z2⟩, ?_, ?_, z1, ba⟩, ?_, ?_, ?_⟩ <;> omega
        · rw [if_neg c2]
          have c2' : ¬ 0 < b.deep - a.deep := c2
          clear c2
          simp only [mk, toLeft, Bal, deep_node, deep_nil] at *
          refine ⟨⟨?_, ?_, ⟨?_, ?_, bl, bb⟩, ba⟩, ?_, ?_, ?_⟩ <;> omega
    · rw [if_neg c3]
      simp only [mk, Bal, deep_node, deep_nil]
      refine ⟨⟨by omega, by omega, bl, br⟩, by omega, by omega, fun _ _ => trivial⟩
theorem put_bal (n : Nat) (x : K) (y : V) : ∀ (t : Tr K V), t.Fit → t.Bal → (put cmp n x y t).1.Bal ∧ t.deep ≤ (put cmp n x y t).1.deep ∧ (put cmp n x y t).1.deep ≤ t.deep + 1
  | nil, _, _ => by simp [put, Bal, deep_node, deep_nil]
  | node g k v d l r, hf, hb => by
    obtain ⟨e, fl, fr⟩ := hf
    obtain ⟨b1, b2, bl, br⟩ := hb
    rw [put]
    split
    · have ih := put_bal n x y l fl bl
      have E := even_bal (g := g) (k := k) (v := v) (put_fit cmp n x y fl) fr ih.1 br (by omega) (by omega)
      refine ⟨E.1, ?_, ?_⟩ <;> (simp only [deep_node, deep_nil]; have := E.2; omega)
    · split
      · have ih := put_bal n x y r fr br
        have E := even_bal (g := g) (k := k) (v := v) fl (put_fit cmp n x y fr) bl ih.1 (by omega) (by omega)
        refine ⟨E.1, ?_, ?_⟩ <;> (simp only [deep_node, deep_nil]; have := E.2; omega)
      · exact ⟨⟨b1, b2, bl, br⟩, by rw [deep_node, deep_node]; omega, by rw [deep_node, deep_node]; omega⟩
theorem first_bal {g : Nat} {k : K} {v : V} : ∀ {l r : Tr K V}, l.Fit → r.Fit → l.Bal → r.Bal → -1 ≤ l.deep - r.deep → l.deep - r.deep ≤ 1 → (first g k v l r).1.Bal ∧ max l.deep r.deep ≤ (first g k v l r).1.deep ∧ (first g k v l r).1.deep ≤ 1 + max l.deep r.deep := by
  intro l
  induction l generalizing g k v with
  | nil =>
    intro r fl fr bl br h1 h2
    have := fr.bounds.1
    simp only [first, deep_node, deep_nil] at *
    exact ⟨br, by omega, by omega⟩
  | node g1 k1 v1 d1 l1 r1 ih _ =>
    intro r fl fr bl br h1 h2
    obtain ⟨e, fl1, fr1⟩ := fl
    obtain ⟨x1, x2, bl1, br1⟩ := bl
    have I := ih (g := g1) (k := k1) (v := v1) fl1 fr1 bl1 br1 x1 x2
    simp only [first, deep_node, deep_nil] at *
    have E := even_bal (g := g) (k := k) (v := v) (first_fit (g := g1) (k := k1) (v := v1) fl1 fr1) fr I.1 br (by omega) (by omega)
    refine ⟨E.1, ?_, ?_⟩ <;> (have := E.2; omega)
theorem joined_bal : ∀ {l r : Tr K V}, l.Fit → r.Fit → l.Bal → r.Bal → -1 ≤ l.deep - r.deep → l.deep - r.deep ≤ 1 → (joined l r).Bal ∧ max l.deep r.deep ≤ (joined l r).deep ∧ (joined l r).deep ≤ 1 + max l.deep r.deep
  | nil, r, fl, fr, bl, br, h1, h2 => by
    have := fr.bounds.1
    simp only [joined, deep_node, deep_nil] at *
    exact ⟨br, by omega, by omega⟩
  | node g1 k1 v1 d1 l1 r1, nil, fl, fr, bl, br, h1, h2 => by
    have := fl.bounds.1
    simp only [joined]
    have e : (nil : Tr K V).deep = 0 := rfl
    exact ⟨bl, by omega, by omega⟩
  | node g1 k1 v1 d1 l1 r1, node g k v d a b, fl, fr, bl, br, h1, h2 => by
    obtain ⟨x1, x2, ba, bb⟩ := br
    have I := first_bal (g := g) (k := k) (v := v) fr.2.1 fr.2.2 ba bb x1 x2
    have ed : (node g k v d a b).deep = 1 + max a.deep b.deep := fr.1
    simp only [joined]
    have E := even_bal (g := (first g k v a b).2.1) (k := (first g k v a b).2.2.1) (v := (first g k v a b).2.2.2) fl (first_fit (g := g) (k := k) (v := v) fr.2.1 fr.2.2) bl I.1 (by omega) (by omega)
    refine ⟨E.1, ?_, ?_⟩ <;> (have := E.2; omega)
theorem take_bal (x : K) : ∀ (t : Tr K V), t.Fit → t.Bal → (take cmp x t).1.Bal ∧ t.deep - 1 ≤ (take cmp x t).1.deep ∧ (take cmp x t).1.deep ≤ t.deep
  | nil, _, _ => by simp [take, Bal, deep_nil]
  | node g k v d l r, hf, hb => by
    obtain ⟨e, fl, fr⟩ := hf
    obtain ⟨b1, b2, bl, br⟩ := hb
    rw [take]
    split
    · have ih := take_bal x l fl bl
      have E := even_bal (g := g) (k := k) (v := v) (take_fit cmp x fl) fr ih.1 br (by omega) (by omega)
      refine ⟨E.1, ?_, ?_⟩ <;> (simp only [deep_node, deep_nil]; have := E.2; omega)
    · split
      · have ih := take_bal x r fr br
        have E := even_bal (g := g) (k := k) (v := v) fl (take_fit cmp x fr) bl ih.1 (by omega) (by omega)
        refine ⟨E.1, ?_, ?_⟩ <;> (simp only [deep_node, deep_nil]; have := E.2; omega)
      · have E := joined_bal fl fr bl br b1 b2
        refine ⟨E.1, ?_, ?_⟩ <;> (simp only [deep_node, deep_nil]; have := E.2; omega)
theorem bal_depth : ∀ (t : Tr K V), t.Fit → t.Bal → 2 ^ (t.deep.toNat / 2) ≤ t.count + 1
  | nil, _, _ => by simp [deep_nil, count]
  | node g k v d l r, hf, hb => by
    obtain ⟨e, fl, fr⟩ := hf
    obtain ⟨b1, b2, bl, br⟩ := hb
    have hl := bal_depth l fl bl
    have hr := bal_depth r fr br
    have l0 := fl.bounds.1; have r0 := fr.bounds.1
    simp only [deep_node, count]
    by_cases hd : d.toNat < 2
    · rw [show d.toNat / 2 = 0 by omega]; omega
    · obtain ⟨q, hq⟩ : ∃ q, d.toNat / 2 = q + 1 := ⟨d.toNat / 2 - 1, by omega⟩
      have m1 : 2 ^ q ≤ 2 ^ (l.deep.toNat / 2) := Nat.pow_le_pow_right (by omega) (by omega)
      have m2 : 2 ^ q ≤ 2 ^ (r.deep.toNat / 2) := Nat.pow_le_pow_right (by omega) (by omega)
      rw [hq, Nat.pow_succ]
      omega
/-- How deep it is at most. -/
theorem bal_bound {t : Tr K V} (hf : t.Fit) (hb : t.Bal) {L : Nat} (hL : t.count < 2 ^ L) : t.deep ≤ 2 + 4 * (L : Int) := by
  have h := bal_depth t hf hb
  have h0 := hf.bounds.1
  have : t.deep.toNat / 2 ≤ L := by
    apply Classical.byContradiction
    intro hc
    have : 2 ^ (L + 1) ≤ 2 ^ (t.deep.toNat / 2) := Nat.pow_le_pow_right (by omega) (by omega)
    rw [Nat.pow_succ] at this
    omega
  omega
end Tr
end Go.Proofs.YtbajekndbamcmaaW.PrintTree
