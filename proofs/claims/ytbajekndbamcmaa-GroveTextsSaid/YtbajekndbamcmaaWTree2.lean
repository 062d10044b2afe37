/- Trees of blocks: what is linked anew, what is taken (no program in sight). No condition. -/
import Derived.Test.YtbajekndbamcmaaWTree
namespace Go.Proofs.YtbajekndbamcmaaW.PrintTree
open Go Go.RowKit Go.Proofs.YtbajekndbamcmaaW.PrintWords
set_option linter.unusedVariables false
namespace Tr
variable {K V : Type} {kv : K → Value} {vv : V → Value} {T : TypeId}
theorem relink_l {w w2 : World} {g : Nat} {k : K} {v : V} {d : Int} {l r l' : Tr K V} (h : (node g k v d l r).Lies kv vv T w) (hn : (node g k v d l r).blocks.Nodup) (ho : On (· ∈ l.blocks) w w2) (hl' : l'.Lies kv vv T w2)
    (hs : ∀ q ∈ l'.blocks, q ∈ l.blocks ∨ w.heap.size ≤ q) (hn' : l'.blocks.Nodup) :
    w2.cell? ⟨g, 2, none⟩ = some (.pointer l.at_) ∧ w2.frozen? ⟨g, 2, none⟩ = false ∧ (node g k v d l' r).Lies kv vv T (w2.setCell ⟨g, 2, none⟩ (.pointer l'.at_)) ∧ (node g k v d l' r).blocks.Nodup ∧
    On (· ∈ (node g k v d l r).blocks) w (w2.setCell ⟨g, 2, none⟩ (.pointer l'.at_)) ∧ ∀ q ∈ (node g k v d l' r).blocks, q ∈ (node g k v d l r).blocks ∨ w.heap.size ≤ q := by
  obtain ⟨gl, gr, nl, nr, dis⟩ := parts hn
  have h2 := ho.blk h.1 gl
  have gl' : g ∉ l'.blocks := fun q => (hs g q).elim gl (fun q => absurd (blk_lt h.1) (Nat.not_lt.mpr q))
  have o3 : On (fun q => q = g) w2 (w2.setCell ⟨g, 2, none⟩ (.pointer l'.at_)) := On.set (P := fun q => q = g) (On.refl _ _) (p := ⟨g, 2, none⟩) rfl _
  refine ⟨(blk_cell h2 2).trans rfl, blk_frozen h2 2, ⟨blk_put h2 2 _ rfl, hl'.on o3 (fun q hq e => gl' (e ▸ hq)), (h.2.2.on ho (fun q hq e => dis q e hq)).on o3 (fun q hq e => gr (e ▸ hq))⟩, ?_, ?_, ?_⟩
  · exact of_parts ⟨gl', gr, hn', nr, fun q hq hq2 => (hs q hq).elim (fun e => dis q e hq2) (fun e => absurd (h.2.2.lt q hq2) (Nat.not_lt.mpr e))⟩
  · exact (ho.mono (fun q hq => by simp [blocks, hq])).trans (o3.mono (fun q e => by rw [e]; simp [blocks]))
  · intro q hq
    simp only [blocks, List.mem_cons, List.mem_append] at hq ⊢
    rcases hq with rfl | hq | hq
    · exact .inl (.inl rfl)
    · rcases hs q hq with e | e
      · exact .inl (.inr (.inl e))
      · exact .inr e
    · exact .inl (.inr (.inr hq))
theorem relink_r {w w2 : World} {g : Nat} {k : K} {v : V} {d : Int} {l r r' : Tr K V} (h : (node g k v d l r).Lies kv vv T w) (hn : (node g k v d l r).blocks.Nodup) (ho : On (· ∈ r.blocks) w w2) (hr' : r'.Lies kv vv T w2)
    (hs : ∀ q ∈ r'.blocks, q ∈ r.blocks ∨ w.heap.size ≤ q) (hn' : r'.blocks.Nodup) :
    w2.cell? ⟨g, 3, none⟩ = some (.pointer r.at_) ∧ w2.frozen? ⟨g, 3, none⟩ = false ∧ (node g k v d l r').Lies kv vv T (w2.setCell ⟨g, 3, none⟩ (.pointer r'.at_)) ∧ (node g k v d l r').blocks.Nodup ∧
    On (· ∈ (node g k v d l r).blocks) w (w2.setCell ⟨g, 3, none⟩ (.pointer r'.at_)) ∧ ∀ q ∈ (node g k v d l r').blocks, q ∈ (node g k v d l r).blocks ∨ w.heap.size ≤ q := by
  obtain ⟨gl, gr, nl, nr, dis⟩ := parts hn
  have h2 := ho.blk h.1 gr
  have gr' : g ∉ r'.blocks := fun q => (hs g q).elim gr (fun q => absurd (blk_lt h.1) (Nat.not_lt.mpr q))
  have o3 : On (fun q => q = g) w2 (w2.setCell ⟨g, 3, none⟩ (.pointer r'.at_)) := On.set (P := fun q => q = g) (On.refl _ _) (p := ⟨g, 3, none⟩) rfl _
  refine ⟨(blk_cell h2 3).trans rfl, blk_frozen h2 3, ⟨blk_put h2 3 _ rfl, (h.2.1.on ho (fun q hq e => dis q hq e)).on o3 (fun q hq e => gl (e ▸ hq)), hr'.on o3 (fun q hq e => gr' (e ▸ hq))⟩, ?_, ?_, ?_⟩
  · exact of_parts ⟨gl, gr', nl, hn', fun q hq hq2 => (hs q hq2).elim (fun e => dis q hq e) (fun e => absurd (h.2.1.lt q hq) (Nat.not_lt.mpr e))⟩
  · exact (ho.mono (fun q hq => by simp [blocks, hq])).trans (o3.mono (fun q e => by rw [e]; simp [blocks]))
  · intro q hq
    simp only [blocks, List.mem_cons, List.mem_append] at hq ⊢
    rcases hq with rfl | hq | hq
    · exact .inl (.inl rfl)
    · exact .inl (.inr (.inl hq))
    · rcases hs q hq with e | e
      · exact .inl (.inr (.inr e))
      · exact .inr e
/-- The least node is taken away. -/
def first (g : Nat) (k : K) (v : V) : Tr K V → Tr K V → Tr K V × Nat × K × V
  | nil, r => (r, g, k, v)
  | node g1 k1 v1 _ l1 r1, r => (even g k v (first g1 k1 v1 l1 r1).1 r, (first g1 k1 v1 l1 r1).2)
/-- What is left of a node that goes. -/
def joined : Tr K V → Tr K V → Tr K V
  | nil, r => r
  | l, nil => l
  | l, node g k v _ a b => even (first g k v a b).2.1 (first g k v a b).2.2.1 (first g k v a b).2.2.2 l (first g k v a b).1
/-- A key is taken away; with it its block and its value. -/
def take (cmp : K → K → Int) (x : K) : Tr K V → Tr K V × Option (Nat × V)
  | nil => (nil, none)
  | node g k v d l r =>
    if cmp x k < 0 then (even g k v (take cmp x l).1 r, (take cmp x l).2)
    else if 0 < cmp x k then (even g k v l (take cmp x r).1, (take cmp x r).2)
    else (joined l r, some (g, v))
theorem first_fit {g : Nat} {k : K} {v : V} : ∀ {l r : Tr K V}, l.Fit → r.Fit → (first g k v l r).1.Fit := by
  intro l
  induction l generalizing g k v with
  | nil => intro r _ hr; exact hr
  | node g1 k1 v1 d1 l1 r1 ih _ => intro r hl hr; exact even_fit (ih hl.2.1 hl.2.2) hr
theorem first_blocks {g : Nat} {k : K} {v : V} : ∀ {l r : Tr K V}, (g :: (l.blocks ++ r.blocks)).Perm ((first g k v l r).2.1 :: (first g k v l r).1.blocks) := by
  intro l
  induction l generalizing g k v with
  | nil => intro r; simp [first, blocks]
  | node g1 k1 v1 d1 l1 r1 ih _ =>
    intro r
    simp only [first]
    refine List.Perm.trans ?_ ((List.Perm.cons _ (even_blocks _ _ _ _ _).symm))
    have h := ih (g := g1) (k := k1) (v := v1) (r := r1)
    refine (List.Perm.cons _ (h.append_right r.blocks)).trans ?_
    exact List.Perm.swap _ _ _
theorem first_list {g : Nat} {k : K} {v : V} : ∀ {l r : Tr K V}, l.list ++ (k, v) :: r.list = ((first g k v l r).2.2.1, (first g k v l r).2.2.2) :: (first g k v l r).1.list := by
  intro l
  induction l generalizing g k v with
  | nil => intro r; simp [first, list]
  | node g1 k1 v1 d1 l1 r1 ih _ =>
    intro r
    simp only [first, even_list, list]
    rw [ih (g := g1)]
    simp
theorem joined_fit : ∀ {l r : Tr K V}, l.Fit → r.Fit → (joined l r).Fit
  | nil, r, _, hr => hr
  | node .., nil, hl, _ => hl
  | node .., node .., hl, hr => even_fit hl (first_fit hr.2.1 hr.2.2)
theorem joined_list : ∀ (l r : Tr K V), (joined l r).list = l.list ++ r.list
  | nil, r => by simp [joined, list]
  | node .., nil => by simp [joined, list]
  | node .., node g k v d a b => by
    simp only [joined, even_list]
    rw [← first_list]
    simp [list]
theorem joined_blocks : ∀ (l r : Tr K V), (joined l r).blocks.Perm (l.blocks ++ r.blocks)
  | nil, r => by simp [joined, blocks]
  | node .., nil => by simp [joined, blocks]
  | node g1 k1 v1 d1 a1 b1, node g k v d a b => by
    simp only [joined]
    refine (even_blocks _ _ _ _ _).trans (List.perm_middle.symm.trans ?_)
    exact List.Perm.append_left _ (first_blocks (g := g) (k := k) (v := v) (l := a) (r := b)).symm
theorem take_fit (cmp : K → K → Int) (x : K) : ∀ {t : Tr K V}, t.Fit → (take cmp x t).1.Fit
  | nil, h => h
  | node g k v d l r, h => by
    unfold take
    split
    · exact even_fit (take_fit cmp x h.2.1) h.2.2
    · split
      · exact even_fit h.2.1 (take_fit cmp x h.2.2)
      · exact joined_fit h.2.1 h.2.2
theorem take_blocks (cmp : K → K → Int) (x : K) : ∀ (t : Tr K V), t.blocks.Perm (match (take cmp x t).2 with | none => (take cmp x t).1.blocks | some p => p.1 :: (take cmp x t).1.blocks)
  | nil => by simp [take, blocks]
  | node g k v d l r => by
    by_cases c1 : cmp x k < 0
    · have h := take_blocks cmp x l
      have e : take cmp x (node g k v d l r) = (even g k v (take cmp x l).1 r, (take cmp x l).2) := by rw [take, if_pos c1]
      rw [e]
      dsimp only
      cases hp : (take cmp x l).2 with
      | none => rw [hp] at h; dsimp only at h ⊢; exact (List.Perm.cons _ (h.append_right _)).trans (even_blocks _ _ _ _ _).symm
      | some p => rw [hp] at h; dsimp only at h ⊢; exact (List.Perm.cons _ (h.append_right _)).trans ((List.Perm.swap _ _ _).trans (List.Perm.cons _ (even_blocks _ _ _ _ _).symm))
    · by_cases c2 : 0 < cmp x k
      · have h := take_blocks cmp x r
        have e : take cmp x (node g k v d l r) = (even g k v l (take cmp x r).1, (take cmp x r).2) := by rw [take, if_neg c1, if_pos c2]
        rw [e]
        dsimp only
        cases hp : (take cmp x r).2 with
        | none => rw [hp] at h; dsimp only at h ⊢; exact (List.Perm.cons _ (h.append_left _)).trans (even_blocks _ _ _ _ _).symm
        | some p => rw [hp] at h; dsimp only at h ⊢; exact (List.Perm.cons _ ((h.append_left _).trans List.perm_middle)).trans ((List.Perm.swap _ _ _).trans (List.Perm.cons _ (even_blocks _ _ _ _ _).symm))
      · have e : take cmp x (node g k v d l r) = (joined l r, some (g, v)) := by rw [take, if_neg c1, if_neg c2]
        rw [e]
        exact List.Perm.cons _ (joined_blocks l r).symm
theorem take_sub (cmp : K → K → Int) (x : K) (t : Tr K V) {q : Nat} (h : q ∈ (take cmp x t).1.blocks) : q ∈ t.blocks := by
  refine (take_blocks cmp x t).mem_iff.2 ?_
  cases hp : (take cmp x t).2 with
  | none => exact h
  | some p => exact List.mem_cons_of_mem _ h
theorem take_nodup (cmp : K → K → Int) (x : K) {t : Tr K V} (h : t.blocks.Nodup) : (take cmp x t).1.blocks.Nodup := by
  have := (take_blocks cmp x t).nodup_iff.1 h
  cases hp : (take cmp x t).2 with
  | none => rw [hp] at this; exact this
  | some p => rw [hp] at this; exact (List.nodup_cons.1 this).2
theorem take_gone (cmp : K → K → Int) (x : K) {t : Tr K V} (h : t.blocks.Nodup) {p : Nat × V} (hp : (take cmp x t).2 = some p) : p.1 ∈ t.blocks ∧ p.1 ∉ (take cmp x t).1.blocks := by
  have h1 := take_blocks cmp x t
  rw [hp] at h1
  exact ⟨h1.mem_iff.2 (by simp), (List.nodup_cons.1 (h1.nodup_iff.1 h)).1⟩
theorem take_count (cmp : K → K → Int) (x : K) (t : Tr K V) : (take cmp x t).1.count ≤ t.count := by
  rw [← blocks_len, ← blocks_len, (take_blocks cmp x t).length_eq]
  cases hp : (take cmp x t).2 with
  | none => exact Nat.le_refl _
  | some p => simp
theorem first_sub {g : Nat} {k : K} {v : V} {l r : Tr K V} {q : Nat} (h : q ∈ (first g k v l r).1.blocks) : q = g ∨ q ∈ l.blocks ∨ q ∈ r.blocks := by
  have := (first_blocks (g := g) (k := k) (v := v) (l := l) (r := r)).mem_iff.2 (List.mem_cons_of_mem _ h)
  simpa using this
theorem first_gone {g : Nat} {k : K} {v : V} {l r : Tr K V} (h : (g :: (l.blocks ++ r.blocks)).Nodup) : ((first g k v l r).2.1 = g ∨ (first g k v l r).2.1 ∈ l.blocks ∨ (first g k v l r).2.1 ∈ r.blocks) ∧ (first g k v l r).2.1 ∉ (first g k v l r).1.blocks ∧ (first g k v l r).1.blocks.Nodup := by
  have hb := first_blocks (g := g) (k := k) (v := v) (l := l) (r := r)
  have := hb.mem_iff.2 (List.mem_cons_self)
  have h2 := List.nodup_cons.1 (hb.nodup_iff.1 h)
  exact ⟨by simpa using this, h2.1, h2.2⟩
theorem first_count {g : Nat} {k : K} {v : V} {l r : Tr K V} : (first g k v l r).1.count = l.count + r.count := by
  have := (first_blocks (g := g) (k := k) (v := v) (l := l) (r := r)).length_eq
  simp only [List.length_cons, List.length_append, blocks_len] at this
  omega
theorem walk_mu {σ : Type} (cmp : K → K → Int) (step : σ → K → V → σ × Bool) (x : K) (KV : K → V → Prop) (mu : σ → Nat) (hmu : ∀ s k v, KV k v → mu (step s k v).1 ≤ mu s + 1) : ∀ (t : Tr K V) (s : σ), (∀ p ∈ t.list, KV p.1 p.2) → mu (walk cmp step x t s).1 ≤ mu s + t.count
  | nil, s, _ => by simp [walk]
  | node g k v d l r, s, h => by
    have hl := walk_mu cmp step x KV mu hmu l s (fun p hp => h p (by simp [list, hp]))
    have h2 := hmu (walk cmp step x l s).1 k v (h (k, v) (by simp [list]))
    have hr1 := walk_mu cmp step x KV mu hmu r s (fun p hp => h p (by simp [list, hp]))
    have hr2 := walk_mu cmp step x KV mu hmu r (step (walk cmp step x l s).1 k v).1 (fun p hp => h p (by simp [list, hp]))
    rw [walk]
    simp only [count]
    split
    · omega
    · split
      · split
        · omega
        · show mu (step (walk cmp step x l s).1 k v).1 ≤ _
          omega
      · show mu (walk cmp step x l s).1 ≤ _
        omega
end Tr
end Go.Proofs.YtbajekndbamcmaaW.PrintTree
