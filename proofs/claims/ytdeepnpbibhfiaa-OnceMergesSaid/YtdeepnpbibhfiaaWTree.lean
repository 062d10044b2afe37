/- Trees of blocks that a program keeps even: what they are, what is done to them (no program in sight). No condition. -/
import Derived.Test.YtdeepnpbibhfiaaWMan
import Derived.Test.YtdeepnpbibhfiaaWWords
namespace Go.Proofs.YtdeepnpbibhfiaaW.PrintTree
open Go Go.RowKit Go.Proofs.YtdeepnpbibhfiaaW.PrintWords
set_option linter.unusedVariables false

/-- Of the blocks that stand in w none but those of P is written. -/
structure On (P : Nat → Prop) (w w' : World) : Prop where
  os : w'.os = w.os
  tape : w'.tape = w.tape
  output : w'.output = w.output
  size : w.heap.size ≤ w'.heap.size
  block : ∀ k, k < w.heap.size → ¬ P k → w'.heap[k]? = w.heap[k]?
theorem On.refl (P : Nat → Prop) (w : World) : On P w w := ⟨rfl, rfl, rfl, Nat.le_refl _, fun _ _ _ => rfl⟩
theorem On.of_below {P : Nat → Prop} {w w' : World} (h : Below w.heap.size w w') : On P w w' := ⟨h.os, h.tape, h.output, h.size, fun k hk _ => h.block k hk⟩
theorem On.trans {P : Nat → Prop} {a b c : World} (h : On P a b) (k : On P b c) : On P a c :=
  ⟨k.os.trans h.os, k.tape.trans h.tape, k.output.trans h.output, Nat.le_trans h.size k.size, fun i hi hp => (k.block i (Nat.lt_of_lt_of_le hi h.size) hp).trans (h.block i hi hp)⟩
/-- A second step may write blocks that were not there at the first one's start. -/
theorem On.then {P Q : Nat → Prop} {a b c : World} (h : On P a b) (k : On Q b c) (hq : ∀ i, Q i → P i ∨ a.heap.size ≤ i) : On P a c :=
  ⟨k.os.trans h.os, k.tape.trans h.tape, k.output.trans h.output, Nat.le_trans h.size k.size, fun i hi hp => (k.block i (Nat.lt_of_lt_of_le hi h.size) (fun q => by rcases hq i q with e | e; exact hp e; omega)).trans (h.block i hi hp)⟩
theorem On.mono {P Q : Nat → Prop} {a b : World} (h : On P a b) (hq : ∀ i, P i → Q i) : On Q a b := ⟨h.os, h.tape, h.output, h.size, fun i hi hp => h.block i hi (fun p => hp (hq i p))⟩
theorem On.set {P : Nat → Prop} {w w1 : World} (h : On P w w1) {p : Addr} (hp : P p.block) (u : Value) : On P w (w1.setCell p u) :=
  h.trans ⟨rfl, rfl, rfl, by simp [World.setCell], fun i hi hn => Below.heap_setCell w1 p u i (fun e => hn (e ▸ hp))⟩
theorem On.alloc {P : Nat → Prop} {w w1 : World} (h : On P w w1) (o : Obj) : On P w (w1.alloc o) :=
  h.trans (On.of_below (below_alloc (Below.refl _ _) o))
theorem On.drew {P : Nat → Prop} {w w1 : World} (h : On P w w1) : On P w w1.drew := h.trans ⟨rfl, rfl, rfl, Nat.le_refl _, fun _ _ _ => rfl⟩
theorem On.to_below {P : Nat → Prop} {B : Nat} {w w' : World} (h : On P w w') (hB : B ≤ w.heap.size) (hp : ∀ k, P k → B ≤ k) : Below B w w' :=
  ⟨h.os, h.tape, h.output, h.size, fun k hk => h.block k (Nat.lt_of_lt_of_le hk hB) (fun p => absurd (hp k p) (Nat.not_le.mpr hk))⟩
theorem On.blk {P : Nat → Prop} {w w' : World} {g : Nat} {o : Obj} (h : On P w w') (hg : w.heap[g]? = some o) (hp : ¬ P g) : w'.heap[g]? = some o := (h.block g (blk_lt hg) hp).trans hg

/-- A tree: each node has its block. -/
inductive Tr (K V : Type) where
  | nil : Tr K V
  | node (g : Nat) (k : K) (v : V) (d : Int) (l r : Tr K V) : Tr K V
namespace Tr
variable {K V : Type}
def at_ : Tr K V → Option Addr
  | nil => none
  | node g _ _ _ _ _ => some ⟨g, 0, none⟩
def deep : Tr K V → Int
  | nil => 0
  | node _ _ _ d _ _ => d
def lean : Tr K V → Int
  | nil => 0
  | node _ _ _ _ l r => l.deep - r.deep
def blocks : Tr K V → List Nat
  | nil => []
  | node g _ _ _ l r => g :: (l.blocks ++ r.blocks)
def list : Tr K V → List (K × V)
  | nil => []
  | node _ k v _ l r => l.list ++ (k, v) :: r.list
def count : Tr K V → Nat
  | nil => 0
  | node _ _ _ _ l r => l.count + r.count + 1
/-- Depths are what they are told to be. -/
def Fit : Tr K V → Prop
  | nil => True
  | node _ _ _ d l r => d = 1 + max l.deep r.deep ∧ Fit l ∧ Fit r
/-- The root lies in the world. -/
def Top (kv : K → Value) (vv : V → Value) (T : TypeId) (w : World) : Tr K V → Prop
  | nil => True
  | node g k v d l r => w.heap[g]? = some (.cells #[kv k, vv v, .pointer l.at_, .pointer r.at_, .int .i64 d] T (0, 0))
/-- The whole tree lies in the world. -/
def Lies (kv : K → Value) (vv : V → Value) (T : TypeId) (w : World) : Tr K V → Prop
  | nil => True
  | node g k v d l r => w.heap[g]? = some (.cells #[kv k, vv v, .pointer l.at_, .pointer r.at_, .int .i64 d] T (0, 0)) ∧ Lies kv vv T w l ∧ Lies kv vv T w r
variable {kv : K → Value} {vv : V → Value} {T : TypeId}
theorem Lies.top {w : World} : ∀ {t : Tr K V}, t.Lies kv vv T w → t.Top kv vv T w
  | nil, _ => trivial
  | node .., h => h.1
theorem Lies.lt {w : World} : ∀ {t : Tr K V}, t.Lies kv vv T w → ∀ g ∈ t.blocks, g < w.heap.size
  | nil, _, g, hg => by simp [blocks] at hg
  | node g0 k v d l r, h, g, hg => by
    simp only [blocks, List.mem_cons, List.mem_append] at hg
    rcases hg with rfl | hg | hg
    · exact blk_lt h.1
    · exact h.2.1.lt g hg
    · exact h.2.2.lt g hg
theorem Lies.on {P : Nat → Prop} {w w' : World} (h2 : On P w w') : ∀ {t : Tr K V}, t.Lies kv vv T w → (∀ g ∈ t.blocks, ¬ P g) → t.Lies kv vv T w'
  | nil, _, _ => trivial
  | node g0 k v d l r, h, hp => ⟨h2.blk h.1 (hp _ (by simp [blocks])), h.2.1.on h2 (fun g hg => hp g (by simp [blocks, hg])), h.2.2.on h2 (fun g hg => hp g (by simp [blocks, hg]))⟩
theorem Top.on {P : Nat → Prop} {w w' : World} (h2 : On P w w') {t : Tr K V} (h : t.Top kv vv T w) (hp : ∀ g ∈ t.blocks, ¬ P g) : t.Top kv vv T w' := by
  cases t with
  | nil => trivial
  | node g0 k v d l r => exact h2.blk h (hp _ (by simp [blocks]))
theorem Lies.below {w w' : World} {t : Tr K V} (h : t.Lies kv vv T w) (hb : Below w.heap.size w w') : t.Lies kv vv T w' := h.on (P := fun _ => False) (On.of_below hb) (fun _ _ => id)
theorem Top.below {w w' : World} {t : Tr K V} (h : t.Top kv vv T w) (hb : Below w.heap.size w w') : t.Top kv vv T w' := h.on (P := fun _ => False) (On.of_below hb) (fun _ _ => id)
theorem Fit.bounds : ∀ {t : Tr K V}, t.Fit → 0 ≤ t.deep ∧ t.deep ≤ t.count ∧ (t ≠ nil → 1 ≤ t.deep)
  | nil, _ => by simp [deep, count]
  | node g k v d l r, h => by
    have hl := h.2.1.bounds; have hr := h.2.2.bounds; have := h.1
    simp only [deep, count]
    omega
/-- A node whose depth has been reckoned. -/
def mk (g : Nat) (k : K) (v : V) (l r : Tr K V) : Tr K V := node g k v (1 + max l.deep r.deep) l r
def toRight : Tr K V → Tr K V
  | node g k v _ (node g' k' v' _ a b) c => mk g' k' v' a (mk g k v b c)
  | t => t
def toLeft : Tr K V → Tr K V
  | node g k v _ a (node g' k' v' _ b c) => mk g' k' v' (mk g k v a b) c
  | t => t
/-- A node made even again. -/
def even (g : Nat) (k : K) (v : V) (l r : Tr K V) : Tr K V :=
  if 1 < l.deep - r.deep then (if l.lean < 0 then (mk g k v l.toLeft r).toRight else (mk g k v l r).toRight)
  else if l.deep - r.deep < -1 then (if 0 < r.lean then (mk g k v l r.toRight).toLeft else (mk g k v l r).toLeft)
  else mk g k v l r
/-- A key is put below a node; true: it was there. -/
def put (cmp : K → K → Int) (n : Nat) (x : K) (y : V) : Tr K V → Tr K V × Bool
  | nil => (node n x y 1 nil nil, false)
  | node g k v d l r =>
    if cmp x k < 0 then (even g k v (put cmp n x y l).1 r, (put cmp n x y l).2)
    else if 0 < cmp x k then (even g k v l (put cmp n x y r).1, (put cmp n x y r).2)
    else (node g x y d l r, true)
theorem parts {g : Nat} {k : K} {v : V} {d : Int} {l r : Tr K V} (h : (node g k v d l r).blocks.Nodup) : g ∉ l.blocks ∧ g ∉ r.blocks ∧ l.blocks.Nodup ∧ r.blocks.Nodup ∧ ∀ x ∈ l.blocks, x ∉ r.blocks := by
  simp only [blocks, List.nodup_cons, List.mem_append, not_or, List.nodup_append] at h
  exact ⟨h.1.1, h.1.2, h.2.1, h.2.2.1, fun x hx hy => h.2.2.2 x hx x hy rfl⟩
theorem of_parts {g : Nat} {k : K} {v : V} {d : Int} {l r : Tr K V} (h : g ∉ l.blocks ∧ g ∉ r.blocks ∧ l.blocks.Nodup ∧ r.blocks.Nodup ∧ ∀ x ∈ l.blocks, x ∉ r.blocks) : (node g k v d l r).blocks.Nodup := by
  simp only [blocks, List.nodup_cons, List.mem_append, not_or, List.nodup_append]
  exact ⟨⟨h.1, h.2.1⟩, h.2.2.1, h.2.2.2.1, fun x hx y hy e => h.2.2.2.2 x hx (e ▸ hy)⟩
/-- All from a key on, rising, till one is enough. -/
def walk {σ : Type} (cmp : K → K → Int) (step : σ → K → V → σ × Bool) (x : K) : Tr K V → σ → σ × Bool
  | nil, s => (s, true)
  | node _ k v _ l r, s =>
    if cmp k x < 0 then walk cmp step x r s
    else if (walk cmp step x l s).2 then
      if (step (walk cmp step x l s).1 k v).2 then walk cmp step x r (step (walk cmp step x l s).1 k v).1
      else ((step (walk cmp step x l s).1 k v).1, false)
    else ((walk cmp step x l s).1, false)
theorem mk_fit {g : Nat} {k : K} {v : V} {l r : Tr K V} (hl : l.Fit) (hr : r.Fit) : (mk g k v l r).Fit := ⟨rfl, hl, hr⟩
theorem toRight_fit : ∀ {t : Tr K V}, t.Fit → t.toRight.Fit
  | nil, h => h
  | node g k v d nil c, h => h
  | node g k v d (node g' k' v' d' a b) c, h => mk_fit h.2.1.2.1 (mk_fit h.2.1.2.2 h.2.2)
theorem toLeft_fit : ∀ {t : Tr K V}, t.Fit → t.toLeft.Fit
  | nil, h => h
  | node g k v d c nil, h => h
  | node g k v d a (node g' k' v' d' b c), h => mk_fit (mk_fit h.2.1 h.2.2.2.1) h.2.2.2.2
theorem even_fit {g : Nat} {k : K} {v : V} {l r : Tr K V} (hl : l.Fit) (hr : r.Fit) : (even g k v l r).Fit := by
  unfold even
  split
  · split
    · exact toRight_fit (mk_fit (toLeft_fit hl) hr)
    · exact toRight_fit (mk_fit hl hr)
  · split
    · split
      · exact toLeft_fit (mk_fit hl (toRight_fit hr))
      · exact toLeft_fit (mk_fit hl hr)
    · exact mk_fit hl hr
theorem put_fit (cmp : K → K → Int) (n : Nat) (x : K) (y : V) : ∀ {t : Tr K V}, t.Fit → (put cmp n x y t).1.Fit
  | nil, h => by simp [put, Fit, deep]
  | node g k v d l r, h => by
    unfold put
    split
    · exact even_fit (put_fit cmp n x y h.2.1) h.2.2
    · split
      · exact even_fit h.2.1 (put_fit cmp n x y h.2.2)
      · exact h
theorem toRight_list : ∀ (t : Tr K V), t.toRight.list = t.list
  | nil => rfl
  | node g k v d nil c => rfl
  | node g k v d (node g' k' v' d' a b) c => by simp [toRight, mk, list]
theorem toLeft_list : ∀ (t : Tr K V), t.toLeft.list = t.list
  | nil => rfl
  | node g k v d c nil => rfl
  | node g k v d a (node g' k' v' d' b c) => by simp [toLeft, mk, list]
theorem even_list (g : Nat) (k : K) (v : V) (l r : Tr K V) : (even g k v l r).list = l.list ++ (k, v) :: r.list := by
  unfold even
  split
  · split
    · rw [toRight_list]; simp [mk, list, toLeft_list]
    · rw [toRight_list]; simp [mk, list]
  · split
    · split
      · rw [toLeft_list]; simp [mk, list, toRight_list]
      · rw [toLeft_list]; simp [mk, list]
    · simp [mk, list]
theorem toRight_blocks : ∀ (t : Tr K V), t.toRight.blocks.Perm t.blocks
  | nil => .refl _
  | node g k v d nil c => .refl _
  | node g k v d (node g' k' v' d' a b) c => by
    simp only [toRight, mk, blocks, List.cons_append, List.append_assoc]
    refine (List.Perm.cons _ List.perm_middle).trans (List.Perm.swap _ _ _)
theorem toLeft_blocks : ∀ (t : Tr K V), t.toLeft.blocks.Perm t.blocks
  | nil => .refl _
  | node g k v d c nil => .refl _
  | node g k v d a (node g' k' v' d' b c) => by
    simp only [toLeft, mk, blocks, List.cons_append, List.append_assoc]
    exact (List.Perm.swap _ _ _).trans (List.Perm.cons _ List.perm_middle.symm)
theorem blocks_sub {g : Nat} {k : K} {v : V} {d d' : Int} {l l' r r' : Tr K V} (hl : l'.blocks.Perm l.blocks) (hr : r'.blocks.Perm r.blocks) : (node g k v d' l' r').blocks.Perm (node g k v d l r).blocks :=
  List.Perm.cons _ (hl.append hr)
theorem even_blocks (g : Nat) (k : K) (v : V) (l r : Tr K V) : (even g k v l r).blocks.Perm (g :: (l.blocks ++ r.blocks)) := by
  unfold even
  split
  · split
    · exact (toRight_blocks _).trans (blocks_sub (d := 0) (toLeft_blocks _) (.refl _))
    · exact toRight_blocks _
  · split
    · split
      · exact (toLeft_blocks _).trans (blocks_sub (d := 0) (.refl _) (toRight_blocks _))
      · exact toLeft_blocks _
    · exact .refl _
/-- Where it was: the same blocks; else one more. -/
theorem put_blocks (cmp : K → K → Int) (n : Nat) (x : K) (y : V) : ∀ (t : Tr K V), (put cmp n x y t).1.blocks.Perm (if (put cmp n x y t).2 then t.blocks else n :: t.blocks)
  | nil => by simp [put, blocks]
  | node g k v d l r => by
    unfold put
    split
    · refine (even_blocks _ _ _ _ _).trans ?_
      have h := put_blocks cmp n x y l
      simp only [blocks]
      split
      · rename_i hp; rw [if_pos hp] at h
        exact List.Perm.cons _ (h.append_right _)
      · rename_i hp; rw [if_neg hp] at h
        exact (List.Perm.cons _ (h.append_right _)).trans (List.Perm.swap _ _ _)
    · split
      · refine (even_blocks _ _ _ _ _).trans ?_
        have h := put_blocks cmp n x y r
        simp only [blocks]
        split
        · rename_i hp; rw [if_pos hp] at h
          exact List.Perm.cons _ (h.append_left _)
        · rename_i hp; rw [if_neg hp] at h
          exact (List.Perm.cons _ ((h.append_left _).trans List.perm_middle)).trans (List.Perm.swap _ _ _)
      · simp [blocks]
theorem count_len : ∀ (t : Tr K V), t.count = t.list.length
  | nil => rfl
  | node g k v d l r => by simp [count, list, count_len l, count_len r]; omega
theorem blocks_len : ∀ (t : Tr K V), t.blocks.length = t.count
  | nil => rfl
  | node g k v d l r => by simp [blocks, count, blocks_len l, blocks_len r]
theorem put_mem (cmp : K → K → Int) {n : Nat} (x : K) (y : V) {t : Tr K V} {q : Nat} (h : q ∈ (put cmp n x y t).1.blocks) : q = n ∨ q ∈ t.blocks := by
  have := (put_blocks cmp n x y t).mem_iff.1 h
  split at this
  · exact .inr this
  · exact List.mem_cons.1 this
theorem put_nodup (cmp : K → K → Int) {n : Nat} (x : K) (y : V) {t : Tr K V} (h : t.blocks.Nodup) (hn : n ∉ t.blocks) : (put cmp n x y t).1.blocks.Nodup := by
  refine (put_blocks cmp n x y t).nodup_iff.2 ?_
  split
  · exact h
  · exact List.nodup_cons.2 ⟨hn, h⟩
theorem put_count (cmp : K → K → Int) (n : Nat) (x : K) (y : V) (t : Tr K V) : (put cmp n x y t).1.count ≤ t.count + 1 := by
  rw [← blocks_len, ← blocks_len, (put_blocks cmp n x y t).length_eq]
  split
  · omega
  · simp
end Tr
end Go.Proofs.YtdeepnpbibhfiaaW.PrintTree
