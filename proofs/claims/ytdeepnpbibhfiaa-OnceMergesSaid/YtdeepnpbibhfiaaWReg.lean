/- A drawn region by an invariant: one step for each operation, in whatever order they come. No condition. -/
import Derived.OrdersHeld
import Derived.Deep.RegionHeld3
namespace Go.Proofs.YtdeepnpbibhfiaaW.PrintReg
open Go
section
variable {P : Program} {ops : Array Oper} {Q : Exit → Act → World → Prop} {md : Region.Mode}
def cnt (listed : Array Bool) : Nat := listed.toList.countP (fun b => !b)
theorem cnt_set (l : List Bool) : ∀ (i : Nat), l.getD i true = false → ((l.set i true).countP (fun b => !b)) + 1 = l.countP (fun b => !b) := by
  induction l with
  | nil => intro i h; simp at h
  | cons b l ih =>
    intro i h
    cases i with
    | zero => simp at h; subst h; simp
    | succ i =>
      have h' : l.getD i true = false := by simpa using h
      have := ih i h'
      simp only [List.set_cons_succ, List.countP_cons]
      omega
theorem getD_list (a : Array Bool) (i : Nat) (d : Bool) : a.toList.getD i d = a.getD i d := by
  rw [List.getD_eq_getElem?_getD, Array.getD_eq_getD_getElem?, Array.getElem?_toList]
theorem mem_of_ready {listed : Array Bool} {i : Nat} (h : i ∈ Region.ready md ops listed) : i < ops.size ∧ listed.getD i true = false ∧ ∃ o, ops[i]? = some o ∧ ∀ e ∈ o.after, Region.binds md e = true → listed.getD e.on false = true := by
  simp only [Region.ready, List.mem_filter, List.mem_range, Bool.and_eq_true, Bool.not_eq_true'] at h
  refine ⟨h.1, h.2.1, ?_⟩
  have h2 := h.2.2
  cases ho : ops[i]? with
  | none => rw [ho] at h2; simp at h2
  | some o =>
    rw [ho] at h2
    simp only [Option.map_some, Option.getD_some, Array.all_eq_true_iff_forall_mem, Bool.or_eq_true, Bool.not_eq_true'] at h2
    refine ⟨o, rfl, fun e he hb => ?_⟩
    rcases h2 e he with h3 | h3
    · rw [h3] at hb; cases hb
    · exact h3
theorem mem_ready_of {listed : Array Bool} {i : Nat} {o : Oper} (hi : i < ops.size) (hl : listed.getD i true = false) (ho : ops[i]? = some o) (h : ∀ e ∈ o.after, Region.binds md e = true → listed.getD e.on false = true) : i ∈ Region.ready md ops listed := by
  simp only [Region.ready, List.mem_filter, List.mem_range, Bool.and_eq_true, Bool.not_eq_true']
  refine ⟨hi, hl, ?_⟩
  rw [ho]
  simp only [Option.map_some, Option.getD_some, Array.all_eq_true_iff_forall_mem, Bool.or_eq_true, Bool.not_eq_true']
  intro e he
  cases hb : Region.binds md e
  · exact .inl rfl
  · exact .inr (h e he hb)
/-- The edges lead back. -/
def backB (ops : Array Oper) : Bool := (List.range ops.size).all fun i => match ops[i]? with | some o => o.after.all fun e => !Region.binds .any e || decide (e.on < i) | none => true
theorem all_listed (hb : backB ops = true) {listed : Array Bool} (hz : listed.size = ops.size) (h : Region.ready .any ops listed = []) : ∀ i, i < ops.size → listed.getD i true = true := by
  intro i
  induction i using Nat.strongRecOn with
  | _ i ih =>
    intro hi
    cases hl : listed.getD i true with
    | true => rfl
    | false =>
      exfalso
      have ho : ops[i]? = some ops[i] := Array.getElem?_eq_getElem hi
      have : i ∈ Region.ready .any ops listed := mem_ready_of hi hl ho (fun e he hb' => by
        simp only [backB, List.all_eq_true, List.mem_range] at hb
        have h1 := hb i hi
        rw [ho] at h1
        simp only [Array.all_eq_true_iff_forall_mem, Bool.or_eq_true, Bool.not_eq_true', decide_eq_true_eq] at h1
        have h2 : e.on < i := (h1 e he).resolve_left (by rw [hb']; simp)
        have h3 := ih e.on h2 (by omega)
        have h4 : e.on < listed.size := by omega
        simpa [Array.getD, h4] using h3)
      rw [h] at this
      cases this
/-- What has come up, as a function. -/
def upd (L : Nat → Bool) (i : Nat) : Nat → Bool := fun j => j == i || L j
theorem upd_self (L : Nat → Bool) (i : Nat) : upd L i i = true := by simp [upd]
theorem upd_ne (L : Nat → Bool) {i j : Nat} (h : j ≠ i) : upd L i j = L j := by simp [upd, h]
theorem upd_old {L : Nat → Bool} {i j : Nat} (h : L j = true) : upd L i j = true := by simp [upd, h]
theorem wpAny_inv (I : (Nat → Bool) → Act → World → Prop) (hb : backB ops = true)
    (hs : ∀ L a w i o, i < ops.size → ops[i]? = some o → I L a w → L i = false → (∀ e ∈ o.after, Region.binds .any e = true → L e.on = true) → wpOp P ops Q i (fun a' w' => I (upd L i) a' w') a w)
    (hd : ∀ L a w, (∀ i, i < ops.size → L i = true) → I L a w → Q .normal a w) :
    ∀ (fuel : Nat) (listed : Array Bool) (a : Act) (w : World), listed.size = ops.size → cnt listed ≤ fuel → I (fun i => listed.getD i true) a w → wpAny P .any ops Q fuel listed a w := by
  have hdone : ∀ (listed : Array Bool) (a : Act) (w : World), listed.size = ops.size → Region.ready .any ops listed = [] → I (fun i => listed.getD i true) a w → Q .normal a w :=
    fun listed a w hz h hI => hd _ a w (all_listed hb hz h) hI
  intro fuel
  induction fuel with
  | zero =>
    intro listed a w hz hc hI
    have hr : Region.ready .any ops listed = [] := by
      cases h : Region.ready .any ops listed with
      | nil => rfl
      | cons i l =>
        have := (mem_of_ready (md := .any) (ops := ops) (listed := listed) (i := i) (by rw [h]; simp)).2.1
        rw [← getD_list] at this
        have := cnt_set _ _ this
        unfold cnt at hc
        omega
    exact ⟨hr, hdone listed a w hz hr hI⟩
  | succ fuel ih =>
    intro listed a w hz hc hI
    refine ⟨fun hr => hdone listed a w hz hr hI, fun i hi => ?_⟩
    obtain ⟨h1, h2, o, h3, h4⟩ := mem_of_ready hi
    have h5 : ∀ e ∈ o.after, Region.binds .any e = true → (fun i => listed.getD i true) e.on = true := fun e he hb' => by
      have := h4 e he hb'
      show listed.getD e.on true = true
      by_cases hl : e.on < listed.size
      · simpa [Array.getD, hl] using this
      · simp [Array.getD, hl]
    refine wpOp_mono (fun a' w' hI' => ih (listed.setIfInBounds i true) a' w' (by simpa using hz) ?_ ?_) (hs _ a w i o h1 h3 hI h2 h5)
    · have h6 : listed.toList.getD i true = false := by rw [getD_list]; exact h2
      have := cnt_set _ _ h6
      unfold cnt at hc ⊢
      rw [Array.toList_setIfInBounds]
      omega
    · have : upd (fun i => listed.getD i true) i = fun j => (listed.setIfInBounds i true).getD j true := by
        funext j
        by_cases hji : j = i
        · subst hji
          simp only [upd, beq_self_eq_true, Bool.true_or, Array.getD_eq_getD_getElem?, Array.getElem?_setIfInBounds_self]
          split <;> simp
        · have hji' : (j == i) = false := by simpa using hji
          simp only [upd, hji', Bool.false_or, Array.getD_eq_getD_getElem?, Array.getElem?_setIfInBounds_ne (Ne.symm hji)]
      rw [this] at hI'
      exact hI'
/-- A drawn region by an invariant I of what has come up. -/
theorem wp_region_inv {id : Nat} {a : Act} {w : World} (hm : P.follows .mixedOrders = true) (hb : backB ops = true) (I : (Nat → Bool) → Act → World → Prop)
    (h0 : I (fun i => decide (ops.size ≤ i)) a w.drew)
    (hs : ∀ L a w i o, i < ops.size → ops[i]? = some o → I L a w → L i = false → (∀ e ∈ o.after, Region.binds .any e = true → L e.on = true) → wpOp P ops Q i (fun a' w' => I (upd L i) a' w') a w)
    (hd : ∀ L a w, (∀ i, i < ops.size → L i = true) → I L a w → Q .normal a w) : (Code.region id ops true).wp P Q a w :=
  wp_region_any hm (wpAny_inv I hb hs hd _ _ _ _ (by simp) (by
    unfold cnt; refine Nat.le_trans List.countP_le_length ?_; simp) (by
    have : (fun i => (Array.replicate ops.size false).getD i true) = fun i => decide (ops.size ≤ i) := by
      funext i
      by_cases h : i < ops.size
      · simp [Array.getD, h]
      · simp [Array.getD, h]; omega
    rw [this]; exact h0))
/-- One step, the operation written out; what comes behind it is a letter. -/
theorem step_of {i : Nat} {o : Oper} {a : Act} {w : World} {K : Act → World → Prop} (ho : ops[i]? = some o)
    (h : ∀ K' : Act → World → Prop, Shut (∀ a w, K a w → K' a w) → if Region.wanted o (yielded ops a.tmps) = true then Oper.wp P o a w K' Q else K' (a.put o.dst undef) w) : wpOp P ops Q i K a w :=
  wpOp_step ho h
/-- One slot's letter set anew. -/
def put1 (u : Nat → Value) (s : Nat) (v : Value) : Nat → Value := fun t => if t = s then v else u t
/-- What the slots hold of those that have come up: (operation, slot, value). -/
structure Tab (LL : Nat → Bool) (u : Nat → Value) (l : List (Nat × Nat × Value)) : Prop where
  of : ∀ k s v, (k, s, v) ∈ l → LL k = true → u s = v
theorem Tab.start {LL : Nat → Bool} {u : Nat → Value} {l : List (Nat × Nat × Value)} (n : Nat) (hL : LL = fun i => decide (n ≤ i)) (h : (l.all fun e => Nat.blt e.1 n) = true) : Tab LL u l := ⟨fun k s v hm hk => by
  subst hL
  rw [List.all_eq_true] at h
  have := h _ hm
  simp only [Nat.blt_eq] at this
  simp only [decide_eq_true_eq] at hk
  omega⟩
theorem Tab.at {LL : Nat → Bool} {u : Nat → Value} {l : List (Nat × Nat × Value)} (h : Tab LL u l) (j : Nat) {k s : Nat} {v : Value} (hj : l[j]? = some (k, s, v)) (hk : LL k = true) : u s = v := h.of k s v (List.mem_of_getElem? hj) hk
theorem Tab.same {LL : Nat → Bool} {u : Nat → Value} {l : List (Nat × Nat × Value)} (h : Tab LL u l) {s : Nat} {v : Value} (e : u s = v) : Tab LL (put1 u s v) l := by
  have : put1 u s v = u := by
    funext t; unfold put1; split
    · rename_i ht; rw [ht]; exact e.symm
    · rfl
  rw [this]; exact h
/-- Operation k, at place j, has come up (what the table says of it may have been told anew). -/
theorem Tab.upd {LL : Nat → Bool} {u : Nat → Value} {l' l : List (Nat × Nat × Value)} (h : Tab LL u l') (j : Nat) {k s : Nat} {v : Value} (hj : l[j]? = some (k, s, v)) (hc : ((l.take j).all (fun e => !(e.1 == k) && !(e.2.1 == s)) && (l.drop (j + 1)).all (fun e => !(e.1 == k) && !(e.2.1 == s))) = true)
    (h1 : l'.take j = l.take j) (h2 : l'.drop (j + 1) = l.drop (j + 1)) : Tab (PrintReg.upd LL k) (put1 u s v) l := ⟨fun k' s' v' hm hk => by
  obtain ⟨i, hi⟩ := List.getElem?_of_mem hm
  rw [Bool.and_eq_true, List.all_eq_true, List.all_eq_true] at hc
  by_cases hij : i = j
  · subst hij
    rw [hj] at hi
    obtain ⟨rfl, rfl, rfl⟩ := by simpa using hi
    simp [put1]
  · have hne : (k' ≠ k ∧ s' ≠ s) ∧ (k', s', v') ∈ l' := by
      have : (k', s', v') ∈ l.take j ∨ (k', s', v') ∈ l.drop (j + 1) := by
        rcases Nat.lt_or_gt_of_ne hij with h1 | h1
        · exact .inl (List.mem_of_getElem? (i := i) (by rw [List.getElem?_take, if_pos h1]; exact hi))
        · exact .inr (List.mem_of_getElem? (i := i - (j + 1)) (by rw [List.getElem?_drop, Nat.add_sub_cancel' h1]; exact hi))
      rcases this with h3 | h3
      · have := hc.1 _ h3; rw [← h1] at h3; exact ⟨by simpa using this, List.mem_of_mem_take h3⟩
      · have := hc.2 _ h3; rw [← h2] at h3; exact ⟨by simpa using this, List.mem_of_mem_drop h3⟩
    unfold PrintReg.upd at hk
    unfold put1
    rw [if_neg hne.1.2]
    refine h.of k' s' v' hne.2 ?_
    simpa [hne.1.1] using hk⟩
/-- An operation without a value has come up. -/
theorem Tab.none {LL : Nat → Bool} {u : Nat → Value} {l : List (Nat × Nat × Value)} (h : Tab LL u l) (k : Nat) (hc : l.all (fun e => !(e.1 == k)) = true) : Tab (PrintReg.upd LL k) u l := ⟨fun k' s' v' hm hk => by
  rw [List.all_eq_true] at hc
  have := hc _ hm
  have hne : k' ≠ k := by simpa using this
  unfold PrintReg.upd at hk
  exact h.of k' s' v' hm (by simpa [hne] using hk)⟩
theorem unwanted {c : Bool} {A B : Prop} (hc : c = false) (h : B) : if c = true then A else B := by subst hc; simpa using h
/-- What is to be shown of one operation. -/
def Step (P : Program) (ops : Array Oper) (Q : Exit → Act → World → Prop) (I : (Nat → Bool) → Act → World → Prop) (k : Nat) (o : Oper) : Prop :=
  ∀ L a w, I L a w → L k = false → (∀ j, (o.after.toList.any fun e => e.on == j && Region.binds .any e) = true → L j = true) →
    ∀ K' : Act → World → Prop, Shut (∀ a w, I (upd L k) a w → K' a w) → if Region.wanted o (yielded ops a.tmps) = true then Oper.wp P o a w K' Q else K' (a.put o.dst undef) w
def Steps (P : Program) (ops : Array Oper) (Q : Exit → Act → World → Prop) (I : (Nat → Bool) → Act → World → Prop) (k : Nat) (l : List Oper) : Prop :=
  ∀ j o, l[j]? = some o → Step P ops Q I (k + j) o
theorem Steps.nil {I : (Nat → Bool) → Act → World → Prop} {k : Nat} : Steps P ops Q I k [] := fun j o h => by simp at h
theorem Steps.cons {I : (Nat → Bool) → Act → World → Prop} {k : Nat} {o : Oper} {l : List Oper} (h : Step P ops Q I k o) (t : Steps P ops Q I (k + 1) l) : Steps P ops Q I k (o :: l) := fun j o' hj => by
  cases j with
  | zero =>
    obtain rfl : o = o' := by simpa using hj
    exact h
  | succ j =>
    have := t j o' (by simpa using hj)
    rw [Nat.add_right_comm] at this
    exact this
/-- A drawn region, written out, by an invariant. -/
theorem wp_region_steps {l : List Oper} {id : Nat} {a : Act} {w : World} (n : Nat) (hn : l.length = n) (hm : P.follows .mixedOrders = true) (hb : backB l.toArray = true) (I : (Nat → Bool) → Act → World → Prop)
    (h0 : I (fun i => decide (n ≤ i)) a w.drew) (hs : Steps P l.toArray Q I 0 l) (hd : ∀ L a w, (∀ i, i < n → L i = true) → I L a w → Q .normal a w) : (Code.region id l.toArray true).wp P Q a w := by
  subst hn
  refine wp_region_inv hm hb I (by simpa using h0) (fun L a w i o hi ho hI hL hdep => ?_) (fun L a w hall => hd L a w (by simpa using hall))
  have ho' : l[i]? = some o := by simpa using ho
  have := hs i o ho' L a w hI (by simpa using hL) (fun j hj => by
    rw [List.any_eq_true] at hj
    obtain ⟨e, he, h2⟩ := hj
    rw [Bool.and_eq_true, beq_iff_eq] at h2
    rw [← h2.1]
    exact hdep e (by simpa using he) h2.2)
  rw [Nat.zero_add] at this
  exact step_of ho this
end
end Go.Proofs.YtdeepnpbibhfiaaW.PrintReg
