/- The table of last answers: rising rows of replies (no program in sight), and what lies in memory. No condition. -/
import Derived.Test.YtdeepnpbibhfiaaWOnce2
namespace Go.Proofs.YtdeepnpbibhfiaaW.PrintOnce
open Go Go.RowKit Go.Maps Go.Proofs.YtdeepnpbibhfiaaW.PrintWords Go.Proofs.YtdeepnpbibhfiaaW.PrintLast Go.Proofs.YtdeepnpbibhfiaaW.PrintMore Go.Proofs.YtdeepnpbibhfiaaW.PrintReg Go.Proofs.YtdeepnpbibhfiaaW.PrintTree
set_option linter.unusedVariables false
set_option linter.unusedSimpArgs false
/-! ### rising rows of replies -/
def lkT (T : List S33) (c : Int) : Option S33 := T.find? (fun x => decide (x.f0 = c))
/-- A client's last number. -/
def seqT (T : List S33) (c : Int) : Int := match lkT T c with | some x => x.f1 | none => -1
def insT (x : S33) : List S33 → List S33
  | [] => [x]
  | y :: r => if x.f0 < y.f0 then x :: y :: r else y :: insT x r
def putT (x : S33) (T : List S33) : List S33 := insT x (T.filter (fun y => !decide (y.f0 = x.f0)))
def noteT (T : List S33) (x : S33) : List S33 := if seqT T x.f0 < x.f1 then putT x T else T
def RisT (T : List S33) : Prop := T.Pairwise (fun p q => p.f0 < q.f0)
theorem insT_mem {x y : S33} : ∀ {T : List S33}, y ∈ insT x T ↔ y = x ∨ y ∈ T
  | [] => by simp [insT]
  | z :: r => by
    unfold insT
    split
    · simp
    · simp only [List.mem_cons, insT_mem (T := r)]
      constructor
      · rintro (h | h | h)
        · exact .inr (.inl h)
        · exact .inl h
        · exact .inr (.inr h)
      · rintro (h | h | h)
        · exact .inr (.inl h)
        · exact .inl h
        · exact .inr (.inr h)
theorem insT_ris {x : S33} : ∀ {T : List S33}, RisT T → (∀ y ∈ T, y.f0 ≠ x.f0) → RisT (insT x T)
  | [], _, _ => by simp [insT, RisT]
  | z :: r, h, hn => by
    have h' := List.pairwise_cons.1 h
    unfold insT
    split
    · rename_i hlt
      exact List.pairwise_cons.2 ⟨fun y hy => by rcases List.mem_cons.1 hy with rfl | hy; exact hlt; have := h'.1 y hy; omega, h⟩
    · rename_i hlt
      have hz := hn z (by simp)
      refine List.pairwise_cons.2 ⟨fun y hy => ?_, insT_ris h'.2 (fun y hy => hn y (by simp [hy]))⟩
      rcases insT_mem.1 hy with rfl | hy
      · omega
      · exact h'.1 y hy
theorem putT_ris {x : S33} {T : List S33} (h : RisT T) : RisT (putT x T) :=
  insT_ris (h.sublist List.filter_sublist) (fun y hy => by have := (List.mem_filter.1 hy).2; simpa using this)
theorem noteT_ris {x : S33} {T : List S33} (h : RisT T) : RisT (noteT T x) := by
  unfold noteT
  split
  · exact putT_ris h
  · exact h
theorem insT_len (x : S33) : ∀ T, (insT x T).length = T.length + 1
  | [] => rfl
  | y :: r => by unfold insT; split; simp; simp [insT_len x r]
theorem putT_len (x : S33) (T : List S33) : (putT x T).length ≤ T.length + 1 := by
  unfold putT
  rw [insT_len]
  have := List.length_filter_le (fun y : S33 => !decide (y.f0 = x.f0)) T
  omega
theorem noteT_len (x : S33) (T : List S33) : (noteT T x).length ≤ T.length + 1 := by
  unfold noteT
  split
  · exact putT_len x T
  · omega
theorem lkT_ins {x : S33} (c : Int) : ∀ {T : List S33}, (∀ y ∈ T, y.f0 ≠ x.f0) → lkT (insT x T) c = if x.f0 = c then some x else lkT T c
  | [], _ => by
    unfold insT lkT
    rw [List.find?_cons]
    by_cases h : x.f0 = c
    · rw [decide_eq_true h, if_pos h]
    · rw [decide_eq_false h, if_neg h]
  | y :: r, hn => by
    have hy := hn y (by simp)
    unfold insT
    split
    · unfold lkT
      rw [List.find?_cons]
      by_cases h : x.f0 = c
      · rw [decide_eq_true h, if_pos h]
      · rw [decide_eq_false h, if_neg h]
    · have ih := lkT_ins c (T := r) (fun z hz => hn z (by simp [hz]))
      unfold lkT at ih ⊢
      rw [List.find?_cons, List.find?_cons]
      by_cases h : y.f0 = c
      · rw [decide_eq_true h]
        simp only []
        rw [if_neg (by omega)]
      · rw [decide_eq_false h]
        simp only []
        exact ih
theorem lkT_filt {c d : Int} : ∀ {T : List S33}, lkT (T.filter (fun y => !decide (y.f0 = c))) d = if c = d then none else lkT T d
  | [] => by unfold lkT; simp
  | y :: r => by
    have ih := lkT_filt (c := c) (d := d) (T := r)
    unfold lkT at ih ⊢
    rw [List.filter_cons]
    by_cases h : y.f0 = c
    · rw [decide_eq_true h, if_neg (by simp), ih, List.find?_cons]
      by_cases hd : c = d
      · rw [if_pos hd, if_pos hd]
      · rw [if_neg hd, if_neg hd, decide_eq_false (by omega)]
    · rw [decide_eq_false h, if_pos (by rfl), List.find?_cons, List.find?_cons]
      by_cases hd : y.f0 = d
      · rw [decide_eq_true hd]
        simp only []
        rw [if_neg (by omega)]
      · rw [decide_eq_false hd]
        simp only []
        exact ih
theorem lkT_put (x : S33) (T : List S33) (c : Int) : lkT (putT x T) c = if x.f0 = c then some x else lkT T c := by
  unfold putT
  rw [lkT_ins c (fun y hy => by have := (List.mem_filter.1 hy).2; simpa using this), lkT_filt]
  by_cases h : x.f0 = c
  · rw [if_pos h, if_pos h]
  · rw [if_neg h, if_neg h, if_neg h]
theorem lkT_mem {T : List S33} {c : Int} {x : S33} (h : lkT T c = some x) : x ∈ T ∧ x.f0 = c := ⟨List.mem_of_find?_eq_some h, by simpa using List.find?_some h⟩
/-! ### what lies in memory -/
def RowsV (w : World) (ok : Nat → Prop) : List S33 → List (Int × Value) → Prop
  | [], [] => True
  | x :: T, p :: ms => (∃ v5, p = (x.f0, repV x v5) ∧ k71.R 71 w 0 ok v5 x.f5 ∧ x.f5.length ≤ 1000000) ∧ RowsV w ok T ms
  | _, _ => False
theorem RowsV.move {w w1 : World} {ok : Nat → Prop} (hm : ∀ k, ok k → k < w.heap.size → w1.heap[k]? = w.heap[k]?) : ∀ {T : List S33} {ms : List (Int × Value)}, RowsV w ok T ms → RowsV w1 ok T ms
  | [], [], _ => trivial
  | [], _ :: _, h => h.elim
  | _ :: _, [], h => h.elim
  | x :: T, p :: ms, h => by
    obtain ⟨⟨v5, e, h1, h2⟩, h3⟩ := h
    exact ⟨⟨v5, e, Kd.R_step h1 hm, h2⟩, RowsV.move hm h3⟩
theorem RowsV.keys {w : World} {ok : Nat → Prop} : ∀ {T : List S33} {ms : List (Int × Value)}, RowsV w ok T ms → ms.map (·.1) = T.map (·.f0)
  | [], [], _ => rfl
  | [], _ :: _, h => h.elim
  | _ :: _, [], h => h.elim
  | x :: T, p :: ms, h => by
    obtain ⟨⟨v5, rfl, _⟩, h3⟩ := h
    rw [List.map_cons, List.map_cons, RowsV.keys h3]
theorem RowsV.len {w : World} {ok : Nat → Prop} {T : List S33} {ms : List (Int × Value)} (h : RowsV w ok T ms) : ms.length = T.length := by
  have := congrArg List.length h.keys
  simpa using this
theorem RowsV.filt {w : World} {ok : Nat → Prop} (c : Int) : ∀ {T : List S33} {ms : List (Int × Value)}, RowsV w ok T ms → RowsV w ok (T.filter (fun y => !decide (y.f0 = c))) (ms.filter (fun p => !decide (p.1 = c)))
  | [], [], _ => trivial
  | [], _ :: _, h => h.elim
  | _ :: _, [], h => h.elim
  | x :: T, p :: ms, h => by
    obtain ⟨⟨v5, rfl, h1⟩, h3⟩ := h
    have ih := RowsV.filt c h3
    rw [List.filter_cons, List.filter_cons]
    show RowsV w ok (if (!decide (x.f0 = c)) = true then _ else _) (if (!decide (x.f0 = c)) = true then _ else _)
    split
    · exact ⟨⟨v5, rfl, h1⟩, ih⟩
    · exact ih
theorem RowsV.ins {w : World} {ok : Nat → Prop} {x : S33} {v5 : Value} (hx : k71.R 71 w 0 ok v5 x.f5) (hl : x.f5.length ≤ 1000000) : ∀ {T : List S33} {ms : List (Int × Value)}, RowsV w ok T ms → RowsV w ok (insT x T) (insA (x.f0, repV x v5) ms)
  | [], [], _ => ⟨⟨v5, rfl, hx, hl⟩, trivial⟩
  | [], _ :: _, h => h.elim
  | _ :: _, [], h => h.elim
  | y :: T, p :: ms, h => by
    obtain ⟨⟨u5, rfl, h1⟩, h3⟩ := h
    unfold insT insA
    show RowsV w ok (if x.f0 < y.f0 then _ else _) (if x.f0 < y.f0 then _ else _)
    split
    · exact ⟨⟨v5, rfl, hx, hl⟩, ⟨u5, rfl, h1⟩, h3⟩
    · exact ⟨⟨u5, rfl, h1⟩, RowsV.ins hx hl h3⟩
theorem RowsV.put {w : World} {ok : Nat → Prop} {x : S33} {v5 : Value} (hx : k71.R 71 w 0 ok v5 x.f5) (hl : x.f5.length ≤ 1000000) {T : List S33} {ms : List (Int × Value)} (h : RowsV w ok T ms) : RowsV w ok (putT x T) (putA x.f0 (repV x v5) ms) := RowsV.ins hx hl (h.filt x.f0)
theorem RowsV.find {w : World} {ok : Nat → Prop} (c : Int) : ∀ {T : List S33} {ms : List (Int × Value)}, RowsV w ok T ms → (lkT T c = none ∧ lkA ms c = none) ∨ ∃ x v5, lkT T c = some x ∧ lkA ms c = some (repV x v5) ∧ k71.R 71 w 0 ok v5 x.f5 ∧ x.f5.length ≤ 1000000
  | [], [], _ => .inl ⟨rfl, rfl⟩
  | [], _ :: _, h => h.elim
  | _ :: _, [], h => h.elim
  | x :: T, p :: ms, h => by
    obtain ⟨⟨v5, rfl, h1, h2⟩, h3⟩ := h
    have ih := RowsV.find c h3
    unfold lkT lkA at ih ⊢
    rw [List.find?_cons, List.find?_cons]
    by_cases hc : x.f0 = c
    · have e1 : decide (x.f0 = c) = true := decide_eq_true hc
      show ((match decide (x.f0 = c) with | true => some x | false => _) = none ∧ Option.map _ (match decide (x.f0 = c) with | true => some (x.f0, repV x v5) | false => _) = none) ∨ _
      rw [e1]
      exact .inr ⟨x, v5, rfl, rfl, h1, h2⟩
    · have e1 : decide (x.f0 = c) = false := decide_eq_false hc
      show ((match decide (x.f0 = c) with | true => some x | false => _) = none ∧ Option.map _ (match decide (x.f0 = c) with | true => some (x.f0, repV x v5) | false => _) = none) ∨ _
      rw [e1]
      exact ih
/-- The table at block g, its map at block b, its last answers T. -/
def Tbl (w : World) (base g b : Nat) (T : List S33) : Prop := ∃ ms, w.heap[g]? = some (.cells #[.map (some b)] 56 (0, 0)) ∧ (g ≠ b ∧ base ≤ g ∧ base ≤ b) ∧ w.ownsMap Try.prog 3 RH b ms.length (mD ms) ∧ RisT T ∧ RowsV w (fun k => k ≠ g ∧ k ≠ b) T ms
theorem ris_of {w : World} {ok : Nat → Prop} {T : List S33} {ms : List (Int × Value)} (h : RowsV w ok T ms) (hr : RisT T) : RisA ms := by
  have h1 : (T.map (·.f0)).Pairwise (· < ·) := List.pairwise_map.2 hr
  rw [← h.keys] at h1
  exact List.pairwise_map.1 h1
theorem own_below {w w1 : World} {b n : Nat} {ms : List (Int × Value)} (h : w.ownsMap Try.prog 3 RH b n (mD ms)) (hk : w1.heap[b]? = w.heap[b]?) : w1.ownsMap Try.prog 3 RH b n (mD ms) := by
  obtain ⟨es, clock, hb, F, hs, hD⟩ := h
  exact ⟨es, clock, hk.trans hb, F, hs, hD⟩
theorem Tbl.on {w w1 : World} {base g b : Nat} {T : List S33} (h : Tbl w base g b T) {P : Nat → Prop} (ho : On P w w1) (hp : ∀ k, P k → w.heap.size ≤ k) : Tbl w1 base g b T := by
  obtain ⟨ms, h1, h2, h3, h4, h5⟩ := h
  have hk : ∀ k, k < w.heap.size → w1.heap[k]? = w.heap[k]? := fun k hk => ho.block k hk (fun p => by have := hp k p; omega)
  exact ⟨ms, (hk g (blk_lt h1)).trans h1, h2, own_below h3 (hk b h3.lt), h4, h5.move (fun k _ hlt => hk k hlt)⟩
theorem Tbl.below {w w1 : World} {base g b : Nat} {T : List S33} (h : Tbl w base g b T) (hb : Below w.heap.size w w1) : Tbl w1 base g b T := h.on (On.of_below (P := fun _ => False) hb) (fun _ h => h.elim)
abbrev zrep : Value := .agg #[.int .i64 0, .int .i64 0, .int .i64 0, .bool false, .string ⟨#[]⟩, .slice none 0 0, .string ⟨#[]⟩, .bool false]
theorem look_run {w : World} {b n : Nat} {ms : List (Int × Value)} (h : w.ownsMap Try.prog 3 RH b n (mD ms)) (c : Int) (hw : (Lit.int .i64 c).wf = true) (ok : Bool) :
    (Instr.lookup 54 (.map (some b)) (.int .i64 c) ok).run Try.prog w = .ok (match lkA ms c with | some v => if ok then .tuple #[v, .bool true] else v | none => if ok then .tuple #[zrep, .bool false] else zrep) w := by
  obtain ⟨es, clock, hb, F, hs, hD⟩ := h
  have hat : ∀ z, (mD ms).atKey (.int .i64 c) z = match lkA ms c with | some v => .held v | none => z := atKey_mD c ms
  rw [hD] at hat
  rcases fit_look ok (int_keyed Try.underlying3) Try.underlying54 (Try.zeroValue33 w) hb F (keyOf_int_mk Try.underlying3 hw) with ⟨hrun, _, h2⟩ | ⟨e0, y, _, _, hrun, hR, h2, _⟩
  · rw [hrun]
    cases hl : lkA ms c with
    | none => rfl
    | some v =>
      have h3 := hat .nil
      rw [h2, hl] at h3
      cases h3
  · rw [hrun]
    obtain rfl := Option.some.inj hR
    have h3 := hat .nil
    rw [h2] at h3
    cases hl : lkA ms c with
    | none => rw [hl] at h3; cases h3
    | some v =>
      rw [hl] at h3
      injection h3 with h3
      rw [h3]
theorem upd_run {w : World} {b n : Nat} {ms : List (Int × Value)} (h : w.ownsMap Try.prog 3 RH b n (mD ms)) (hn : n < maxLen) (c : Int) (hw : (Lit.int .i64 c).wf = true) (v : Value) :
    ∃ w', (Instr.mapUpdate 54 (.map (some b)) (.int .i64 c) v).run Try.prog w = .ok () w' ∧ w'.ownsMap Try.prog 3 RH b (putA c v ms).length (mD (putA c v ms)) ∧ On (· = b) w w' := by
  obtain ⟨w', h1, h2, h3⟩ := h.update (int_keyed Try.underlying3) Try.underlying54 hn (val := v) (keyOf_int_mk Try.underlying3 hw) (d := .held v) (ps := []) rfl
  rw [put_mD] at h2
  refine ⟨w', h1, own_tight h2, ⟨h3.os, h3.tape, h3.output, h3.size, fun k hk hp => h3.block k hk (fun e => hp (Option.some.inj e))⟩⟩
end Go.Proofs.YtdeepnpbibhfiaaW.PrintOnce
