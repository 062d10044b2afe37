-- printed by a program of this session (wip/tools), a turned form of the kit's print
import Derived.Test.YtbfllekkbmeibaaPLeaseLaterx0
import Derived.Test.YtbfllekkbmeibaaPLeaseLaterx1
namespace Go.Proofs.Ytbfllekkbmeibaa.PLeaseLater
open Go.RowKit Go.Proofs.YtbfllekkbmeibaaW.PrintWords Go.Proofs.YtbfllekkbmeibaaW.PrintLast Go.Proofs.YtbfllekkbmeibaaW.PrintMore
attribute [local go_sem] max2_int min2_int max_two min_two max_three min_three max_four min_four max2_str min2_str str_geq str_leq str_gtr   -- for this text's walks alone
set_option linter.unusedVariables false
set_option linter.unusedSimpArgs false

/-! ### gazetteerlaw13_LeaseLater: function 11 -/
def gazetteerlaw13_LeaseLater.f (a0_0 : Int) (a0_1 : Int) (a0_2 : Int) (a1_0 : Int) (a1_1 : Int) (a1_2 : Int) (a2_0 : Int) (a2_1 : Int) (a2_2 : Int) : Option Bool := some true
open Go.Proofs.YtbfllekkbmeibaaW.PrintReg
/-- May a lease be? -/
def may (e s f : Int) : Prop := 1 ≤ e ∧ 0 ≤ s ∧ s ≤ 1099511627776 ∧ 1 ≤ f ∧ f ≤ 1099511627776
instance (e s f : Int) : Decidable (may e s f) := by unfold may; infer_instance
theorem may_eq (e s f : Int) : lease_May.f e s f = some (decide (may e s f)) := by
  unfold lease_May.f lease_within.f may
  by_cases h1 : e ≥ 1 <;> by_cases h2 : s ≥ 0 <;> by_cases h3 : s ≤ 1099511627776 <;> by_cases h4 : f ≥ 1 <;> simp [h1, h2, h3, h4] <;> omega
/-- The later of two: its answer. -/
theorem later_some (x0 x1 x2 y0 y1 y2 : Int) : ∃ p0 p1 p2, lease_Later.f x0 x1 x2 y0 y1 y2 = some (p0, p1, p2) := by
  obtain ⟨m, hm⟩ : ∃ m, lease_May.f x0 x1 x2 = some m := ⟨_, may_eq _ _ _⟩
  obtain ⟨n, hn⟩ : ∃ n, lease_May.f y0 y1 y2 = some n := ⟨_, may_eq _ _ _⟩
  unfold lease_Later.f
  rw [hm, hn]
  simp only [Option.bind_some]
  repeat' split
  all_goals exact ⟨_, _, _, rfl⟩
theorem eqA54 (d : Nat) (w : World) (x0 y0 : Int) (x1 y1 : Int) (x2 y2 : Int) :
    (Op.equalIn (d + 2) 54 (.agg #[.int .i64 x0, .int .i64 x1, .int .i64 x2]) (.agg #[.int .i64 y0, .int .i64 y1, .int .i64 y2])).run Try.prog w = .ok (x0 == y0 && (x1 == y1 && (x2 == y2))) w := by
  refine eqA_of Try.underlying54 (by kernel_rfl) ?_
  refine eqf_cons (by rfl) (by go_simp; rfl) (by go_simp; rfl) (by go_simp) ?_
  refine eqf_cons (by rfl) (by go_simp; rfl) (by go_simp; rfl) (by go_simp) ?_
  exact eqf_last (by rfl) (by go_simp; rfl) (by go_simp; rfl) (by go_simp)
attribute [local go_sem high] eqA54
theorem later_val (e s f e' s' f' : Int) : lease_Later.f e s f e' s' f' = some (if ¬ may e s f then (if ¬ may e' s' f' then (0, 0, 0) else (e', s', f')) else if ¬ may e' s' f' then (e, s, f) else if e < e' ∨ (e = e' ∧ wrap64 (s + f) < wrap64 (s' + f')) then (e', s', f') else (e, s, f)) := by
  unfold lease_Later.f
  rw [may_eq, may_eq]
  by_cases h : may e s f <;> by_cases h' : may e' s' f' <;> simp [h, h']
  split <;> rfl
theorem later_two {e s f e' s' f' p0 p1 p2 q0 q1 q2 : Int} (hp : lease_Later.f e s f e' s' f' = some (p0, p1, p2)) (hq : lease_Later.f e' s' f' e s f = some (q0, q1, q2)) :
    p0 = q0 ∧ ((p1 = q1 ∧ p2 = q2) ∨ wrap64 (p1 + p2) = wrap64 (q1 + q2)) := by
  rw [later_val] at hp hq
  have hp := Option.some.inj hp
  have hq := Option.some.inj hq
  by_cases h : may e s f <;> by_cases h' : may e' s' f' <;> simp only [h, h', not_true, not_false_eq_true, if_true, if_false] at hp hq
  · by_cases c : e < e' ∨ (e = e' ∧ wrap64 (s + f) < wrap64 (s' + f'))
    · rw [if_pos c] at hp
      have d : ¬ (e' < e ∨ (e' = e ∧ wrap64 (s' + f') < wrap64 (s + f))) := by omega
      rw [if_neg d] at hq
      simp only [Prod.mk.injEq] at hp hq
      obtain ⟨rfl, rfl, rfl⟩ := hp
      obtain ⟨rfl, rfl, rfl⟩ := hq
      exact ⟨rfl, .inl ⟨rfl, rfl⟩⟩
    · rw [if_neg c] at hp
      by_cases d : e' < e ∨ (e' = e ∧ wrap64 (s' + f') < wrap64 (s + f))
      · rw [if_pos d] at hq
        simp only [Prod.mk.injEq] at hp hq
        obtain ⟨rfl, rfl, rfl⟩ := hp
        obtain ⟨rfl, rfl, rfl⟩ := hq
        exact ⟨rfl, .inl ⟨rfl, rfl⟩⟩
      · rw [if_neg d] at hq
        simp only [Prod.mk.injEq] at hp hq
        obtain ⟨rfl, rfl, rfl⟩ := hp
        obtain ⟨rfl, rfl, rfl⟩ := hq
        exact ⟨by omega, .inr (by omega)⟩
  all_goals
    simp only [Prod.mk.injEq] at hp hq
    obtain ⟨rfl, rfl, rfl⟩ := hp
    obtain ⟨rfl, rfl, rfl⟩ := hq
    exact ⟨rfl, .inl ⟨rfl, rfl⟩⟩
theorem later_self (e s f : Int) : ∃ s0 s1 s2, lease_Later.f e s f e s f = some (s0, s1, s2) ∧ lease_Later.f e s f 0 0 0 = some (s0, s1, s2) := by
  rw [later_val, later_val]
  have h0 : ¬ may 0 0 0 := by decide
  by_cases h : may e s f
  · refine ⟨e, s, f, ?_, ?_⟩ <;> simp [h, h0]
  · refine ⟨0, 0, 0, ?_, ?_⟩ <;> simp [h, h0]
/-- Of three. -/
theorem later_three {a0 a1 a2 b0 b1 b2 c0 c1 c2 p0 p1 p2 u0 u1 u2 r0 r1 r2 v0 v1 v2 : Int} (hp : lease_Later.f a0 a1 a2 b0 b1 b2 = some (p0, p1, p2)) (hu : lease_Later.f p0 p1 p2 c0 c1 c2 = some (u0, u1, u2))
    (hr : lease_Later.f b0 b1 b2 c0 c1 c2 = some (r0, r1, r2)) (hv : lease_Later.f a0 a1 a2 r0 r1 r2 = some (v0, v1, v2)) : u0 = v0 ∧ ((u1 = v1 ∧ u2 = v2) ∨ wrap64 (u1 + u2) = wrap64 (v1 + v2)) := by
  rw [later_val] at hp hu hr hv
  have hp := Option.some.inj hp
  have hu := Option.some.inj hu
  have hr := Option.some.inj hr
  have hv := Option.some.inj hv
  have h0 : ¬ may 0 0 0 := by decide
  by_cases h1 : may a0 a1 a2 <;> by_cases h2 : may b0 b1 b2 <;> by_cases h3 : may c0 c1 c2 <;> simp only [h1, h2, h3, not_true, not_false_eq_true, if_true, if_false] at hp hr
  all_goals (try split at hp)
  all_goals (try split at hr)
  all_goals
    simp only [Prod.mk.injEq] at hp hr
    obtain ⟨rfl, rfl, rfl⟩ := hp
    obtain ⟨rfl, rfl, rfl⟩ := hr
    simp only [h0, h1, h2, h3, not_true, not_false_eq_true, if_true, if_false] at hu hv
  all_goals (try split at hu)
  all_goals (try split at hv)
  all_goals
    simp only [Prod.mk.injEq] at hu hv
    obtain ⟨rfl, rfl, rfl⟩ := hu
    obtain ⟨rfl, rfl, rfl⟩ := hv
    first | exact ⟨rfl, .inl ⟨rfl, rfl⟩⟩ | exact ⟨by omega, .inr (by omega)⟩ | exact (by omega : False).elim
set_option maxHeartbeats 8000000 in
set_option maxRecDepth 100000 in
theorem gazetteerlaw13_LeaseLater.calls (a0_0 : Int) (a0_1 : Int) (a0_2 : Int) (a1_0 : Int) (a1_1 : Int) (a1_2 : Int) (a2_0 : Int) (a2_1 : Int) (a2_2 : Int) (r : Bool) (w : World) (HLT0 : r = true) (h : gazetteerlaw13_LeaseLater.f a0_0 a0_1 a0_2 a1_0 a1_1 a1_2 a2_0 a2_1 a2_2 = some r) :
    Calls Try.prog 11 #[.agg #[.int .i64 a0_0, .int .i64 a0_1, .int .i64 a0_2], .agg #[.int .i64 a1_0, .int .i64 a1_1, .int .i64 a1_2], .agg #[.int .i64 a2_0, .int .i64 a2_1, .int .i64 a2_2]] w fun e w' => e = .returned (.bool r) ∧ Below w.heap.size w w' := by
  obtain rfl := HLT0
  clear h
  have HX := Aside0.mk (fun W => gazetteerlaw13_awake.calls true W (by decide +kernel))
  have KM0 := Aside0.mk (fun W => gazetteerlaw13_Made.calls a0_0 a0_1 a0_2 a0_0 a0_1 a0_2 W rfl)
  have KM1 := Aside0.mk (fun W => gazetteerlaw13_Made.calls a1_0 a1_1 a1_2 a1_0 a1_1 a1_2 W rfl)
  have KM2 := Aside0.mk (fun W => gazetteerlaw13_Made.calls a2_0 a2_1 a2_2 a2_0 a2_1 a2_2 W rfl)
  obtain ⟨p0, p1, p2, lP⟩ := later_some a0_0 a0_1 a0_2 a1_0 a1_1 a1_2
  have KP := Aside0.mk (fun W => lease_Later.calls a0_0 a0_1 a0_2 a1_0 a1_1 a1_2 p0 p1 p2 W lP)
  have EP := Aside0.mk lP
  clear lP
  obtain ⟨q0, q1, q2, lQ⟩ := later_some a1_0 a1_1 a1_2 a0_0 a0_1 a0_2
  have KQ := Aside0.mk (fun W => lease_Later.calls a1_0 a1_1 a1_2 a0_0 a0_1 a0_2 q0 q1 q2 W lQ)
  have EQ := Aside0.mk lQ
  clear lQ
  obtain ⟨x0, x1, x2, lU⟩ := later_some p0 p1 p2 a2_0 a2_1 a2_2
  have KU := Aside0.mk (fun W => lease_Later.calls p0 p1 p2 a2_0 a2_1 a2_2 x0 x1 x2 W lU)
  have EU := Aside0.mk lU
  clear lU
  obtain ⟨y0, y1, y2, lR⟩ := later_some a1_0 a1_1 a1_2 a2_0 a2_1 a2_2
  have KR := Aside0.mk (fun W => lease_Later.calls a1_0 a1_1 a1_2 a2_0 a2_1 a2_2 y0 y1 y2 W lR)
  have ER := Aside0.mk lR
  clear lR
  obtain ⟨z0, z1, z2, lV⟩ := later_some a0_0 a0_1 a0_2 y0 y1 y2
  have KV := Aside0.mk (fun W => lease_Later.calls a0_0 a0_1 a0_2 y0 y1 y2 z0 z1 z2 W lV)
  have EV := Aside0.mk lV
  clear lV
  go_enter Try.func11, Try.ntmps11
  go_wp2_with (go_at_call 12; refine (HX.out _).mono ?_; rintro e W ⟨rfl, hb⟩)
  have B0 : Aside0 (W.heap[w.heap.size]? = some (.cells #[.int .i64 a0_0, .int .i64 a0_1, .int .i64 a0_2] 23 (0, 0))) := ⟨blk_below (blk_alloc (blk_alloc (by simpa using heap_alloc_new w _) _) _) hb⟩
  have B1 : Aside0 (W.heap[w.heap.size + 1]? = some (.cells #[.int .i64 a1_0, .int .i64 a1_1, .int .i64 a1_2] 23 (0, 0))) := ⟨blk_below (blk_alloc (by simpa using heap_alloc_new (w.alloc (.cells #[.int .i64 a0_0, .int .i64 a0_1, .int .i64 a0_2] 23)) _) _) hb⟩
  have B2 : Aside0 (W.heap[w.heap.size + 1 + 1]? = some (.cells #[.int .i64 a2_0, .int .i64 a2_1, .int .i64 a2_2] 23 (0, 0))) := ⟨blk_below (by simpa using heap_alloc_new ((w.alloc (.cells #[.int .i64 a0_0, .int .i64 a0_1, .int .i64 a0_2] 23)).alloc (.cells #[.int .i64 a1_0, .int .i64 a1_1, .int .i64 a1_2] 23)) _) hb⟩
  have HB : Aside0 (Below w.heap.size w W) := ⟨below_step (below_alloc (below_alloc (below_alloc (Below.refl _ _) _) _) _) hb⟩
  clear hb
  refine wp_region_steps 12 rfl rfl (by kernel_rfl) (fun LL a wx => ∃ g7 : Nat, ∃ g8 : Nat, ∃ g9 : Nat, ∃ u : Nat → Value, Aside0 (a = { tmps := List.toArray (.agg #[.int .i64 a0_0, .int .i64 a0_1, .int .i64 a0_2] :: .agg #[.int .i64 a1_0, .int .i64 a1_1, .int .i64 a1_2] :: .agg #[.int .i64 a2_0, .int .i64 a2_1, .int .i64 a2_2] :: .pointer (some ⟨w.heap.size, 0, none⟩) :: .pointer (some ⟨w.heap.size + 1, 0, none⟩) :: .pointer (some ⟨w.heap.size + 1 + 1, 0, none⟩) :: .bool false :: u 7 :: u 8 :: u 9 :: undef :: undef :: undef :: undef :: undef :: .bool true :: .bool false :: u 17 :: u 18 :: u 19 :: u 20 :: u 21 :: u 22 :: undef :: undef :: undef :: undef :: undef :: undef :: undef :: undef :: undef :: undef :: undef :: undef :: undef :: undef :: undef :: undef :: undef :: undef :: undef :: undef :: undef :: undef :: undef :: undef :: undef :: undef :: undef :: undef :: undef :: undef :: undef :: undef :: undef :: undef :: undef :: undef :: undef :: undef :: undef :: undef :: undef :: undef :: undef :: undef :: undef :: undef :: undef :: undef :: undef :: undef :: undef :: undef :: undef :: undef :: undef :: undef :: undef :: undef :: undef :: undef :: undef :: undef :: undef :: undef :: undef :: []), defers := [] } ∧ Tab LL u [(0, 17, .agg #[.int .i64 a0_0, .int .i64 a0_1, .int .i64 a0_2]), (1, 18, .agg #[.int .i64 a0_0, .int .i64 a0_1, .int .i64 a0_2]), (2, 19, .agg #[.int .i64 a1_0, .int .i64 a1_1, .int .i64 a1_2]), (3, 20, .agg #[.int .i64 a1_0, .int .i64 a1_1, .int .i64 a1_2]), (4, 21, .agg #[.int .i64 a2_0, .int .i64 a2_1, .int .i64 a2_2]), (5, 22, .agg #[.int .i64 a2_0, .int .i64 a2_1, .int .i64 a2_2]), (6, 7, .pointer (some ⟨g7, 0, none⟩)), (7, 8, .pointer (some ⟨g8, 0, none⟩)), (8, 9, .pointer (some ⟨g9, 0, none⟩))] ∧ Aside0 (Below W.heap.size W wx) ∧ Aside0 (LL 6 = true → RowAt W.heap.size wx g7 (LL 9) #[.int .i64 a0_0, .int .i64 a0_1, .int .i64 a0_2] #[.int .i64 0, .int .i64 0, .int .i64 0] 54) ∧ Aside0 (LL 7 = true → RowAt W.heap.size wx g8 (LL 10) #[.int .i64 a1_0, .int .i64 a1_1, .int .i64 a1_2] #[.int .i64 0, .int .i64 0, .int .i64 0] 54) ∧ Aside0 (LL 8 = true → RowAt W.heap.size wx g9 (LL 11) #[.int .i64 a2_0, .int .i64 a2_1, .int .i64 a2_2] #[.int .i64 0, .int .i64 0, .int .i64 0] 54) ∧ Aside0 (LL 6 = true → LL 7 = true → g7 ≠ g8) ∧ Aside0 (LL 6 = true → LL 8 = true → g7 ≠ g9) ∧ Aside0 (LL 7 = true → LL 8 = true → g8 ≠ g9) ∧ Aside0 (LL 9 = true → LL 6 = true) ∧ Aside0 (LL 10 = true → LL 7 = true) ∧ Aside0 (LL 11 = true → LL 8 = true))) ?_ ?_ ?_
  · exact ⟨0, 0, 0, fun _ => undef, ⟨rfl, Tab.start 12 rfl rfl, ⟨below_drew (Below.refl _ _)⟩, ⟨fun h => absurd h (by decide)⟩, ⟨fun h => absurd h (by decide)⟩, ⟨fun h => absurd h (by decide)⟩, ⟨fun h => absurd h (by decide)⟩, ⟨fun h => absurd h (by decide)⟩, ⟨fun h => absurd h (by decide)⟩, ⟨fun h => absurd h (by decide)⟩, ⟨fun h => absurd h (by decide)⟩, ⟨fun h => absurd h (by decide)⟩⟩⟩
  · refine Steps.cons ?_ (Steps.cons ?_ (Steps.cons ?_ (Steps.cons ?_ (Steps.cons ?_ (Steps.cons ?_ (Steps.cons ?_ (Steps.cons ?_ (Steps.cons ?_ (Steps.cons ?_ (Steps.cons ?_ (Steps.cons ?_ (Steps.nil))))))))))))
    · intro LL a wx hI hLk hd K' hK
      obtain ⟨g7, g8, g9, u, hI⟩ := hI
      obtain rfl := hI.out.1
      have hb := hI.out.2.2.1
      obtain ⟨c0, c1, c2⟩ := cells3 B0.out hb.out
      rw [if_pos (by rfl)]
      go_simp
      exact hK.out _ _ ⟨g7, g8, g9, (put1 u 17 (.agg #[.int .i64 a0_0, .int .i64 a0_1, .int .i64 a0_2])), ⟨rfl, hI.out.2.1.upd 0 rfl rfl rfl rfl, hI.out.2.2.1, hI.out.2.2.2.1, hI.out.2.2.2.2.1, hI.out.2.2.2.2.2.1, hI.out.2.2.2.2.2.2.1, hI.out.2.2.2.2.2.2.2.1, hI.out.2.2.2.2.2.2.2.2.1, hI.out.2.2.2.2.2.2.2.2.2.1, hI.out.2.2.2.2.2.2.2.2.2.2.1, hI.out.2.2.2.2.2.2.2.2.2.2.2⟩⟩
    · intro LL a wx hI hLk hd K' hK
      obtain ⟨g7, g8, g9, u, hI⟩ := hI
      obtain rfl := hI.out.1
      have e0 := hI.out.2.1.at 0 rfl (hd 0 rfl)
      have hb := hI.out.2.2.1
      have h7 := hI.out.2.2.2.1
      have h8 := hI.out.2.2.2.2.1
      have h9 := hI.out.2.2.2.2.2.1
      rw [if_pos (by rfl)]
      go_simp
      go_at_call 31
      refine (KM0.out _).mono ?_
      rintro e w2 ⟨rfl, hb1⟩
      exact hK.out _ _ ⟨g7, g8, g9, (put1 (put1 u 17 (.agg #[.int .i64 a0_0, .int .i64 a0_1, .int .i64 a0_2])) 18 (.agg #[.int .i64 a0_0, .int .i64 a0_1, .int .i64 a0_2])), ⟨rfl, (hI.out.2.1.same (s := 17) (v := .agg #[.int .i64 a0_0, .int .i64 a0_1, .int .i64 a0_2]) e0).upd 1 rfl rfl rfl rfl, ⟨below_step hb.out hb1⟩, ⟨fun h => (h7.out h).below hb1⟩, ⟨fun h => (h8.out h).below hb1⟩, ⟨fun h => (h9.out h).below hb1⟩, hI.out.2.2.2.2.2.2.1, hI.out.2.2.2.2.2.2.2.1, hI.out.2.2.2.2.2.2.2.2.1, hI.out.2.2.2.2.2.2.2.2.2.1, hI.out.2.2.2.2.2.2.2.2.2.2.1, hI.out.2.2.2.2.2.2.2.2.2.2.2⟩⟩
    · intro LL a wx hI hLk hd K' hK
      obtain ⟨g7, g8, g9, u, hI⟩ := hI
      obtain rfl := hI.out.1
      have hb := hI.out.2.2.1
      obtain ⟨c0, c1, c2⟩ := cells3 B1.out hb.out
      rw [if_pos (by rfl)]
      go_simp
      exact hK.out _ _ ⟨g7, g8, g9, (put1 u 19 (.agg #[.int .i64 a1_0, .int .i64 a1_1, .int .i64 a1_2])), ⟨rfl, hI.out.2.1.upd 2 rfl rfl rfl rfl, hI.out.2.2.1, hI.out.2.2.2.1, hI.out.2.2.2.2.1, hI.out.2.2.2.2.2.1, hI.out.2.2.2.2.2.2.1, hI.out.2.2.2.2.2.2.2.1, hI.out.2.2.2.2.2.2.2.2.1, hI.out.2.2.2.2.2.2.2.2.2.1, hI.out.2.2.2.2.2.2.2.2.2.2.1, hI.out.2.2.2.2.2.2.2.2.2.2.2⟩⟩
    · intro LL a wx hI hLk hd K' hK
      obtain ⟨g7, g8, g9, u, hI⟩ := hI
      obtain rfl := hI.out.1
      have e2 := hI.out.2.1.at 2 rfl (hd 2 rfl)
      have hb := hI.out.2.2.1
      have h7 := hI.out.2.2.2.1
      have h8 := hI.out.2.2.2.2.1
      have h9 := hI.out.2.2.2.2.2.1
      rw [if_pos (by rfl)]
      go_simp
      go_at_call 31
      refine (KM1.out _).mono ?_
      rintro e w2 ⟨rfl, hb1⟩
      exact hK.out _ _ ⟨g7, g8, g9, (put1 (put1 u 19 (.agg #[.int .i64 a1_0, .int .i64 a1_1, .int .i64 a1_2])) 20 (.agg #[.int .i64 a1_0, .int .i64 a1_1, .int .i64 a1_2])), ⟨rfl, (hI.out.2.1.same (s := 19) (v := .agg #[.int .i64 a1_0, .int .i64 a1_1, .int .i64 a1_2]) e2).upd 3 rfl rfl rfl rfl, ⟨below_step hb.out hb1⟩, ⟨fun h => (h7.out h).below hb1⟩, ⟨fun h => (h8.out h).below hb1⟩, ⟨fun h => (h9.out h).below hb1⟩, hI.out.2.2.2.2.2.2.1, hI.out.2.2.2.2.2.2.2.1, hI.out.2.2.2.2.2.2.2.2.1, hI.out.2.2.2.2.2.2.2.2.2.1, hI.out.2.2.2.2.2.2.2.2.2.2.1, hI.out.2.2.2.2.2.2.2.2.2.2.2⟩⟩
    · intro LL a wx hI hLk hd K' hK
      obtain ⟨g7, g8, g9, u, hI⟩ := hI
      obtain rfl := hI.out.1
      have hb := hI.out.2.2.1
      obtain ⟨c0, c1, c2⟩ := cells3 B2.out hb.out
      rw [if_pos (by rfl)]
      go_simp
      exact hK.out _ _ ⟨g7, g8, g9, (put1 u 21 (.agg #[.int .i64 a2_0, .int .i64 a2_1, .int .i64 a2_2])), ⟨rfl, hI.out.2.1.upd 4 rfl rfl rfl rfl, hI.out.2.2.1, hI.out.2.2.2.1, hI.out.2.2.2.2.1, hI.out.2.2.2.2.2.1, hI.out.2.2.2.2.2.2.1, hI.out.2.2.2.2.2.2.2.1, hI.out.2.2.2.2.2.2.2.2.1, hI.out.2.2.2.2.2.2.2.2.2.1, hI.out.2.2.2.2.2.2.2.2.2.2.1, hI.out.2.2.2.2.2.2.2.2.2.2.2⟩⟩
    · intro LL a wx hI hLk hd K' hK
      obtain ⟨g7, g8, g9, u, hI⟩ := hI
      obtain rfl := hI.out.1
      have e4 := hI.out.2.1.at 4 rfl (hd 4 rfl)
      have hb := hI.out.2.2.1
      have h7 := hI.out.2.2.2.1
      have h8 := hI.out.2.2.2.2.1
      have h9 := hI.out.2.2.2.2.2.1
      rw [if_pos (by rfl)]
      go_simp
      go_at_call 31
      refine (KM2.out _).mono ?_
      rintro e w2 ⟨rfl, hb1⟩
      exact hK.out _ _ ⟨g7, g8, g9, (put1 (put1 u 21 (.agg #[.int .i64 a2_0, .int .i64 a2_1, .int .i64 a2_2])) 22 (.agg #[.int .i64 a2_0, .int .i64 a2_1, .int .i64 a2_2])), ⟨rfl, (hI.out.2.1.same (s := 21) (v := .agg #[.int .i64 a2_0, .int .i64 a2_1, .int .i64 a2_2]) e4).upd 5 rfl rfl rfl rfl, ⟨below_step hb.out hb1⟩, ⟨fun h => (h7.out h).below hb1⟩, ⟨fun h => (h8.out h).below hb1⟩, ⟨fun h => (h9.out h).below hb1⟩, hI.out.2.2.2.2.2.2.1, hI.out.2.2.2.2.2.2.2.1, hI.out.2.2.2.2.2.2.2.2.1, hI.out.2.2.2.2.2.2.2.2.2.1, hI.out.2.2.2.2.2.2.2.2.2.2.1, hI.out.2.2.2.2.2.2.2.2.2.2.2⟩⟩
    · intro LL a wx hI hLk hd K' hK
      obtain ⟨g7, g8, g9, u, hI⟩ := hI
      obtain rfl := hI.out.1
      have hb := hI.out.2.2.1
      have h8 := hI.out.2.2.2.2.1
      have h9 := hI.out.2.2.2.2.2.1
      have hz7 := hI.out.2.2.2.2.2.2.2.2.2.1
      rw [if_pos (by rfl)]
      go_simp
      exact hK.out _ _ ⟨wx.heap.size, g8, g9, (put1 u 7 (.pointer (some ⟨wx.heap.size, 0, none⟩))), ⟨rfl, hI.out.2.1.upd 6 rfl rfl rfl rfl, ⟨below_alloc hb.out _⟩, ⟨fun _ => RowAt.new _ _ _ (flag_off hz7.out hLk) hb.out.size⟩, ⟨fun h => (h8.out h).alloc _⟩, ⟨fun h => (h9.out h).alloc _⟩, ⟨fun _ h => Nat.ne_of_gt ((h8.out h).lt)⟩, ⟨fun _ h => Nat.ne_of_gt ((h9.out h).lt)⟩, hI.out.2.2.2.2.2.2.2.2.1, ⟨fun _ => rfl⟩, hI.out.2.2.2.2.2.2.2.2.2.2.1, hI.out.2.2.2.2.2.2.2.2.2.2.2⟩⟩
    · intro LL a wx hI hLk hd K' hK
      obtain ⟨g7, g8, g9, u, hI⟩ := hI
      obtain rfl := hI.out.1
      have hb := hI.out.2.2.1
      have h7 := hI.out.2.2.2.1
      have h9 := hI.out.2.2.2.2.2.1
      have hz8 := hI.out.2.2.2.2.2.2.2.2.2.2.1
      rw [if_pos (by rfl)]
      go_simp
      exact hK.out _ _ ⟨g7, wx.heap.size, g9, (put1 u 8 (.pointer (some ⟨wx.heap.size, 0, none⟩))), ⟨rfl, hI.out.2.1.upd 7 rfl rfl rfl rfl, ⟨below_alloc hb.out _⟩, ⟨fun h => (h7.out h).alloc _⟩, ⟨fun _ => RowAt.new _ _ _ (flag_off hz8.out hLk) hb.out.size⟩, ⟨fun h => (h9.out h).alloc _⟩, ⟨fun h _ => Nat.ne_of_lt ((h7.out h).lt)⟩, hI.out.2.2.2.2.2.2.2.1, ⟨fun _ h => Nat.ne_of_gt ((h9.out h).lt)⟩, hI.out.2.2.2.2.2.2.2.2.2.1, ⟨fun _ => rfl⟩, hI.out.2.2.2.2.2.2.2.2.2.2.2⟩⟩
    · intro LL a wx hI hLk hd K' hK
      obtain ⟨g7, g8, g9, u, hI⟩ := hI
      obtain rfl := hI.out.1
      have hb := hI.out.2.2.1
      have h7 := hI.out.2.2.2.1
      have h8 := hI.out.2.2.2.2.1
      have hz9 := hI.out.2.2.2.2.2.2.2.2.2.2.2
      rw [if_pos (by rfl)]
      go_simp
      exact hK.out _ _ ⟨g7, g8, wx.heap.size, (put1 u 9 (.pointer (some ⟨wx.heap.size, 0, none⟩))), ⟨rfl, hI.out.2.1.upd 8 rfl rfl rfl rfl, ⟨below_alloc hb.out _⟩, ⟨fun h => (h7.out h).alloc _⟩, ⟨fun h => (h8.out h).alloc _⟩, ⟨fun _ => RowAt.new _ _ _ (flag_off hz9.out hLk) hb.out.size⟩, hI.out.2.2.2.2.2.2.1, ⟨fun h _ => Nat.ne_of_lt ((h7.out h).lt)⟩, ⟨fun h _ => Nat.ne_of_lt ((h8.out h).lt)⟩, hI.out.2.2.2.2.2.2.2.2.2.1, hI.out.2.2.2.2.2.2.2.2.2.2.1, ⟨fun _ => rfl⟩⟩⟩
    · intro LL a wx hI hLk hd K' hK
      obtain ⟨g7, g8, g9, u, hI⟩ := hI
      obtain rfl := hI.out.1
      have e6 := hI.out.2.1.at 6 rfl (hd 6 rfl)
      have e1 := hI.out.2.1.at 1 rfl (hd 1 rfl)
      have hb := hI.out.2.2.1
      have h7 := hI.out.2.2.2.1
      have h8 := hI.out.2.2.2.2.1
      have h9 := hI.out.2.2.2.2.2.1
      have n7_8 := hI.out.2.2.2.2.2.2.1
      have n7_9 := hI.out.2.2.2.2.2.2.2.1
      have r := h7.out (hd 6 rfl)
      obtain ⟨c0, c1, c2⟩ := cells3 (r.void hLk) (Below.refl _ _)
      have fz0 := blk_frozen (r.void hLk) 0
      have fz1 := blk_frozen (r.void hLk) 1
      have fz2 := blk_frozen (r.void hLk) 2
      rw [if_pos (by rfl)]
      go_simp
      exact hK.out _ _ ⟨g7, g8, g9, (put1 (put1 u 7 (.pointer (some ⟨g7, 0, none⟩))) 18 (.agg #[.int .i64 a0_0, .int .i64 a0_1, .int .i64 a0_2])), ⟨rfl, ((hI.out.2.1.same (s := 7) (v := .pointer (some ⟨g7, 0, none⟩)) e6).same (s := 18) (v := .agg #[.int .i64 a0_0, .int .i64 a0_1, .int .i64 a0_2]) e1).none 9 rfl, ⟨below_set (below_set (below_set hb.out r.1) r.1) r.1⟩, ⟨fun _ => ⟨r.1, put3 (r.void hLk)⟩⟩, ⟨fun h => (RowAt.far (RowAt.far (RowAt.far (h8.out h) (p := ⟨g7, 0, none⟩) (n7_8.out (hd 6 rfl) h) _) (p := ⟨g7, 1, none⟩) (n7_8.out (hd 6 rfl) h) _) (p := ⟨g7, 2, none⟩) (n7_8.out (hd 6 rfl) h) _)⟩, ⟨fun h => (RowAt.far (RowAt.far (RowAt.far (h9.out h) (p := ⟨g7, 0, none⟩) (n7_9.out (hd 6 rfl) h) _) (p := ⟨g7, 1, none⟩) (n7_9.out (hd 6 rfl) h) _) (p := ⟨g7, 2, none⟩) (n7_9.out (hd 6 rfl) h) _)⟩, hI.out.2.2.2.2.2.2.1, hI.out.2.2.2.2.2.2.2.1, hI.out.2.2.2.2.2.2.2.2.1, ⟨fun _ => hd 6 rfl⟩, hI.out.2.2.2.2.2.2.2.2.2.2.1, hI.out.2.2.2.2.2.2.2.2.2.2.2⟩⟩
    · intro LL a wx hI hLk hd K' hK
      obtain ⟨g7, g8, g9, u, hI⟩ := hI
      obtain rfl := hI.out.1
      have e7 := hI.out.2.1.at 7 rfl (hd 7 rfl)
      have e3 := hI.out.2.1.at 3 rfl (hd 3 rfl)
      have hb := hI.out.2.2.1
      have h7 := hI.out.2.2.2.1
      have h8 := hI.out.2.2.2.2.1
      have h9 := hI.out.2.2.2.2.2.1
      have n7_8 := hI.out.2.2.2.2.2.2.1
      have n8_9 := hI.out.2.2.2.2.2.2.2.2.1
      have r := h8.out (hd 7 rfl)
      obtain ⟨c0, c1, c2⟩ := cells3 (r.void hLk) (Below.refl _ _)
      have fz0 := blk_frozen (r.void hLk) 0
      have fz1 := blk_frozen (r.void hLk) 1
      have fz2 := blk_frozen (r.void hLk) 2
      rw [if_pos (by rfl)]
      go_simp
      exact hK.out _ _ ⟨g7, g8, g9, (put1 (put1 u 8 (.pointer (some ⟨g8, 0, none⟩))) 20 (.agg #[.int .i64 a1_0, .int .i64 a1_1, .int .i64 a1_2])), ⟨rfl, ((hI.out.2.1.same (s := 8) (v := .pointer (some ⟨g8, 0, none⟩)) e7).same (s := 20) (v := .agg #[.int .i64 a1_0, .int .i64 a1_1, .int .i64 a1_2]) e3).none 10 rfl, ⟨below_set (below_set (below_set hb.out r.1) r.1) r.1⟩, ⟨fun h => (RowAt.far (RowAt.far (RowAt.far (h7.out h) (p := ⟨g8, 0, none⟩) (Ne.symm (n7_8.out h (hd 7 rfl))) _) (p := ⟨g8, 1, none⟩) (Ne.symm (n7_8.out h (hd 7 rfl))) _) (p := ⟨g8, 2, none⟩) (Ne.symm (n7_8.out h (hd 7 rfl))) _)⟩, ⟨fun _ => ⟨r.1, put3 (r.void hLk)⟩⟩, ⟨fun h => (RowAt.far (RowAt.far (RowAt.far (h9.out h) (p := ⟨g8, 0, none⟩) (n8_9.out (hd 7 rfl) h) _) (p := ⟨g8, 1, none⟩) (n8_9.out (hd 7 rfl) h) _) (p := ⟨g8, 2, none⟩) (n8_9.out (hd 7 rfl) h) _)⟩, hI.out.2.2.2.2.2.2.1, hI.out.2.2.2.2.2.2.2.1, hI.out.2.2.2.2.2.2.2.2.1, hI.out.2.2.2.2.2.2.2.2.2.1, ⟨fun _ => hd 7 rfl⟩, hI.out.2.2.2.2.2.2.2.2.2.2.2⟩⟩
    · intro LL a wx hI hLk hd K' hK
      obtain ⟨g7, g8, g9, u, hI⟩ := hI
      obtain rfl := hI.out.1
      have e8 := hI.out.2.1.at 8 rfl (hd 8 rfl)
      have e5 := hI.out.2.1.at 5 rfl (hd 5 rfl)
      have hb := hI.out.2.2.1
      have h7 := hI.out.2.2.2.1
      have h8 := hI.out.2.2.2.2.1
      have h9 := hI.out.2.2.2.2.2.1
      have n7_9 := hI.out.2.2.2.2.2.2.2.1
      have n8_9 := hI.out.2.2.2.2.2.2.2.2.1
      have r := h9.out (hd 8 rfl)
      obtain ⟨c0, c1, c2⟩ := cells3 (r.void hLk) (Below.refl _ _)
      have fz0 := blk_frozen (r.void hLk) 0
      have fz1 := blk_frozen (r.void hLk) 1
      have fz2 := blk_frozen (r.void hLk) 2
      rw [if_pos (by rfl)]
      go_simp
      exact hK.out _ _ ⟨g7, g8, g9, (put1 (put1 u 9 (.pointer (some ⟨g9, 0, none⟩))) 22 (.agg #[.int .i64 a2_0, .int .i64 a2_1, .int .i64 a2_2])), ⟨rfl, ((hI.out.2.1.same (s := 9) (v := .pointer (some ⟨g9, 0, none⟩)) e8).same (s := 22) (v := .agg #[.int .i64 a2_0, .int .i64 a2_1, .int .i64 a2_2]) e5).none 11 rfl, ⟨below_set (below_set (below_set hb.out r.1) r.1) r.1⟩, ⟨fun h => (RowAt.far (RowAt.far (RowAt.far (h7.out h) (p := ⟨g9, 0, none⟩) (Ne.symm (n7_9.out h (hd 8 rfl))) _) (p := ⟨g9, 1, none⟩) (Ne.symm (n7_9.out h (hd 8 rfl))) _) (p := ⟨g9, 2, none⟩) (Ne.symm (n7_9.out h (hd 8 rfl))) _)⟩, ⟨fun h => (RowAt.far (RowAt.far (RowAt.far (h8.out h) (p := ⟨g9, 0, none⟩) (Ne.symm (n8_9.out h (hd 8 rfl))) _) (p := ⟨g9, 1, none⟩) (Ne.symm (n8_9.out h (hd 8 rfl))) _) (p := ⟨g9, 2, none⟩) (Ne.symm (n8_9.out h (hd 8 rfl))) _)⟩, ⟨fun _ => ⟨r.1, put3 (r.void hLk)⟩⟩, hI.out.2.2.2.2.2.2.1, hI.out.2.2.2.2.2.2.2.1, hI.out.2.2.2.2.2.2.2.2.1, hI.out.2.2.2.2.2.2.2.2.2.1, hI.out.2.2.2.2.2.2.2.2.2.2.1, ⟨fun _ => hd 8 rfl⟩⟩⟩
  · intro LL a wx0 hall hI
    obtain ⟨g7, g8, g9, u, hI⟩ := hI
    obtain rfl := hI.out.1
    have hb := hI.out.2.2.1
    have h7 := hI.out.2.2.2.1
    have h8 := hI.out.2.2.2.2.1
    have h9 := hI.out.2.2.2.2.2.1
    have n7_8 := hI.out.2.2.2.2.2.2.1
    have n7_9 := hI.out.2.2.2.2.2.2.2.1
    have n8_9 := hI.out.2.2.2.2.2.2.2.2.1
    have hz7 := hI.out.2.2.2.2.2.2.2.2.2.1
    have hz8 := hI.out.2.2.2.2.2.2.2.2.2.2.1
    have hz9 := hI.out.2.2.2.2.2.2.2.2.2.2.2
    have e6 := hI.out.2.1.at 6 rfl (hall 6 (by decide))
    have e7 := hI.out.2.1.at 7 rfl (hall 7 (by decide))
    have e8 := hI.out.2.1.at 8 rfl (hall 8 (by decide))
    have HBu := Aside0.mk (hb.out)
    have R7 := Aside0.mk ((h7.out (hall 6 (by decide))).full (hall 9 (by decide)))
    have L7 := Aside0.mk ((h7.out (hall 6 (by decide))).1)
    rw [e6]
    have R8 := Aside0.mk ((h8.out (hall 7 (by decide))).full (hall 10 (by decide)))
    have L8 := Aside0.mk ((h8.out (hall 7 (by decide))).1)
    rw [e7]
    have R9 := Aside0.mk ((h9.out (hall 8 (by decide))).full (hall 11 (by decide)))
    have L9 := Aside0.mk ((h9.out (hall 8 (by decide))).1)
    rw [e8]
    clear hI hb h7 h8 h9 n7_8 n7_9 n8_9 hz7 hz8 hz9 e6 e7 e8
    have HB0 := Aside0.mk (below_step HB.out HBu.out)
    clear HB HBu B0 B1 B2
    go_wp2_with fail
    refine wp_region_steps 10 rfl rfl (by kernel_rfl) (fun LL a wx => ∃ g10 : Nat, ∃ g11 : Nat, ∃ v : Nat → Value, Aside0 (a = { tmps := List.toArray (.agg #[.int .i64 a0_0, .int .i64 a0_1, .int .i64 a0_2] :: .agg #[.int .i64 a1_0, .int .i64 a1_1, .int .i64 a1_2] :: .agg #[.int .i64 a2_0, .int .i64 a2_1, .int .i64 a2_2] :: .pointer (some ⟨w.heap.size, 0, none⟩) :: .pointer (some ⟨w.heap.size + 1, 0, none⟩) :: .pointer (some ⟨w.heap.size + 1 + 1, 0, none⟩) :: .bool false :: .pointer (some ⟨g7, 0, none⟩) :: .pointer (some ⟨g8, 0, none⟩) :: .pointer (some ⟨g9, 0, none⟩) :: v 10 :: v 11 :: undef :: undef :: undef :: .bool true :: .bool false :: u 17 :: u 18 :: u 19 :: u 20 :: u 21 :: u 22 :: v 23 :: v 24 :: v 25 :: v 26 :: v 27 :: v 28 :: undef :: undef :: undef :: undef :: undef :: undef :: undef :: undef :: undef :: undef :: undef :: undef :: undef :: undef :: undef :: undef :: undef :: undef :: undef :: undef :: undef :: undef :: undef :: undef :: undef :: undef :: undef :: undef :: undef :: undef :: undef :: undef :: undef :: undef :: undef :: undef :: undef :: undef :: undef :: undef :: undef :: undef :: undef :: undef :: undef :: undef :: undef :: undef :: undef :: undef :: undef :: undef :: undef :: undef :: undef :: undef :: undef :: undef :: undef :: []), defers := [] } ∧ Tab LL v [(0, 23, .agg #[.int .i64 a0_0, .int .i64 a0_1, .int .i64 a0_2]), (1, 24, .agg #[.int .i64 a1_0, .int .i64 a1_1, .int .i64 a1_2]), (2, 25, .agg #[.int .i64 p0, .int .i64 p1, .int .i64 p2]), (3, 26, .agg #[.int .i64 a1_0, .int .i64 a1_1, .int .i64 a1_2]), (4, 27, .agg #[.int .i64 a0_0, .int .i64 a0_1, .int .i64 a0_2]), (5, 28, .agg #[.int .i64 q0, .int .i64 q1, .int .i64 q2]), (6, 10, .pointer (some ⟨g10, 0, none⟩)), (7, 11, .pointer (some ⟨g11, 0, none⟩))] ∧ Aside0 (Below wx0.heap.size wx0 wx) ∧ Aside0 (LL 6 = true → RowAt wx0.heap.size wx g10 (LL 8) #[.int .i64 p0, .int .i64 p1, .int .i64 p2] #[.int .i64 0, .int .i64 0, .int .i64 0] 54) ∧ Aside0 (LL 7 = true → RowAt wx0.heap.size wx g11 (LL 9) #[.int .i64 q0, .int .i64 q1, .int .i64 q2] #[.int .i64 0, .int .i64 0, .int .i64 0] 54) ∧ Aside0 (LL 6 = true → LL 7 = true → g10 ≠ g11) ∧ Aside0 (LL 8 = true → LL 6 = true) ∧ Aside0 (LL 9 = true → LL 7 = true))) ?_ ?_ ?_
    · exact ⟨0, 0, fun _ => undef, ⟨rfl, Tab.start 10 rfl rfl, ⟨below_drew (Below.refl _ _)⟩, ⟨fun h => absurd h (by decide)⟩, ⟨fun h => absurd h (by decide)⟩, ⟨fun h => absurd h (by decide)⟩, ⟨fun h => absurd h (by decide)⟩, ⟨fun h => absurd h (by decide)⟩⟩⟩
    · refine Steps.cons ?_ (Steps.cons ?_ (Steps.cons ?_ (Steps.cons ?_ (Steps.cons ?_ (Steps.cons ?_ (Steps.cons ?_ (Steps.cons ?_ (Steps.cons ?_ (Steps.cons ?_ (Steps.nil))))))))))
      · intro LL a wx hI hLk hd K' hK
        obtain ⟨g10, g11, v, hI⟩ := hI
        obtain rfl := hI.out.1
        have hb := hI.out.2.2.1
        obtain ⟨c0, c1, c2⟩ := cells3 R7.out hb.out
        rw [if_pos (by rfl)]
        go_simp
        exact hK.out _ _ ⟨g10, g11, (put1 v 23 (.agg #[.int .i64 a0_0, .int .i64 a0_1, .int .i64 a0_2])), ⟨rfl, hI.out.2.1.upd 0 rfl rfl rfl rfl, hI.out.2.2.1, hI.out.2.2.2.1, hI.out.2.2.2.2.1, hI.out.2.2.2.2.2.1, hI.out.2.2.2.2.2.2.1, hI.out.2.2.2.2.2.2.2⟩⟩
      · intro LL a wx hI hLk hd K' hK
        obtain ⟨g10, g11, v, hI⟩ := hI
        obtain rfl := hI.out.1
        have hb := hI.out.2.2.1
        obtain ⟨c0, c1, c2⟩ := cells3 R8.out hb.out
        rw [if_pos (by rfl)]
        go_simp
        exact hK.out _ _ ⟨g10, g11, (put1 v 24 (.agg #[.int .i64 a1_0, .int .i64 a1_1, .int .i64 a1_2])), ⟨rfl, hI.out.2.1.upd 1 rfl rfl rfl rfl, hI.out.2.2.1, hI.out.2.2.2.1, hI.out.2.2.2.2.1, hI.out.2.2.2.2.2.1, hI.out.2.2.2.2.2.2.1, hI.out.2.2.2.2.2.2.2⟩⟩
      · intro LL a wx hI hLk hd K' hK
        obtain ⟨g10, g11, v, hI⟩ := hI
        obtain rfl := hI.out.1
        have e0 := hI.out.2.1.at 0 rfl (hd 0 rfl)
        have e1 := hI.out.2.1.at 1 rfl (hd 1 rfl)
        have hb := hI.out.2.2.1
        have h10 := hI.out.2.2.2.1
        have h11 := hI.out.2.2.2.2.1
        rw [if_pos (by rfl)]
        go_simp
        go_at_call 32
        refine (KP.out _).mono ?_
        rintro e w2 ⟨rfl, hb1⟩
        exact hK.out _ _ ⟨g10, g11, (put1 (put1 (put1 v 23 (.agg #[.int .i64 a0_0, .int .i64 a0_1, .int .i64 a0_2])) 24 (.agg #[.int .i64 a1_0, .int .i64 a1_1, .int .i64 a1_2])) 25 (.agg #[.int .i64 p0, .int .i64 p1, .int .i64 p2])), ⟨rfl, ((hI.out.2.1.same (s := 23) (v := .agg #[.int .i64 a0_0, .int .i64 a0_1, .int .i64 a0_2]) e0).same (s := 24) (v := .agg #[.int .i64 a1_0, .int .i64 a1_1, .int .i64 a1_2]) e1).upd 2 rfl rfl rfl rfl, ⟨below_step hb.out hb1⟩, ⟨fun h => (h10.out h).below hb1⟩, ⟨fun h => (h11.out h).below hb1⟩, hI.out.2.2.2.2.2.1, hI.out.2.2.2.2.2.2.1, hI.out.2.2.2.2.2.2.2⟩⟩
      · intro LL a wx hI hLk hd K' hK
        obtain ⟨g10, g11, v, hI⟩ := hI
        obtain rfl := hI.out.1
        have hb := hI.out.2.2.1
        obtain ⟨c0, c1, c2⟩ := cells3 R8.out hb.out
        rw [if_pos (by rfl)]
        go_simp
        exact hK.out _ _ ⟨g10, g11, (put1 v 26 (.agg #[.int .i64 a1_0, .int .i64 a1_1, .int .i64 a1_2])), ⟨rfl, hI.out.2.1.upd 3 rfl rfl rfl rfl, hI.out.2.2.1, hI.out.2.2.2.1, hI.out.2.2.2.2.1, hI.out.2.2.2.2.2.1, hI.out.2.2.2.2.2.2.1, hI.out.2.2.2.2.2.2.2⟩⟩
      · intro LL a wx hI hLk hd K' hK
        obtain ⟨g10, g11, v, hI⟩ := hI
        obtain rfl := hI.out.1
        have hb := hI.out.2.2.1
        obtain ⟨c0, c1, c2⟩ := cells3 R7.out hb.out
        rw [if_pos (by rfl)]
        go_simp
        exact hK.out _ _ ⟨g10, g11, (put1 v 27 (.agg #[.int .i64 a0_0, .int .i64 a0_1, .int .i64 a0_2])), ⟨rfl, hI.out.2.1.upd 4 rfl rfl rfl rfl, hI.out.2.2.1, hI.out.2.2.2.1, hI.out.2.2.2.2.1, hI.out.2.2.2.2.2.1, hI.out.2.2.2.2.2.2.1, hI.out.2.2.2.2.2.2.2⟩⟩
      · intro LL a wx hI hLk hd K' hK
        obtain ⟨g10, g11, v, hI⟩ := hI
        obtain rfl := hI.out.1
        have e3 := hI.out.2.1.at 3 rfl (hd 3 rfl)
        have e4 := hI.out.2.1.at 4 rfl (hd 4 rfl)
        have hb := hI.out.2.2.1
        have h10 := hI.out.2.2.2.1
        have h11 := hI.out.2.2.2.2.1
        rw [if_pos (by rfl)]
        go_simp
        go_at_call 32
        refine (KQ.out _).mono ?_
        rintro e w2 ⟨rfl, hb1⟩
        exact hK.out _ _ ⟨g10, g11, (put1 (put1 (put1 v 26 (.agg #[.int .i64 a1_0, .int .i64 a1_1, .int .i64 a1_2])) 27 (.agg #[.int .i64 a0_0, .int .i64 a0_1, .int .i64 a0_2])) 28 (.agg #[.int .i64 q0, .int .i64 q1, .int .i64 q2])), ⟨rfl, ((hI.out.2.1.same (s := 26) (v := .agg #[.int .i64 a1_0, .int .i64 a1_1, .int .i64 a1_2]) e3).same (s := 27) (v := .agg #[.int .i64 a0_0, .int .i64 a0_1, .int .i64 a0_2]) e4).upd 5 rfl rfl rfl rfl, ⟨below_step hb.out hb1⟩, ⟨fun h => (h10.out h).below hb1⟩, ⟨fun h => (h11.out h).below hb1⟩, hI.out.2.2.2.2.2.1, hI.out.2.2.2.2.2.2.1, hI.out.2.2.2.2.2.2.2⟩⟩
      · intro LL a wx hI hLk hd K' hK
        obtain ⟨g10, g11, v, hI⟩ := hI
        obtain rfl := hI.out.1
        have hb := hI.out.2.2.1
        have h11 := hI.out.2.2.2.2.1
        have hz10 := hI.out.2.2.2.2.2.2.1
        rw [if_pos (by rfl)]
        go_simp
        exact hK.out _ _ ⟨wx.heap.size, g11, (put1 v 10 (.pointer (some ⟨wx.heap.size, 0, none⟩))), ⟨rfl, hI.out.2.1.upd 6 rfl rfl rfl rfl, ⟨below_alloc hb.out _⟩, ⟨fun _ => RowAt.new _ _ _ (flag_off hz10.out hLk) hb.out.size⟩, ⟨fun h => (h11.out h).alloc _⟩, ⟨fun _ h => Nat.ne_of_gt ((h11.out h).lt)⟩, ⟨fun _ => rfl⟩, hI.out.2.2.2.2.2.2.2⟩⟩
      · intro LL a wx hI hLk hd K' hK
        obtain ⟨g10, g11, v, hI⟩ := hI
        obtain rfl := hI.out.1
        have hb := hI.out.2.2.1
        have h10 := hI.out.2.2.2.1
        have hz11 := hI.out.2.2.2.2.2.2.2
        rw [if_pos (by rfl)]
        go_simp
        exact hK.out _ _ ⟨g10, wx.heap.size, (put1 v 11 (.pointer (some ⟨wx.heap.size, 0, none⟩))), ⟨rfl, hI.out.2.1.upd 7 rfl rfl rfl rfl, ⟨below_alloc hb.out _⟩, ⟨fun h => (h10.out h).alloc _⟩, ⟨fun _ => RowAt.new _ _ _ (flag_off hz11.out hLk) hb.out.size⟩, ⟨fun h _ => Nat.ne_of_lt ((h10.out h).lt)⟩, hI.out.2.2.2.2.2.2.1, ⟨fun _ => rfl⟩⟩⟩
      · intro LL a wx hI hLk hd K' hK
        obtain ⟨g10, g11, v, hI⟩ := hI
        obtain rfl := hI.out.1
        have e6 := hI.out.2.1.at 6 rfl (hd 6 rfl)
        have e2 := hI.out.2.1.at 2 rfl (hd 2 rfl)
        have hb := hI.out.2.2.1
        have h10 := hI.out.2.2.2.1
        have h11 := hI.out.2.2.2.2.1
        have n10_11 := hI.out.2.2.2.2.2.1
        have r := h10.out (hd 6 rfl)
        obtain ⟨c0, c1, c2⟩ := cells3 (r.void hLk) (Below.refl _ _)
        have fz0 := blk_frozen (r.void hLk) 0
        have fz1 := blk_frozen (r.void hLk) 1
        have fz2 := blk_frozen (r.void hLk) 2
        rw [if_pos (by rfl)]
        go_simp
        exact hK.out _ _ ⟨g10, g11, (put1 (put1 v 10 (.pointer (some ⟨g10, 0, none⟩))) 25 (.agg #[.int .i64 p0, .int .i64 p1, .int .i64 p2])), ⟨rfl, ((hI.out.2.1.same (s := 10) (v := .pointer (some ⟨g10, 0, none⟩)) e6).same (s := 25) (v := .agg #[.int .i64 p0, .int .i64 p1, .int .i64 p2]) e2).none 8 rfl, ⟨below_set (below_set (below_set hb.out r.1) r.1) r.1⟩, ⟨fun _ => ⟨r.1, put3 (r.void hLk)⟩⟩, ⟨fun h => (RowAt.far (RowAt.far (RowAt.far (h11.out h) (p := ⟨g10, 0, none⟩) (n10_11.out (hd 6 rfl) h) _) (p := ⟨g10, 1, none⟩) (n10_11.out (hd 6 rfl) h) _) (p := ⟨g10, 2, none⟩) (n10_11.out (hd 6 rfl) h) _)⟩, hI.out.2.2.2.2.2.1, ⟨fun _ => hd 6 rfl⟩, hI.out.2.2.2.2.2.2.2⟩⟩
      · intro LL a wx hI hLk hd K' hK
        obtain ⟨g10, g11, v, hI⟩ := hI
        obtain rfl := hI.out.1
        have e7 := hI.out.2.1.at 7 rfl (hd 7 rfl)
        have e5 := hI.out.2.1.at 5 rfl (hd 5 rfl)
        have hb := hI.out.2.2.1
        have h10 := hI.out.2.2.2.1
        have h11 := hI.out.2.2.2.2.1
        have n10_11 := hI.out.2.2.2.2.2.1
        have r := h11.out (hd 7 rfl)
        obtain ⟨c0, c1, c2⟩ := cells3 (r.void hLk) (Below.refl _ _)
        have fz0 := blk_frozen (r.void hLk) 0
        have fz1 := blk_frozen (r.void hLk) 1
        have fz2 := blk_frozen (r.void hLk) 2
        rw [if_pos (by rfl)]
        go_simp
        exact hK.out _ _ ⟨g10, g11, (put1 (put1 v 11 (.pointer (some ⟨g11, 0, none⟩))) 28 (.agg #[.int .i64 q0, .int .i64 q1, .int .i64 q2])), ⟨rfl, ((hI.out.2.1.same (s := 11) (v := .pointer (some ⟨g11, 0, none⟩)) e7).same (s := 28) (v := .agg #[.int .i64 q0, .int .i64 q1, .int .i64 q2]) e5).none 9 rfl, ⟨below_set (below_set (below_set hb.out r.1) r.1) r.1⟩, ⟨fun h => (RowAt.far (RowAt.far (RowAt.far (h10.out h) (p := ⟨g11, 0, none⟩) (Ne.symm (n10_11.out h (hd 7 rfl))) _) (p := ⟨g11, 1, none⟩) (Ne.symm (n10_11.out h (hd 7 rfl))) _) (p := ⟨g11, 2, none⟩) (Ne.symm (n10_11.out h (hd 7 rfl))) _)⟩, ⟨fun _ => ⟨r.1, put3 (r.void hLk)⟩⟩, hI.out.2.2.2.2.2.1, hI.out.2.2.2.2.2.2.1, ⟨fun _ => hd 7 rfl⟩⟩⟩
    · intro LL a wx1 hall hI
      obtain ⟨g10, g11, v, hI⟩ := hI
      obtain rfl := hI.out.1
      have hb := hI.out.2.2.1
      have h10 := hI.out.2.2.2.1
      have h11 := hI.out.2.2.2.2.1
      have n10_11 := hI.out.2.2.2.2.2.1
      have hz10 := hI.out.2.2.2.2.2.2.1
      have hz11 := hI.out.2.2.2.2.2.2.2
      have e6 := hI.out.2.1.at 6 rfl (hall 6 (by decide))
      have e7 := hI.out.2.1.at 7 rfl (hall 7 (by decide))
      have HBv := Aside0.mk (hb.out)
      have R10 := Aside0.mk ((h10.out (hall 6 (by decide))).full (hall 8 (by decide)))
      have L10 := Aside0.mk ((h10.out (hall 6 (by decide))).1)
      rw [e6]
      have R11 := Aside0.mk ((h11.out (hall 7 (by decide))).full (hall 9 (by decide)))
      have L11 := Aside0.mk ((h11.out (hall 7 (by decide))).1)
      rw [e7]
      clear hI hb h10 h11 n10_11 hz10 hz11 e6 e7
      have HB1 := Aside0.mk (below_step HB0.out HBv.out)
      have S7 := Aside0.mk (blk_below R7.out HBv.out)
      have S8 := Aside0.mk (blk_below R8.out HBv.out)
      have S9 := Aside0.mk (blk_below R9.out HBv.out)
      clear HB0 HBv R7 R8 R9
      go_wp2_with fail
      refine wp_region_steps 14 rfl rfl (by kernel_rfl) (fun LL a wx => ∃ g12 : Nat, ∃ g13 : Nat, ∃ y : Nat → Value, Aside0 (a = { tmps := List.toArray (.agg #[.int .i64 a0_0, .int .i64 a0_1, .int .i64 a0_2] :: .agg #[.int .i64 a1_0, .int .i64 a1_1, .int .i64 a1_2] :: .agg #[.int .i64 a2_0, .int .i64 a2_1, .int .i64 a2_2] :: .pointer (some ⟨w.heap.size, 0, none⟩) :: .pointer (some ⟨w.heap.size + 1, 0, none⟩) :: .pointer (some ⟨w.heap.size + 1 + 1, 0, none⟩) :: .bool false :: .pointer (some ⟨g7, 0, none⟩) :: .pointer (some ⟨g8, 0, none⟩) :: .pointer (some ⟨g9, 0, none⟩) :: .pointer (some ⟨g10, 0, none⟩) :: .pointer (some ⟨g11, 0, none⟩) :: y 12 :: y 13 :: undef :: .bool true :: .bool false :: u 17 :: u 18 :: u 19 :: u 20 :: u 21 :: u 22 :: v 23 :: v 24 :: v 25 :: v 26 :: v 27 :: v 28 :: y 29 :: y 30 :: y 31 :: y 32 :: y 33 :: y 34 :: y 35 :: y 36 :: y 37 :: y 38 :: undef :: undef :: undef :: undef :: undef :: undef :: undef :: undef :: undef :: undef :: undef :: undef :: undef :: undef :: undef :: undef :: undef :: undef :: undef :: undef :: undef :: undef :: undef :: undef :: undef :: undef :: undef :: undef :: undef :: undef :: undef :: undef :: undef :: undef :: undef :: undef :: undef :: undef :: undef :: undef :: undef :: undef :: undef :: undef :: undef :: undef :: undef :: undef :: undef :: []), defers := [] } ∧ Tab LL y [(0, 29, .agg #[.int .i64 a0_0, .int .i64 a0_1, .int .i64 a0_2]), (1, 30, .agg #[.int .i64 a1_0, .int .i64 a1_1, .int .i64 a1_2]), (2, 31, .agg #[.int .i64 p0, .int .i64 p1, .int .i64 p2]), (3, 32, .agg #[.int .i64 a2_0, .int .i64 a2_1, .int .i64 a2_2]), (4, 33, .agg #[.int .i64 x0, .int .i64 x1, .int .i64 x2]), (5, 34, .agg #[.int .i64 a0_0, .int .i64 a0_1, .int .i64 a0_2]), (6, 35, .agg #[.int .i64 a1_0, .int .i64 a1_1, .int .i64 a1_2]), (7, 36, .agg #[.int .i64 a2_0, .int .i64 a2_1, .int .i64 a2_2]), (8, 37, .agg #[.int .i64 y0, .int .i64 y1, .int .i64 y2]), (9, 38, .agg #[.int .i64 z0, .int .i64 z1, .int .i64 z2]), (10, 12, .pointer (some ⟨g12, 0, none⟩)), (11, 13, .pointer (some ⟨g13, 0, none⟩))] ∧ Aside0 (Below wx1.heap.size wx1 wx) ∧ Aside0 (LL 10 = true → RowAt wx1.heap.size wx g12 (LL 12) #[.int .i64 x0, .int .i64 x1, .int .i64 x2] #[.int .i64 0, .int .i64 0, .int .i64 0] 54) ∧ Aside0 (LL 11 = true → RowAt wx1.heap.size wx g13 (LL 13) #[.int .i64 z0, .int .i64 z1, .int .i64 z2] #[.int .i64 0, .int .i64 0, .int .i64 0] 54) ∧ Aside0 (LL 10 = true → LL 11 = true → g12 ≠ g13) ∧ Aside0 (LL 12 = true → LL 10 = true) ∧ Aside0 (LL 13 = true → LL 11 = true))) ?_ ?_ ?_
      · exact ⟨0, 0, fun _ => undef, ⟨rfl, Tab.start 14 rfl rfl, ⟨below_drew (Below.refl _ _)⟩, ⟨fun h => absurd h (by decide)⟩, ⟨fun h => absurd h (by decide)⟩, ⟨fun h => absurd h (by decide)⟩, ⟨fun h => absurd h (by decide)⟩, ⟨fun h => absurd h (by decide)⟩⟩⟩
      · refine Steps.cons ?_ (Steps.cons ?_ (Steps.cons ?_ (Steps.cons ?_ (Steps.cons ?_ (Steps.cons ?_ (Steps.cons ?_ (Steps.cons ?_ (Steps.cons ?_ (Steps.cons ?_ (Steps.cons ?_ (Steps.cons ?_ (Steps.cons ?_ (Steps.cons ?_ (Steps.nil))))))))))))))
        · intro LL a wx hI hLk hd K' hK
          obtain ⟨g12, g13, y, hI⟩ := hI
          obtain rfl := hI.out.1
          have hb := hI.out.2.2.1
          obtain ⟨c0, c1, c2⟩ := cells3 S7.out hb.out
          rw [if_pos (by rfl)]
          go_simp
          exact hK.out _ _ ⟨g12, g13, (put1 y 29 (.agg #[.int .i64 a0_0, .int .i64 a0_1, .int .i64 a0_2])), ⟨rfl, hI.out.2.1.upd 0 rfl rfl rfl rfl, hI.out.2.2.1, hI.out.2.2.2.1, hI.out.2.2.2.2.1, hI.out.2.2.2.2.2.1, hI.out.2.2.2.2.2.2.1, hI.out.2.2.2.2.2.2.2⟩⟩
        · intro LL a wx hI hLk hd K' hK
          obtain ⟨g12, g13, y, hI⟩ := hI
          obtain rfl := hI.out.1
          have hb := hI.out.2.2.1
          obtain ⟨c0, c1, c2⟩ := cells3 S8.out hb.out
          rw [if_pos (by rfl)]
          go_simp
          exact hK.out _ _ ⟨g12, g13, (put1 y 30 (.agg #[.int .i64 a1_0, .int .i64 a1_1, .int .i64 a1_2])), ⟨rfl, hI.out.2.1.upd 1 rfl rfl rfl rfl, hI.out.2.2.1, hI.out.2.2.2.1, hI.out.2.2.2.2.1, hI.out.2.2.2.2.2.1, hI.out.2.2.2.2.2.2.1, hI.out.2.2.2.2.2.2.2⟩⟩
        · intro LL a wx hI hLk hd K' hK
          obtain ⟨g12, g13, y, hI⟩ := hI
          obtain rfl := hI.out.1
          have e0 := hI.out.2.1.at 0 rfl (hd 0 rfl)
          have e1 := hI.out.2.1.at 1 rfl (hd 1 rfl)
          have hb := hI.out.2.2.1
          have h12 := hI.out.2.2.2.1
          have h13 := hI.out.2.2.2.2.1
          rw [if_pos (by rfl)]
          go_simp
          go_at_call 32
          refine (KP.out _).mono ?_
          rintro e w2 ⟨rfl, hb1⟩
          exact hK.out _ _ ⟨g12, g13, (put1 (put1 (put1 y 29 (.agg #[.int .i64 a0_0, .int .i64 a0_1, .int .i64 a0_2])) 30 (.agg #[.int .i64 a1_0, .int .i64 a1_1, .int .i64 a1_2])) 31 (.agg #[.int .i64 p0, .int .i64 p1, .int .i64 p2])), ⟨rfl, ((hI.out.2.1.same (s := 29) (v := .agg #[.int .i64 a0_0, .int .i64 a0_1, .int .i64 a0_2]) e0).same (s := 30) (v := .agg #[.int .i64 a1_0, .int .i64 a1_1, .int .i64 a1_2]) e1).upd 2 rfl rfl rfl rfl, ⟨below_step hb.out hb1⟩, ⟨fun h => (h12.out h).below hb1⟩, ⟨fun h => (h13.out h).below hb1⟩, hI.out.2.2.2.2.2.1, hI.out.2.2.2.2.2.2.1, hI.out.2.2.2.2.2.2.2⟩⟩
        · intro LL a wx hI hLk hd K' hK
          obtain ⟨g12, g13, y, hI⟩ := hI
          obtain rfl := hI.out.1
          have hb := hI.out.2.2.1
          obtain ⟨c0, c1, c2⟩ := cells3 S9.out hb.out
          rw [if_pos (by rfl)]
          go_simp
          exact hK.out _ _ ⟨g12, g13, (put1 y 32 (.agg #[.int .i64 a2_0, .int .i64 a2_1, .int .i64 a2_2])), ⟨rfl, hI.out.2.1.upd 3 rfl rfl rfl rfl, hI.out.2.2.1, hI.out.2.2.2.1, hI.out.2.2.2.2.1, hI.out.2.2.2.2.2.1, hI.out.2.2.2.2.2.2.1, hI.out.2.2.2.2.2.2.2⟩⟩
        · intro LL a wx hI hLk hd K' hK
          obtain ⟨g12, g13, y, hI⟩ := hI
          obtain rfl := hI.out.1
          have e2 := hI.out.2.1.at 2 rfl (hd 2 rfl)
          have e3 := hI.out.2.1.at 3 rfl (hd 3 rfl)
          have hb := hI.out.2.2.1
          have h12 := hI.out.2.2.2.1
          have h13 := hI.out.2.2.2.2.1
          rw [if_pos (by rfl)]
          go_simp
          go_at_call 32
          refine (KU.out _).mono ?_
          rintro e w2 ⟨rfl, hb1⟩
          exact hK.out _ _ ⟨g12, g13, (put1 (put1 (put1 y 31 (.agg #[.int .i64 p0, .int .i64 p1, .int .i64 p2])) 32 (.agg #[.int .i64 a2_0, .int .i64 a2_1, .int .i64 a2_2])) 33 (.agg #[.int .i64 x0, .int .i64 x1, .int .i64 x2])), ⟨rfl, ((hI.out.2.1.same (s := 31) (v := .agg #[.int .i64 p0, .int .i64 p1, .int .i64 p2]) e2).same (s := 32) (v := .agg #[.int .i64 a2_0, .int .i64 a2_1, .int .i64 a2_2]) e3).upd 4 rfl rfl rfl rfl, ⟨below_step hb.out hb1⟩, ⟨fun h => (h12.out h).below hb1⟩, ⟨fun h => (h13.out h).below hb1⟩, hI.out.2.2.2.2.2.1, hI.out.2.2.2.2.2.2.1, hI.out.2.2.2.2.2.2.2⟩⟩
        · intro LL a wx hI hLk hd K' hK
          obtain ⟨g12, g13, y, hI⟩ := hI
          obtain rfl := hI.out.1
          have hb := hI.out.2.2.1
          obtain ⟨c0, c1, c2⟩ := cells3 S7.out hb.out
          rw [if_pos (by rfl)]
          go_simp
          exact hK.out _ _ ⟨g12, g13, (put1 y 34 (.agg #[.int .i64 a0_0, .int .i64 a0_1, .int .i64 a0_2])), ⟨rfl, hI.out.2.1.upd 5 rfl rfl rfl rfl, hI.out.2.2.1, hI.out.2.2.2.1, hI.out.2.2.2.2.1, hI.out.2.2.2.2.2.1, hI.out.2.2.2.2.2.2.1, hI.out.2.2.2.2.2.2.2⟩⟩
        · intro LL a wx hI hLk hd K' hK
          obtain ⟨g12, g13, y, hI⟩ := hI
          obtain rfl := hI.out.1
          have hb := hI.out.2.2.1
          obtain ⟨c0, c1, c2⟩ := cells3 S8.out hb.out
          rw [if_pos (by rfl)]
          go_simp
          exact hK.out _ _ ⟨g12, g13, (put1 y 35 (.agg #[.int .i64 a1_0, .int .i64 a1_1, .int .i64 a1_2])), ⟨rfl, hI.out.2.1.upd 6 rfl rfl rfl rfl, hI.out.2.2.1, hI.out.2.2.2.1, hI.out.2.2.2.2.1, hI.out.2.2.2.2.2.1, hI.out.2.2.2.2.2.2.1, hI.out.2.2.2.2.2.2.2⟩⟩
        · intro LL a wx hI hLk hd K' hK
          obtain ⟨g12, g13, y, hI⟩ := hI
          obtain rfl := hI.out.1
          have hb := hI.out.2.2.1
          obtain ⟨c0, c1, c2⟩ := cells3 S9.out hb.out
          rw [if_pos (by rfl)]
          go_simp
          exact hK.out _ _ ⟨g12, g13, (put1 y 36 (.agg #[.int .i64 a2_0, .int .i64 a2_1, .int .i64 a2_2])), ⟨rfl, hI.out.2.1.upd 7 rfl rfl rfl rfl, hI.out.2.2.1, hI.out.2.2.2.1, hI.out.2.2.2.2.1, hI.out.2.2.2.2.2.1, hI.out.2.2.2.2.2.2.1, hI.out.2.2.2.2.2.2.2⟩⟩
        · intro LL a wx hI hLk hd K' hK
          obtain ⟨g12, g13, y, hI⟩ := hI
          obtain rfl := hI.out.1
          have e6 := hI.out.2.1.at 6 rfl (hd 6 rfl)
          have e7 := hI.out.2.1.at 7 rfl (hd 7 rfl)
          have hb := hI.out.2.2.1
          have h12 := hI.out.2.2.2.1
          have h13 := hI.out.2.2.2.2.1
          rw [if_pos (by rfl)]
          go_simp
          go_at_call 32
          refine (KR.out _).mono ?_
          rintro e w2 ⟨rfl, hb1⟩
          exact hK.out _ _ ⟨g12, g13, (put1 (put1 (put1 y 35 (.agg #[.int .i64 a1_0, .int .i64 a1_1, .int .i64 a1_2])) 36 (.agg #[.int .i64 a2_0, .int .i64 a2_1, .int .i64 a2_2])) 37 (.agg #[.int .i64 y0, .int .i64 y1, .int .i64 y2])), ⟨rfl, ((hI.out.2.1.same (s := 35) (v := .agg #[.int .i64 a1_0, .int .i64 a1_1, .int .i64 a1_2]) e6).same (s := 36) (v := .agg #[.int .i64 a2_0, .int .i64 a2_1, .int .i64 a2_2]) e7).upd 8 rfl rfl rfl rfl, ⟨below_step hb.out hb1⟩, ⟨fun h => (h12.out h).below hb1⟩, ⟨fun h => (h13.out h).below hb1⟩, hI.out.2.2.2.2.2.1, hI.out.2.2.2.2.2.2.1, hI.out.2.2.2.2.2.2.2⟩⟩
        · intro LL a wx hI hLk hd K' hK
          obtain ⟨g12, g13, y, hI⟩ := hI
          obtain rfl := hI.out.1
          have e5 := hI.out.2.1.at 5 rfl (hd 5 rfl)
          have e8 := hI.out.2.1.at 8 rfl (hd 8 rfl)
          have hb := hI.out.2.2.1
          have h12 := hI.out.2.2.2.1
          have h13 := hI.out.2.2.2.2.1
          rw [if_pos (by rfl)]
          go_simp
          go_at_call 32
          refine (KV.out _).mono ?_
          rintro e w2 ⟨rfl, hb1⟩
          exact hK.out _ _ ⟨g12, g13, (put1 (put1 (put1 y 34 (.agg #[.int .i64 a0_0, .int .i64 a0_1, .int .i64 a0_2])) 37 (.agg #[.int .i64 y0, .int .i64 y1, .int .i64 y2])) 38 (.agg #[.int .i64 z0, .int .i64 z1, .int .i64 z2])), ⟨rfl, ((hI.out.2.1.same (s := 34) (v := .agg #[.int .i64 a0_0, .int .i64 a0_1, .int .i64 a0_2]) e5).same (s := 37) (v := .agg #[.int .i64 y0, .int .i64 y1, .int .i64 y2]) e8).upd 9 rfl rfl rfl rfl, ⟨below_step hb.out hb1⟩, ⟨fun h => (h12.out h).below hb1⟩, ⟨fun h => (h13.out h).below hb1⟩, hI.out.2.2.2.2.2.1, hI.out.2.2.2.2.2.2.1, hI.out.2.2.2.2.2.2.2⟩⟩
        · intro LL a wx hI hLk hd K' hK
          obtain ⟨g12, g13, y, hI⟩ := hI
          obtain rfl := hI.out.1
          have hb := hI.out.2.2.1
          have h13 := hI.out.2.2.2.2.1
          have hz12 := hI.out.2.2.2.2.2.2.1
          rw [if_pos (by rfl)]
          go_simp
          exact hK.out _ _ ⟨wx.heap.size, g13, (put1 y 12 (.pointer (some ⟨wx.heap.size, 0, none⟩))), ⟨rfl, hI.out.2.1.upd 10 rfl rfl rfl rfl, ⟨below_alloc hb.out _⟩, ⟨fun _ => RowAt.new _ _ _ (flag_off hz12.out hLk) hb.out.size⟩, ⟨fun h => (h13.out h).alloc _⟩, ⟨fun _ h => Nat.ne_of_gt ((h13.out h).lt)⟩, ⟨fun _ => rfl⟩, hI.out.2.2.2.2.2.2.2⟩⟩
        · intro LL a wx hI hLk hd K' hK
          obtain ⟨g12, g13, y, hI⟩ := hI
          obtain rfl := hI.out.1
          have hb := hI.out.2.2.1
          have h12 := hI.out.2.2.2.1
          have hz13 := hI.out.2.2.2.2.2.2.2
          rw [if_pos (by rfl)]
          go_simp
          exact hK.out _ _ ⟨g12, wx.heap.size, (put1 y 13 (.pointer (some ⟨wx.heap.size, 0, none⟩))), ⟨rfl, hI.out.2.1.upd 11 rfl rfl rfl rfl, ⟨below_alloc hb.out _⟩, ⟨fun h => (h12.out h).alloc _⟩, ⟨fun _ => RowAt.new _ _ _ (flag_off hz13.out hLk) hb.out.size⟩, ⟨fun h _ => Nat.ne_of_lt ((h12.out h).lt)⟩, hI.out.2.2.2.2.2.2.1, ⟨fun _ => rfl⟩⟩⟩
        · intro LL a wx hI hLk hd K' hK
          obtain ⟨g12, g13, y, hI⟩ := hI
          obtain rfl := hI.out.1
          have e10 := hI.out.2.1.at 10 rfl (hd 10 rfl)
          have e4 := hI.out.2.1.at 4 rfl (hd 4 rfl)
          have hb := hI.out.2.2.1
          have h12 := hI.out.2.2.2.1
          have h13 := hI.out.2.2.2.2.1
          have n12_13 := hI.out.2.2.2.2.2.1
          have r := h12.out (hd 10 rfl)
          obtain ⟨c0, c1, c2⟩ := cells3 (r.void hLk) (Below.refl _ _)
          have fz0 := blk_frozen (r.void hLk) 0
          have fz1 := blk_frozen (r.void hLk) 1
          have fz2 := blk_frozen (r.void hLk) 2
          rw [if_pos (by rfl)]
          go_simp
          exact hK.out _ _ ⟨g12, g13, (put1 (put1 y 12 (.pointer (some ⟨g12, 0, none⟩))) 33 (.agg #[.int .i64 x0, .int .i64 x1, .int .i64 x2])), ⟨rfl, ((hI.out.2.1.same (s := 12) (v := .pointer (some ⟨g12, 0, none⟩)) e10).same (s := 33) (v := .agg #[.int .i64 x0, .int .i64 x1, .int .i64 x2]) e4).none 12 rfl, ⟨below_set (below_set (below_set hb.out r.1) r.1) r.1⟩, ⟨fun _ => ⟨r.1, put3 (r.void hLk)⟩⟩, ⟨fun h => (RowAt.far (RowAt.far (RowAt.far (h13.out h) (p := ⟨g12, 0, none⟩) (n12_13.out (hd 10 rfl) h) _) (p := ⟨g12, 1, none⟩) (n12_13.out (hd 10 rfl) h) _) (p := ⟨g12, 2, none⟩) (n12_13.out (hd 10 rfl) h) _)⟩, hI.out.2.2.2.2.2.1, ⟨fun _ => hd 10 rfl⟩, hI.out.2.2.2.2.2.2.2⟩⟩
        · intro LL a wx hI hLk hd K' hK
          obtain ⟨g12, g13, y, hI⟩ := hI
          obtain rfl := hI.out.1
          have e11 := hI.out.2.1.at 11 rfl (hd 11 rfl)
          have e9 := hI.out.2.1.at 9 rfl (hd 9 rfl)
          have hb := hI.out.2.2.1
          have h12 := hI.out.2.2.2.1
          have h13 := hI.out.2.2.2.2.1
          have n12_13 := hI.out.2.2.2.2.2.1
          have r := h13.out (hd 11 rfl)
          obtain ⟨c0, c1, c2⟩ := cells3 (r.void hLk) (Below.refl _ _)
          have fz0 := blk_frozen (r.void hLk) 0
          have fz1 := blk_frozen (r.void hLk) 1
          have fz2 := blk_frozen (r.void hLk) 2
          rw [if_pos (by rfl)]
          go_simp
          exact hK.out _ _ ⟨g12, g13, (put1 (put1 y 13 (.pointer (some ⟨g13, 0, none⟩))) 38 (.agg #[.int .i64 z0, .int .i64 z1, .int .i64 z2])), ⟨rfl, ((hI.out.2.1.same (s := 13) (v := .pointer (some ⟨g13, 0, none⟩)) e11).same (s := 38) (v := .agg #[.int .i64 z0, .int .i64 z1, .int .i64 z2]) e9).none 13 rfl, ⟨below_set (below_set (below_set hb.out r.1) r.1) r.1⟩, ⟨fun h => (RowAt.far (RowAt.far (RowAt.far (h12.out h) (p := ⟨g13, 0, none⟩) (Ne.symm (n12_13.out h (hd 11 rfl))) _) (p := ⟨g13, 1, none⟩) (Ne.symm (n12_13.out h (hd 11 rfl))) _) (p := ⟨g13, 2, none⟩) (Ne.symm (n12_13.out h (hd 11 rfl))) _)⟩, ⟨fun _ => ⟨r.1, put3 (r.void hLk)⟩⟩, hI.out.2.2.2.2.2.1, hI.out.2.2.2.2.2.2.1, ⟨fun _ => hd 11 rfl⟩⟩⟩
      · intro LL a wx2 hall hI
        obtain ⟨g12, g13, y, hI⟩ := hI
        obtain rfl := hI.out.1
        have hb := hI.out.2.2.1
        have h12 := hI.out.2.2.2.1
        have h13 := hI.out.2.2.2.2.1
        have n12_13 := hI.out.2.2.2.2.2.1
        have hz12 := hI.out.2.2.2.2.2.2.1
        have hz13 := hI.out.2.2.2.2.2.2.2
        have e10 := hI.out.2.1.at 10 rfl (hall 10 (by decide))
        have e11 := hI.out.2.1.at 11 rfl (hall 11 (by decide))
        have HBy := Aside0.mk (hb.out)
        have R12 := Aside0.mk ((h12.out (hall 10 (by decide))).full (hall 12 (by decide)))
        have L12 := Aside0.mk ((h12.out (hall 10 (by decide))).1)
        rw [e10]
        have R13 := Aside0.mk ((h13.out (hall 11 (by decide))).full (hall 13 (by decide)))
        have L13 := Aside0.mk ((h13.out (hall 11 (by decide))).1)
        rw [e11]
        clear hI hb h12 h13 n12_13 hz12 hz13 e10 e11
        have HB2 := Aside0.mk (below_step HB1.out HBy.out)
        have T7 := Aside0.mk (blk_below S7.out HBy.out)
        have T10 := Aside0.mk (blk_below R10.out HBy.out)
        have T11 := Aside0.mk (blk_below R11.out HBy.out)
        clear HB1 HBy S7 S8 S9 R10 R11 HX KM0 KM1 KM2 KP KQ KU KR KV L7 L8 L9 L10 L11 L12 L13
        obtain ⟨rfl, dP⟩ := later_two EP.out EQ.out
        obtain ⟨rfl, dU⟩ := later_three EP.out EU.out ER.out EV.out
        obtain ⟨s0, s1, s2, lS, lZ⟩ := later_self a0_0 a0_1 a0_2
        have KS := Aside0.mk (fun W => lease_Later.calls a0_0 a0_1 a0_2 a0_0 a0_1 a0_2 s0 s1 s2 W lS)
        have KZ := Aside0.mk (fun W => lease_Later.calls a0_0 a0_1 a0_2 0 0 0 s0 s1 s2 W lZ)
        have KE := Aside0.mk (fun e s f W => gazetteerlaw13_LeaseLater_1.calls e s f _ W rfl)
        clear lS lZ EP EQ EU ER EV
        have hu54 := Try.underlying54
        by_cases e1 : p1 = q1 ∧ p2 = q2
        · obtain ⟨rfl, rfl⟩ := e1
          clear dP
          by_cases e2 : x1 = z1 ∧ x2 = z2
          · obtain ⟨rfl, rfl⟩ := e2
            clear dU
            go_wp2_with fail
            refine wp_region_steps 50 rfl rfl (by kernel_rfl) (fun LL a wx => ∃ t : Nat → Value, Aside0 (a = { tmps := List.toArray (.agg #[.int .i64 a0_0, .int .i64 a0_1, .int .i64 a0_2] :: .agg #[.int .i64 a1_0, .int .i64 a1_1, .int .i64 a1_2] :: .agg #[.int .i64 a2_0, .int .i64 a2_1, .int .i64 a2_2] :: .pointer (some ⟨w.heap.size, 0, none⟩) :: .pointer (some ⟨w.heap.size + 1, 0, none⟩) :: .pointer (some ⟨w.heap.size + 1 + 1, 0, none⟩) :: t 6 :: .pointer (some ⟨g7, 0, none⟩) :: .pointer (some ⟨g8, 0, none⟩) :: .pointer (some ⟨g9, 0, none⟩) :: .pointer (some ⟨g10, 0, none⟩) :: .pointer (some ⟨g11, 0, none⟩) :: .pointer (some ⟨g12, 0, none⟩) :: .pointer (some ⟨g13, 0, none⟩) :: .func (.func 42) #[] #[] :: .bool true :: .bool false :: u 17 :: u 18 :: u 19 :: u 20 :: u 21 :: u 22 :: v 23 :: v 24 :: v 25 :: v 26 :: v 27 :: v 28 :: y 29 :: y 30 :: y 31 :: y 32 :: y 33 :: y 34 :: y 35 :: y 36 :: y 37 :: y 38 :: t 39 :: t 40 :: t 41 :: t 42 :: t 43 :: t 44 :: t 45 :: t 46 :: t 47 :: t 48 :: t 49 :: t 50 :: t 51 :: t 52 :: t 53 :: t 54 :: t 55 :: t 56 :: t 57 :: t 58 :: t 59 :: t 60 :: t 61 :: t 62 :: t 63 :: t 64 :: t 65 :: t 66 :: t 67 :: t 68 :: t 69 :: t 70 :: t 71 :: t 72 :: t 73 :: t 74 :: t 75 :: t 76 :: t 77 :: t 78 :: t 79 :: t 80 :: t 81 :: t 82 :: t 83 :: t 84 :: t 85 :: t 86 :: t 87 :: []), defers := [] } ∧ Tab LL t [(0, 39, .pointer (some ⟨g10, 0, none⟩)), (1, 40, .int .i64 p0), (2, 41, .pointer (some ⟨g11, 0, none⟩)), (3, 42, .int .i64 p0), (4, 43, .bool true), (5, 44, .bool true), (6, 45, .agg #[.int .i64 p0, .int .i64 p1, .int .i64 p2]), (7, 46, .agg #[.int .i64 p0, .int .i64 p1, .int .i64 p2]), (8, 47, .bool true), (9, 48, .bool true), (10, 49, undef), (11, 50, undef), (12, 51, undef), (13, 52, undef), (14, 53, undef), (15, 54, undef), (16, 55, undef), (17, 56, .bool true), (18, 57, .bool true), (19, 58, .bool true), (20, 59, .pointer (some ⟨g12, 0, none⟩)), (21, 60, .int .i64 x0), (22, 61, .pointer (some ⟨g13, 0, none⟩)), (23, 62, .int .i64 x0), (24, 63, .bool true), (25, 64, .bool true), (26, 65, .bool true), (27, 66, .agg #[.int .i64 x0, .int .i64 x1, .int .i64 x2]), (28, 67, .agg #[.int .i64 x0, .int .i64 x1, .int .i64 x2]), (29, 68, .bool true), (30, 69, .bool true), (31, 70, undef), (32, 71, undef), (33, 72, undef), (34, 73, undef), (35, 74, undef), (36, 75, undef), (37, 76, undef), (38, 77, .bool true), (39, 78, .bool true), (40, 79, .bool true), (41, 80, .agg #[.int .i64 a0_0, .int .i64 a0_1, .int .i64 a0_2]), (42, 81, .agg #[.int .i64 a0_0, .int .i64 a0_1, .int .i64 a0_2]), (43, 82, .agg #[.int .i64 s0, .int .i64 s1, .int .i64 s2]), (44, 83, .agg #[.int .i64 a0_0, .int .i64 a0_1, .int .i64 a0_2]), (45, 84, .agg #[.int .i64 0, .int .i64 0, .int .i64 0]), (46, 85, .agg #[.int .i64 s0, .int .i64 s1, .int .i64 s2]), (47, 86, .bool true), (48, 87, .bool true), (49, 6, .bool true)] ∧ Aside0 (Below wx2.heap.size wx2 wx))) ?_ ?_ ?_
            · exact ⟨put1 (fun _ => undef) 6 (.bool false), ⟨rfl, Tab.start 50 rfl rfl, ⟨below_drew (Below.refl _ _)⟩⟩⟩
            · refine Steps.cons ?_ (Steps.cons ?_ (Steps.cons ?_ (Steps.cons ?_ (Steps.cons ?_ (Steps.cons ?_ (Steps.cons ?_ (Steps.cons ?_ (Steps.cons ?_ (Steps.cons ?_ (Steps.cons ?_ (Steps.cons ?_ (Steps.cons ?_ (Steps.cons ?_ (Steps.cons ?_ (Steps.cons ?_ (Steps.cons ?_ (Steps.cons ?_ (Steps.cons ?_ (Steps.cons ?_ (Steps.cons ?_ (Steps.cons ?_ (Steps.cons ?_ (Steps.cons ?_ (Steps.cons ?_ (Steps.cons ?_ (Steps.cons ?_ (Steps.cons ?_ (Steps.cons ?_ (Steps.cons ?_ (Steps.cons ?_ (Steps.cons ?_ (Steps.cons ?_ (Steps.cons ?_ (Steps.cons ?_ (Steps.cons ?_ (Steps.cons ?_ (Steps.cons ?_ (Steps.cons ?_ (Steps.cons ?_ (Steps.cons ?_ (Steps.cons ?_ (Steps.cons ?_ (Steps.cons ?_ (Steps.cons ?_ (Steps.cons ?_ (Steps.cons ?_ (Steps.cons ?_ (Steps.cons ?_ (Steps.cons ?_ (Steps.nil))))))))))))))))))))))))))))))))))))))))))))))))))
              · intro LL a wx hI hLk hd K' hK
                obtain ⟨t, hI⟩ := hI
                obtain rfl := hI.out.1
                rw [if_pos (by rfl)]
                go_simp
                exact hK.out _ _ ⟨(put1 t 39 (.pointer (some ⟨g10, 0, none⟩))), ⟨rfl, hI.out.2.1.upd 0 rfl rfl rfl rfl, hI.out.2.2⟩⟩
              · intro LL a wx hI hLk hd K' hK
                obtain ⟨t, hI⟩ := hI
                obtain rfl := hI.out.1
                have e0 := hI.out.2.1.at 0 rfl (hd 0 rfl)
                have hb := hI.out.2.2
                obtain ⟨c0, c1, c2⟩ := cells3 T10.out hb.out
                rw [if_pos (by rfl)]
                go_simp
                exact hK.out _ _ ⟨(put1 (put1 t 39 (.pointer (some ⟨g10, 0, none⟩))) 40 (.int .i64 p0)), ⟨rfl, (hI.out.2.1.same (s := 39) (v := .pointer (some ⟨g10, 0, none⟩)) e0).upd 1 rfl rfl rfl rfl, hI.out.2.2⟩⟩
              · intro LL a wx hI hLk hd K' hK
                obtain ⟨t, hI⟩ := hI
                obtain rfl := hI.out.1
                rw [if_pos (by rfl)]
                go_simp
                exact hK.out _ _ ⟨(put1 t 41 (.pointer (some ⟨g11, 0, none⟩))), ⟨rfl, hI.out.2.1.upd 2 rfl rfl rfl rfl, hI.out.2.2⟩⟩
              · intro LL a wx hI hLk hd K' hK
                obtain ⟨t, hI⟩ := hI
                obtain rfl := hI.out.1
                have e2 := hI.out.2.1.at 2 rfl (hd 2 rfl)
                have hb := hI.out.2.2
                obtain ⟨c0, c1, c2⟩ := cells3 T11.out hb.out
                rw [if_pos (by rfl)]
                go_simp
                exact hK.out _ _ ⟨(put1 (put1 t 41 (.pointer (some ⟨g11, 0, none⟩))) 42 (.int .i64 p0)), ⟨rfl, (hI.out.2.1.same (s := 41) (v := .pointer (some ⟨g11, 0, none⟩)) e2).upd 3 rfl rfl rfl rfl, hI.out.2.2⟩⟩
              · intro LL a wx hI hLk hd K' hK
                obtain ⟨t, hI⟩ := hI
                obtain rfl := hI.out.1
                have e1 := hI.out.2.1.at 1 rfl (hd 1 rfl)
                have e3 := hI.out.2.1.at 3 rfl (hd 3 rfl)
                rw [if_pos (by rfl)]
                go_simp
                exact hK.out _ _ ⟨(put1 (put1 (put1 t 40 (.int .i64 p0)) 42 (.int .i64 p0)) 43 (.bool true)), ⟨rfl, ((hI.out.2.1.same (s := 40) (v := .int .i64 p0) e1).same (s := 42) (v := .int .i64 p0) e3).upd 4 rfl rfl rfl rfl, hI.out.2.2⟩⟩
              · intro LL a wx hI hLk hd K' hK
                obtain ⟨t, hI⟩ := hI
                obtain rfl := hI.out.1
                have e4 := hI.out.2.1.at 4 rfl (hd 4 rfl)
                rw [if_pos (by rfl)]
                go_simp
                exact hK.out _ _ ⟨(put1 (put1 t 43 (.bool true)) 44 (.bool true)), ⟨rfl, (hI.out.2.1.same (s := 43) (v := .bool true) e4).upd 5 rfl rfl rfl rfl, hI.out.2.2⟩⟩
              · intro LL a wx hI hLk hd K' hK
                obtain ⟨t, hI⟩ := hI
                obtain rfl := hI.out.1
                have hb := hI.out.2.2
                obtain ⟨c0, c1, c2⟩ := cells3 T10.out hb.out
                have eg := hI.out.2.1.at 5 rfl (hd 5 rfl)
                rw [eg]
                rw [if_pos (by rfl)]
                go_simp
                exact hK.out _ _ ⟨(put1 (put1 t 44 (.bool true)) 45 (.agg #[.int .i64 p0, .int .i64 p1, .int .i64 p2])), ⟨rfl, (hI.out.2.1.same (s := 44) (v := .bool true) eg).upd 6 rfl rfl rfl rfl, hI.out.2.2⟩⟩
              · intro LL a wx hI hLk hd K' hK
                obtain ⟨t, hI⟩ := hI
                obtain rfl := hI.out.1
                have hb := hI.out.2.2
                obtain ⟨c0, c1, c2⟩ := cells3 T11.out hb.out
                have eg := hI.out.2.1.at 5 rfl (hd 5 rfl)
                rw [eg]
                rw [if_pos (by rfl)]
                go_simp
                exact hK.out _ _ ⟨(put1 (put1 t 44 (.bool true)) 46 (.agg #[.int .i64 p0, .int .i64 p1, .int .i64 p2])), ⟨rfl, (hI.out.2.1.same (s := 44) (v := .bool true) eg).upd 7 rfl rfl rfl rfl, hI.out.2.2⟩⟩
              · intro LL a wx hI hLk hd K' hK
                obtain ⟨t, hI⟩ := hI
                obtain rfl := hI.out.1
                have e6 := hI.out.2.1.at 6 rfl (hd 6 rfl)
                have e7 := hI.out.2.1.at 7 rfl (hd 7 rfl)
                have eg := hI.out.2.1.at 5 rfl (hd 5 rfl)
                rw [eg]
                rw [if_pos (by rfl)]
                go_simp
                exact hK.out _ _ ⟨(put1 (put1 (put1 (put1 t 45 (.agg #[.int .i64 p0, .int .i64 p1, .int .i64 p2])) 46 (.agg #[.int .i64 p0, .int .i64 p1, .int .i64 p2])) 44 (.bool true)) 47 (.bool true)), ⟨rfl, (((hI.out.2.1.same (s := 45) (v := .agg #[.int .i64 p0, .int .i64 p1, .int .i64 p2]) e6).same (s := 46) (v := .agg #[.int .i64 p0, .int .i64 p1, .int .i64 p2]) e7).same (s := 44) (v := .bool true) eg).upd 8 rfl rfl rfl rfl, hI.out.2.2⟩⟩
              · intro LL a wx hI hLk hd K' hK
                obtain ⟨t, hI⟩ := hI
                obtain rfl := hI.out.1
                have e8 := hI.out.2.1.at 8 rfl (hd 8 rfl)
                have eg := hI.out.2.1.at 5 rfl (hd 5 rfl)
                rw [eg]
                rw [if_pos (by rfl)]
                go_simp
                exact hK.out _ _ ⟨(put1 (put1 (put1 t 47 (.bool true)) 44 (.bool true)) 48 (.bool true)), ⟨rfl, ((hI.out.2.1.same (s := 47) (v := .bool true) e8).same (s := 44) (v := .bool true) eg).upd 9 rfl rfl rfl rfl, hI.out.2.2⟩⟩
              · intro LL a wx hI hLk hd K' hK
                obtain ⟨t, hI⟩ := hI
                obtain rfl := hI.out.1
                have eg := hI.out.2.1.at 9 rfl (hd 9 rfl)
                rw [eg]
                refine unwanted (by rfl) ?_
                exact hK.out _ _ ⟨(put1 (put1 t 48 (.bool true)) 49 (undef)), ⟨rfl, (hI.out.2.1.same (s := 48) (v := .bool true) eg).upd 10 rfl rfl rfl rfl, hI.out.2.2⟩⟩
              · intro LL a wx hI hLk hd K' hK
                obtain ⟨t, hI⟩ := hI
                obtain rfl := hI.out.1
                have eg := hI.out.2.1.at 9 rfl (hd 9 rfl)
                rw [eg]
                refine unwanted (by rfl) ?_
                exact hK.out _ _ ⟨(put1 (put1 t 48 (.bool true)) 50 (undef)), ⟨rfl, (hI.out.2.1.same (s := 48) (v := .bool true) eg).upd 11 rfl rfl rfl rfl, hI.out.2.2⟩⟩
              · intro LL a wx hI hLk hd K' hK
                obtain ⟨t, hI⟩ := hI
                obtain rfl := hI.out.1
                have eg := hI.out.2.1.at 9 rfl (hd 9 rfl)
                rw [eg]
                refine unwanted (by rfl) ?_
                exact hK.out _ _ ⟨(put1 (put1 t 48 (.bool true)) 51 (undef)), ⟨rfl, (hI.out.2.1.same (s := 48) (v := .bool true) eg).upd 12 rfl rfl rfl rfl, hI.out.2.2⟩⟩
              · intro LL a wx hI hLk hd K' hK
                obtain ⟨t, hI⟩ := hI
                obtain rfl := hI.out.1
                have eg := hI.out.2.1.at 9 rfl (hd 9 rfl)
                rw [eg]
                refine unwanted (by rfl) ?_
                exact hK.out _ _ ⟨(put1 (put1 t 48 (.bool true)) 52 (undef)), ⟨rfl, (hI.out.2.1.same (s := 48) (v := .bool true) eg).upd 13 rfl rfl rfl rfl, hI.out.2.2⟩⟩
              · intro LL a wx hI hLk hd K' hK
                obtain ⟨t, hI⟩ := hI
                obtain rfl := hI.out.1
                have eg := hI.out.2.1.at 9 rfl (hd 9 rfl)
                rw [eg]
                refine unwanted (by rfl) ?_
                exact hK.out _ _ ⟨(put1 (put1 t 48 (.bool true)) 53 (undef)), ⟨rfl, (hI.out.2.1.same (s := 48) (v := .bool true) eg).upd 14 rfl rfl rfl rfl, hI.out.2.2⟩⟩
              · intro LL a wx hI hLk hd K' hK
                obtain ⟨t, hI⟩ := hI
                obtain rfl := hI.out.1
                have eg := hI.out.2.1.at 9 rfl (hd 9 rfl)
                rw [eg]
                refine unwanted (by rfl) ?_
                exact hK.out _ _ ⟨(put1 (put1 t 48 (.bool true)) 54 (undef)), ⟨rfl, (hI.out.2.1.same (s := 48) (v := .bool true) eg).upd 15 rfl rfl rfl rfl, hI.out.2.2⟩⟩
              · intro LL a wx hI hLk hd K' hK
                obtain ⟨t, hI⟩ := hI
                obtain rfl := hI.out.1
                have eg := hI.out.2.1.at 9 rfl (hd 9 rfl)
                rw [eg]
                refine unwanted (by rfl) ?_
                exact hK.out _ _ ⟨(put1 (put1 t 48 (.bool true)) 55 (undef)), ⟨rfl, (hI.out.2.1.same (s := 48) (v := .bool true) eg).upd 16 rfl rfl rfl rfl, hI.out.2.2⟩⟩
              · intro LL a wx hI hLk hd K' hK
                obtain ⟨t, hI⟩ := hI
                obtain rfl := hI.out.1
                have e9 := hI.out.2.1.at 9 rfl (hd 9 rfl)
                have eg := hI.out.2.1.at 5 rfl (hd 5 rfl)
                rw [eg]
                rw [if_pos (by rfl)]
                go_simp
                exact hK.out _ _ ⟨(put1 (put1 (put1 t 48 (.bool true)) 44 (.bool true)) 56 (.bool true)), ⟨rfl, ((hI.out.2.1.same (s := 48) (v := .bool true) e9).same (s := 44) (v := .bool true) eg).upd 17 rfl rfl rfl rfl, hI.out.2.2⟩⟩
              · intro LL a wx hI hLk hd K' hK
                obtain ⟨t, hI⟩ := hI
                obtain rfl := hI.out.1
                have e5 := hI.out.2.1.at 5 rfl (hd 5 rfl)
                have e17 := hI.out.2.1.at 17 rfl (hd 17 rfl)
                rw [if_pos (by rfl)]
                go_simp
                exact hK.out _ _ ⟨(put1 (put1 (put1 t 44 (.bool true)) 56 (.bool true)) 57 (.bool true)), ⟨rfl, ((hI.out.2.1.same (s := 44) (v := .bool true) e5).same (s := 56) (v := .bool true) e17).upd 18 rfl rfl rfl rfl, hI.out.2.2⟩⟩
              · intro LL a wx hI hLk hd K' hK
                obtain ⟨t, hI⟩ := hI
                obtain rfl := hI.out.1
                have e18 := hI.out.2.1.at 18 rfl (hd 18 rfl)
                rw [if_pos (by rfl)]
                go_simp
                exact hK.out _ _ ⟨(put1 (put1 t 57 (.bool true)) 58 (.bool true)), ⟨rfl, (hI.out.2.1.same (s := 57) (v := .bool true) e18).upd 19 rfl rfl rfl rfl, hI.out.2.2⟩⟩
              · intro LL a wx hI hLk hd K' hK
                obtain ⟨t, hI⟩ := hI
                obtain rfl := hI.out.1
                have eg := hI.out.2.1.at 19 rfl (hd 19 rfl)
                rw [eg]
                rw [if_pos (by rfl)]
                go_simp
                exact hK.out _ _ ⟨(put1 (put1 t 58 (.bool true)) 59 (.pointer (some ⟨g12, 0, none⟩))), ⟨rfl, (hI.out.2.1.same (s := 58) (v := .bool true) eg).upd 20 rfl rfl rfl rfl, hI.out.2.2⟩⟩
              · intro LL a wx hI hLk hd K' hK
                obtain ⟨t, hI⟩ := hI
                obtain rfl := hI.out.1
                have e20 := hI.out.2.1.at 20 rfl (hd 20 rfl)
                have hb := hI.out.2.2
                obtain ⟨c0, c1, c2⟩ := cells3 R12.out hb.out
                have eg := hI.out.2.1.at 19 rfl (hd 19 rfl)
                rw [eg]
                rw [if_pos (by rfl)]
                go_simp
                exact hK.out _ _ ⟨(put1 (put1 (put1 t 59 (.pointer (some ⟨g12, 0, none⟩))) 58 (.bool true)) 60 (.int .i64 x0)), ⟨rfl, ((hI.out.2.1.same (s := 59) (v := .pointer (some ⟨g12, 0, none⟩)) e20).same (s := 58) (v := .bool true) eg).upd 21 rfl rfl rfl rfl, hI.out.2.2⟩⟩
              · intro LL a wx hI hLk hd K' hK
                obtain ⟨t, hI⟩ := hI
                obtain rfl := hI.out.1
                have eg := hI.out.2.1.at 19 rfl (hd 19 rfl)
                rw [eg]
                rw [if_pos (by rfl)]
                go_simp
                exact hK.out _ _ ⟨(put1 (put1 t 58 (.bool true)) 61 (.pointer (some ⟨g13, 0, none⟩))), ⟨rfl, (hI.out.2.1.same (s := 58) (v := .bool true) eg).upd 22 rfl rfl rfl rfl, hI.out.2.2⟩⟩
              · intro LL a wx hI hLk hd K' hK
                obtain ⟨t, hI⟩ := hI
                obtain rfl := hI.out.1
                have e22 := hI.out.2.1.at 22 rfl (hd 22 rfl)
                have hb := hI.out.2.2
                obtain ⟨c0, c1, c2⟩ := cells3 R13.out hb.out
                have eg := hI.out.2.1.at 19 rfl (hd 19 rfl)
                rw [eg]
                rw [if_pos (by rfl)]
                go_simp
                exact hK.out _ _ ⟨(put1 (put1 (put1 t 61 (.pointer (some ⟨g13, 0, none⟩))) 58 (.bool true)) 62 (.int .i64 x0)), ⟨rfl, ((hI.out.2.1.same (s := 61) (v := .pointer (some ⟨g13, 0, none⟩)) e22).same (s := 58) (v := .bool true) eg).upd 23 rfl rfl rfl rfl, hI.out.2.2⟩⟩
              · intro LL a wx hI hLk hd K' hK
                obtain ⟨t, hI⟩ := hI
                obtain rfl := hI.out.1
                have e21 := hI.out.2.1.at 21 rfl (hd 21 rfl)
                have e23 := hI.out.2.1.at 23 rfl (hd 23 rfl)
                have eg := hI.out.2.1.at 19 rfl (hd 19 rfl)
                rw [eg]
                rw [if_pos (by rfl)]
                go_simp
                exact hK.out _ _ ⟨(put1 (put1 (put1 (put1 t 60 (.int .i64 x0)) 62 (.int .i64 x0)) 58 (.bool true)) 63 (.bool true)), ⟨rfl, (((hI.out.2.1.same (s := 60) (v := .int .i64 x0) e21).same (s := 62) (v := .int .i64 x0) e23).same (s := 58) (v := .bool true) eg).upd 24 rfl rfl rfl rfl, hI.out.2.2⟩⟩
              · intro LL a wx hI hLk hd K' hK
                obtain ⟨t, hI⟩ := hI
                obtain rfl := hI.out.1
                have e19 := hI.out.2.1.at 19 rfl (hd 19 rfl)
                have e24 := hI.out.2.1.at 24 rfl (hd 24 rfl)
                rw [if_pos (by rfl)]
                go_simp
                exact hK.out _ _ ⟨(put1 (put1 (put1 t 58 (.bool true)) 63 (.bool true)) 64 (.bool true)), ⟨rfl, ((hI.out.2.1.same (s := 58) (v := .bool true) e19).same (s := 63) (v := .bool true) e24).upd 25 rfl rfl rfl rfl, hI.out.2.2⟩⟩
              · intro LL a wx hI hLk hd K' hK
                obtain ⟨t, hI⟩ := hI
                obtain rfl := hI.out.1
                have e25 := hI.out.2.1.at 25 rfl (hd 25 rfl)
                rw [if_pos (by rfl)]
                go_simp
                exact hK.out _ _ ⟨(put1 (put1 t 64 (.bool true)) 65 (.bool true)), ⟨rfl, (hI.out.2.1.same (s := 64) (v := .bool true) e25).upd 26 rfl rfl rfl rfl, hI.out.2.2⟩⟩
              · intro LL a wx hI hLk hd K' hK
                obtain ⟨t, hI⟩ := hI
                obtain rfl := hI.out.1
                have hb := hI.out.2.2
                obtain ⟨c0, c1, c2⟩ := cells3 R12.out hb.out
                have eg := hI.out.2.1.at 26 rfl (hd 26 rfl)
                rw [eg]
                rw [if_pos (by rfl)]
                go_simp
                exact hK.out _ _ ⟨(put1 (put1 t 65 (.bool true)) 66 (.agg #[.int .i64 x0, .int .i64 x1, .int .i64 x2])), ⟨rfl, (hI.out.2.1.same (s := 65) (v := .bool true) eg).upd 27 rfl rfl rfl rfl, hI.out.2.2⟩⟩
              · intro LL a wx hI hLk hd K' hK
                obtain ⟨t, hI⟩ := hI
                obtain rfl := hI.out.1
                have hb := hI.out.2.2
                obtain ⟨c0, c1, c2⟩ := cells3 R13.out hb.out
                have eg := hI.out.2.1.at 26 rfl (hd 26 rfl)
                rw [eg]
                rw [if_pos (by rfl)]
                go_simp
                exact hK.out _ _ ⟨(put1 (put1 t 65 (.bool true)) 67 (.agg #[.int .i64 x0, .int .i64 x1, .int .i64 x2])), ⟨rfl, (hI.out.2.1.same (s := 65) (v := .bool true) eg).upd 28 rfl rfl rfl rfl, hI.out.2.2⟩⟩
              · intro LL a wx hI hLk hd K' hK
                obtain ⟨t, hI⟩ := hI
                obtain rfl := hI.out.1
                have e27 := hI.out.2.1.at 27 rfl (hd 27 rfl)
                have e28 := hI.out.2.1.at 28 rfl (hd 28 rfl)
                have eg := hI.out.2.1.at 26 rfl (hd 26 rfl)
                rw [eg]
                rw [if_pos (by rfl)]
                go_simp
                exact hK.out _ _ ⟨(put1 (put1 (put1 (put1 t 66 (.agg #[.int .i64 x0, .int .i64 x1, .int .i64 x2])) 67 (.agg #[.int .i64 x0, .int .i64 x1, .int .i64 x2])) 65 (.bool true)) 68 (.bool true)), ⟨rfl, (((hI.out.2.1.same (s := 66) (v := .agg #[.int .i64 x0, .int .i64 x1, .int .i64 x2]) e27).same (s := 67) (v := .agg #[.int .i64 x0, .int .i64 x1, .int .i64 x2]) e28).same (s := 65) (v := .bool true) eg).upd 29 rfl rfl rfl rfl, hI.out.2.2⟩⟩
              · intro LL a wx hI hLk hd K' hK
                obtain ⟨t, hI⟩ := hI
                obtain rfl := hI.out.1
                have e29 := hI.out.2.1.at 29 rfl (hd 29 rfl)
                have eg := hI.out.2.1.at 26 rfl (hd 26 rfl)
                rw [eg]
                rw [if_pos (by rfl)]
                go_simp
                exact hK.out _ _ ⟨(put1 (put1 (put1 t 68 (.bool true)) 65 (.bool true)) 69 (.bool true)), ⟨rfl, ((hI.out.2.1.same (s := 68) (v := .bool true) e29).same (s := 65) (v := .bool true) eg).upd 30 rfl rfl rfl rfl, hI.out.2.2⟩⟩
              · intro LL a wx hI hLk hd K' hK
                obtain ⟨t, hI⟩ := hI
                obtain rfl := hI.out.1
                have eg := hI.out.2.1.at 30 rfl (hd 30 rfl)
                rw [eg]
                refine unwanted (by rfl) ?_
                exact hK.out _ _ ⟨(put1 (put1 t 69 (.bool true)) 70 (undef)), ⟨rfl, (hI.out.2.1.same (s := 69) (v := .bool true) eg).upd 31 rfl rfl rfl rfl, hI.out.2.2⟩⟩
              · intro LL a wx hI hLk hd K' hK
                obtain ⟨t, hI⟩ := hI
                obtain rfl := hI.out.1
                have eg := hI.out.2.1.at 30 rfl (hd 30 rfl)
                rw [eg]
                refine unwanted (by rfl) ?_
                exact hK.out _ _ ⟨(put1 (put1 t 69 (.bool true)) 71 (undef)), ⟨rfl, (hI.out.2.1.same (s := 69) (v := .bool true) eg).upd 32 rfl rfl rfl rfl, hI.out.2.2⟩⟩
              · intro LL a wx hI hLk hd K' hK
                obtain ⟨t, hI⟩ := hI
                obtain rfl := hI.out.1
                have eg := hI.out.2.1.at 30 rfl (hd 30 rfl)
                rw [eg]
                refine unwanted (by rfl) ?_
                exact hK.out _ _ ⟨(put1 (put1 t 69 (.bool true)) 72 (undef)), ⟨rfl, (hI.out.2.1.same (s := 69) (v := .bool true) eg).upd 33 rfl rfl rfl rfl, hI.out.2.2⟩⟩
              · intro LL a wx hI hLk hd K' hK
                obtain ⟨t, hI⟩ := hI
                obtain rfl := hI.out.1
                have eg := hI.out.2.1.at 30 rfl (hd 30 rfl)
                rw [eg]
                refine unwanted (by rfl) ?_
                exact hK.out _ _ ⟨(put1 (put1 t 69 (.bool true)) 73 (undef)), ⟨rfl, (hI.out.2.1.same (s := 69) (v := .bool true) eg).upd 34 rfl rfl rfl rfl, hI.out.2.2⟩⟩
              · intro LL a wx hI hLk hd K' hK
                obtain ⟨t, hI⟩ := hI
                obtain rfl := hI.out.1
                have eg := hI.out.2.1.at 30 rfl (hd 30 rfl)
                rw [eg]
                refine unwanted (by rfl) ?_
                exact hK.out _ _ ⟨(put1 (put1 t 69 (.bool true)) 74 (undef)), ⟨rfl, (hI.out.2.1.same (s := 69) (v := .bool true) eg).upd 35 rfl rfl rfl rfl, hI.out.2.2⟩⟩
              · intro LL a wx hI hLk hd K' hK
                obtain ⟨t, hI⟩ := hI
                obtain rfl := hI.out.1
                have eg := hI.out.2.1.at 30 rfl (hd 30 rfl)
                rw [eg]
                refine unwanted (by rfl) ?_
                exact hK.out _ _ ⟨(put1 (put1 t 69 (.bool true)) 75 (undef)), ⟨rfl, (hI.out.2.1.same (s := 69) (v := .bool true) eg).upd 36 rfl rfl rfl rfl, hI.out.2.2⟩⟩
              · intro LL a wx hI hLk hd K' hK
                obtain ⟨t, hI⟩ := hI
                obtain rfl := hI.out.1
                have eg := hI.out.2.1.at 30 rfl (hd 30 rfl)
                rw [eg]
                refine unwanted (by rfl) ?_
                exact hK.out _ _ ⟨(put1 (put1 t 69 (.bool true)) 76 (undef)), ⟨rfl, (hI.out.2.1.same (s := 69) (v := .bool true) eg).upd 37 rfl rfl rfl rfl, hI.out.2.2⟩⟩
              · intro LL a wx hI hLk hd K' hK
                obtain ⟨t, hI⟩ := hI
                obtain rfl := hI.out.1
                have e30 := hI.out.2.1.at 30 rfl (hd 30 rfl)
                have eg := hI.out.2.1.at 26 rfl (hd 26 rfl)
                rw [eg]
                rw [if_pos (by rfl)]
                go_simp
                exact hK.out _ _ ⟨(put1 (put1 (put1 t 69 (.bool true)) 65 (.bool true)) 77 (.bool true)), ⟨rfl, ((hI.out.2.1.same (s := 69) (v := .bool true) e30).same (s := 65) (v := .bool true) eg).upd 38 rfl rfl rfl rfl, hI.out.2.2⟩⟩
              · intro LL a wx hI hLk hd K' hK
                obtain ⟨t, hI⟩ := hI
                obtain rfl := hI.out.1
                have e26 := hI.out.2.1.at 26 rfl (hd 26 rfl)
                have e38 := hI.out.2.1.at 38 rfl (hd 38 rfl)
                rw [if_pos (by rfl)]
                go_simp
                exact hK.out _ _ ⟨(put1 (put1 (put1 t 65 (.bool true)) 77 (.bool true)) 78 (.bool true)), ⟨rfl, ((hI.out.2.1.same (s := 65) (v := .bool true) e26).same (s := 77) (v := .bool true) e38).upd 39 rfl rfl rfl rfl, hI.out.2.2⟩⟩
              · intro LL a wx hI hLk hd K' hK
                obtain ⟨t, hI⟩ := hI
                obtain rfl := hI.out.1
                have e39 := hI.out.2.1.at 39 rfl (hd 39 rfl)
                rw [if_pos (by rfl)]
                go_simp
                exact hK.out _ _ ⟨(put1 (put1 t 78 (.bool true)) 79 (.bool true)), ⟨rfl, (hI.out.2.1.same (s := 78) (v := .bool true) e39).upd 40 rfl rfl rfl rfl, hI.out.2.2⟩⟩
              · intro LL a wx hI hLk hd K' hK
                obtain ⟨t, hI⟩ := hI
                obtain rfl := hI.out.1
                have hb := hI.out.2.2
                obtain ⟨c0, c1, c2⟩ := cells3 T7.out hb.out
                have eg := hI.out.2.1.at 40 rfl (hd 40 rfl)
                rw [eg]
                rw [if_pos (by rfl)]
                go_simp
                exact hK.out _ _ ⟨(put1 (put1 t 79 (.bool true)) 80 (.agg #[.int .i64 a0_0, .int .i64 a0_1, .int .i64 a0_2])), ⟨rfl, (hI.out.2.1.same (s := 79) (v := .bool true) eg).upd 41 rfl rfl rfl rfl, hI.out.2.2⟩⟩
              · intro LL a wx hI hLk hd K' hK
                obtain ⟨t, hI⟩ := hI
                obtain rfl := hI.out.1
                have hb := hI.out.2.2
                obtain ⟨c0, c1, c2⟩ := cells3 T7.out hb.out
                have eg := hI.out.2.1.at 40 rfl (hd 40 rfl)
                rw [eg]
                rw [if_pos (by rfl)]
                go_simp
                exact hK.out _ _ ⟨(put1 (put1 t 79 (.bool true)) 81 (.agg #[.int .i64 a0_0, .int .i64 a0_1, .int .i64 a0_2])), ⟨rfl, (hI.out.2.1.same (s := 79) (v := .bool true) eg).upd 42 rfl rfl rfl rfl, hI.out.2.2⟩⟩
              · intro LL a wx hI hLk hd K' hK
                obtain ⟨t, hI⟩ := hI
                obtain rfl := hI.out.1
                have e41 := hI.out.2.1.at 41 rfl (hd 41 rfl)
                have e42 := hI.out.2.1.at 42 rfl (hd 42 rfl)
                have hb := hI.out.2.2
                have eg := hI.out.2.1.at 40 rfl (hd 40 rfl)
                rw [eg]
                rw [if_pos (by rfl)]
                go_simp
                go_at_call 32
                refine (KS.out _).mono ?_
                rintro e w2 ⟨rfl, hb1⟩
                exact hK.out _ _ ⟨(put1 (put1 (put1 (put1 t 80 (.agg #[.int .i64 a0_0, .int .i64 a0_1, .int .i64 a0_2])) 81 (.agg #[.int .i64 a0_0, .int .i64 a0_1, .int .i64 a0_2])) 79 (.bool true)) 82 (.agg #[.int .i64 s0, .int .i64 s1, .int .i64 s2])), ⟨rfl, (((hI.out.2.1.same (s := 80) (v := .agg #[.int .i64 a0_0, .int .i64 a0_1, .int .i64 a0_2]) e41).same (s := 81) (v := .agg #[.int .i64 a0_0, .int .i64 a0_1, .int .i64 a0_2]) e42).same (s := 79) (v := .bool true) eg).upd 43 rfl rfl rfl rfl, ⟨below_step hb.out hb1⟩⟩⟩
              · intro LL a wx hI hLk hd K' hK
                obtain ⟨t, hI⟩ := hI
                obtain rfl := hI.out.1
                have hb := hI.out.2.2
                obtain ⟨c0, c1, c2⟩ := cells3 T7.out hb.out
                have eg := hI.out.2.1.at 40 rfl (hd 40 rfl)
                rw [eg]
                rw [if_pos (by rfl)]
                go_simp
                exact hK.out _ _ ⟨(put1 (put1 t 79 (.bool true)) 83 (.agg #[.int .i64 a0_0, .int .i64 a0_1, .int .i64 a0_2])), ⟨rfl, (hI.out.2.1.same (s := 79) (v := .bool true) eg).upd 44 rfl rfl rfl rfl, hI.out.2.2⟩⟩
              · intro LL a wx hI hLk hd K' hK
                obtain ⟨t, hI⟩ := hI
                obtain rfl := hI.out.1
                have eg := hI.out.2.1.at 40 rfl (hd 40 rfl)
                rw [eg]
                rw [if_pos (by rfl)]
                go_simp
                exact hK.out _ _ ⟨(put1 (put1 t 79 (.bool true)) 84 (.agg #[.int .i64 0, .int .i64 0, .int .i64 0])), ⟨rfl, (hI.out.2.1.same (s := 79) (v := .bool true) eg).upd 45 rfl rfl rfl rfl, hI.out.2.2⟩⟩
              · intro LL a wx hI hLk hd K' hK
                obtain ⟨t, hI⟩ := hI
                obtain rfl := hI.out.1
                have e44 := hI.out.2.1.at 44 rfl (hd 44 rfl)
                have e45 := hI.out.2.1.at 45 rfl (hd 45 rfl)
                have hb := hI.out.2.2
                have eg := hI.out.2.1.at 40 rfl (hd 40 rfl)
                rw [eg]
                rw [if_pos (by rfl)]
                go_simp
                go_at_call 32
                refine (KZ.out _).mono ?_
                rintro e w2 ⟨rfl, hb1⟩
                exact hK.out _ _ ⟨(put1 (put1 (put1 (put1 t 83 (.agg #[.int .i64 a0_0, .int .i64 a0_1, .int .i64 a0_2])) 84 (.agg #[.int .i64 0, .int .i64 0, .int .i64 0])) 79 (.bool true)) 85 (.agg #[.int .i64 s0, .int .i64 s1, .int .i64 s2])), ⟨rfl, (((hI.out.2.1.same (s := 83) (v := .agg #[.int .i64 a0_0, .int .i64 a0_1, .int .i64 a0_2]) e44).same (s := 84) (v := .agg #[.int .i64 0, .int .i64 0, .int .i64 0]) e45).same (s := 79) (v := .bool true) eg).upd 46 rfl rfl rfl rfl, ⟨below_step hb.out hb1⟩⟩⟩
              · intro LL a wx hI hLk hd K' hK
                obtain ⟨t, hI⟩ := hI
                obtain rfl := hI.out.1
                have e43 := hI.out.2.1.at 43 rfl (hd 43 rfl)
                have e46 := hI.out.2.1.at 46 rfl (hd 46 rfl)
                have eg := hI.out.2.1.at 40 rfl (hd 40 rfl)
                rw [eg]
                rw [if_pos (by rfl)]
                go_simp
                exact hK.out _ _ ⟨(put1 (put1 (put1 (put1 t 82 (.agg #[.int .i64 s0, .int .i64 s1, .int .i64 s2])) 85 (.agg #[.int .i64 s0, .int .i64 s1, .int .i64 s2])) 79 (.bool true)) 86 (.bool true)), ⟨rfl, (((hI.out.2.1.same (s := 82) (v := .agg #[.int .i64 s0, .int .i64 s1, .int .i64 s2]) e43).same (s := 85) (v := .agg #[.int .i64 s0, .int .i64 s1, .int .i64 s2]) e46).same (s := 79) (v := .bool true) eg).upd 47 rfl rfl rfl rfl, hI.out.2.2⟩⟩
              · intro LL a wx hI hLk hd K' hK
                obtain ⟨t, hI⟩ := hI
                obtain rfl := hI.out.1
                have e40 := hI.out.2.1.at 40 rfl (hd 40 rfl)
                have e47 := hI.out.2.1.at 47 rfl (hd 47 rfl)
                rw [if_pos (by rfl)]
                go_simp
                exact hK.out _ _ ⟨(put1 (put1 (put1 t 79 (.bool true)) 86 (.bool true)) 87 (.bool true)), ⟨rfl, ((hI.out.2.1.same (s := 79) (v := .bool true) e40).same (s := 86) (v := .bool true) e47).upd 48 rfl rfl rfl rfl, hI.out.2.2⟩⟩
              · intro LL a wx hI hLk hd K' hK
                obtain ⟨t, hI⟩ := hI
                obtain rfl := hI.out.1
                have e48 := hI.out.2.1.at 48 rfl (hd 48 rfl)
                rw [if_pos (by rfl)]
                go_simp
                exact hK.out _ _ ⟨(put1 (put1 t 87 (.bool true)) 6 (.bool true)), ⟨rfl, (hI.out.2.1.same (s := 87) (v := .bool true) e48).upd 49 rfl rfl rfl rfl, hI.out.2.2⟩⟩
            · intro LL a wx3 hall hI
              obtain ⟨t, hI⟩ := hI
              obtain rfl := hI.out.1
              have hb := hI.out.2.2
              have e49 := hI.out.2.1.at 49 rfl (hall 49 (by decide))
              rw [e49]
              go_wp2
              go_ret
              exact ⟨rfl, below_step HB2.out hb.out⟩
          · have m2 : wrap64 (z1 + z2) = wrap64 (x1 + x2) := (dU.resolve_left e2).symm
            have b2 : (x1 == z1 && x2 == z2) = false := by rw [Bool.eq_false_iff]; intro h; rw [Bool.and_eq_true, beq_iff_eq, beq_iff_eq] at h; exact e2 h
            clear dU e2
            go_wp2_with fail
            refine wp_region_steps 50 rfl rfl (by kernel_rfl) (fun LL a wx => ∃ t : Nat → Value, Aside0 (a = { tmps := List.toArray (.agg #[.int .i64 a0_0, .int .i64 a0_1, .int .i64 a0_2] :: .agg #[.int .i64 a1_0, .int .i64 a1_1, .int .i64 a1_2] :: .agg #[.int .i64 a2_0, .int .i64 a2_1, .int .i64 a2_2] :: .pointer (some ⟨w.heap.size, 0, none⟩) :: .pointer (some ⟨w.heap.size + 1, 0, none⟩) :: .pointer (some ⟨w.heap.size + 1 + 1, 0, none⟩) :: t 6 :: .pointer (some ⟨g7, 0, none⟩) :: .pointer (some ⟨g8, 0, none⟩) :: .pointer (some ⟨g9, 0, none⟩) :: .pointer (some ⟨g10, 0, none⟩) :: .pointer (some ⟨g11, 0, none⟩) :: .pointer (some ⟨g12, 0, none⟩) :: .pointer (some ⟨g13, 0, none⟩) :: .func (.func 42) #[] #[] :: .bool true :: .bool false :: u 17 :: u 18 :: u 19 :: u 20 :: u 21 :: u 22 :: v 23 :: v 24 :: v 25 :: v 26 :: v 27 :: v 28 :: y 29 :: y 30 :: y 31 :: y 32 :: y 33 :: y 34 :: y 35 :: y 36 :: y 37 :: y 38 :: t 39 :: t 40 :: t 41 :: t 42 :: t 43 :: t 44 :: t 45 :: t 46 :: t 47 :: t 48 :: t 49 :: t 50 :: t 51 :: t 52 :: t 53 :: t 54 :: t 55 :: t 56 :: t 57 :: t 58 :: t 59 :: t 60 :: t 61 :: t 62 :: t 63 :: t 64 :: t 65 :: t 66 :: t 67 :: t 68 :: t 69 :: t 70 :: t 71 :: t 72 :: t 73 :: t 74 :: t 75 :: t 76 :: t 77 :: t 78 :: t 79 :: t 80 :: t 81 :: t 82 :: t 83 :: t 84 :: t 85 :: t 86 :: t 87 :: []), defers := [] } ∧ Tab LL t [(0, 39, .pointer (some ⟨g10, 0, none⟩)), (1, 40, .int .i64 p0), (2, 41, .pointer (some ⟨g11, 0, none⟩)), (3, 42, .int .i64 p0), (4, 43, .bool true), (5, 44, .bool true), (6, 45, .agg #[.int .i64 p0, .int .i64 p1, .int .i64 p2]), (7, 46, .agg #[.int .i64 p0, .int .i64 p1, .int .i64 p2]), (8, 47, .bool true), (9, 48, .bool true), (10, 49, undef), (11, 50, undef), (12, 51, undef), (13, 52, undef), (14, 53, undef), (15, 54, undef), (16, 55, undef), (17, 56, .bool true), (18, 57, .bool true), (19, 58, .bool true), (20, 59, .pointer (some ⟨g12, 0, none⟩)), (21, 60, .int .i64 x0), (22, 61, .pointer (some ⟨g13, 0, none⟩)), (23, 62, .int .i64 x0), (24, 63, .bool true), (25, 64, .bool true), (26, 65, .bool true), (27, 66, .agg #[.int .i64 x0, .int .i64 x1, .int .i64 x2]), (28, 67, .agg #[.int .i64 x0, .int .i64 z1, .int .i64 z2]), (29, 68, .bool false), (30, 69, .bool false), (31, 70, .func (.func 42) #[] #[]), (32, 71, .agg #[.int .i64 x0, .int .i64 x1, .int .i64 x2]), (33, 72, .int .i64 (wrap64 (x1 + x2))), (34, 73, .func (.func 42) #[] #[]), (35, 74, .agg #[.int .i64 x0, .int .i64 z1, .int .i64 z2]), (36, 75, .int .i64 (wrap64 (x1 + x2))), (37, 76, .bool true), (38, 77, .bool true), (39, 78, .bool true), (40, 79, .bool true), (41, 80, .agg #[.int .i64 a0_0, .int .i64 a0_1, .int .i64 a0_2]), (42, 81, .agg #[.int .i64 a0_0, .int .i64 a0_1, .int .i64 a0_2]), (43, 82, .agg #[.int .i64 s0, .int .i64 s1, .int .i64 s2]), (44, 83, .agg #[.int .i64 a0_0, .int .i64 a0_1, .int .i64 a0_2]), (45, 84, .agg #[.int .i64 0, .int .i64 0, .int .i64 0]), (46, 85, .agg #[.int .i64 s0, .int .i64 s1, .int .i64 s2]), (47, 86, .bool true), (48, 87, .bool true), (49, 6, .bool true)] ∧ Aside0 (Below wx2.heap.size wx2 wx))) ?_ ?_ ?_
            · exact ⟨put1 (fun _ => undef) 6 (.bool false), ⟨rfl, Tab.start 50 rfl rfl, ⟨below_drew (Below.refl _ _)⟩⟩⟩
            · refine Steps.cons ?_ (Steps.cons ?_ (Steps.cons ?_ (Steps.cons ?_ (Steps.cons ?_ (Steps.cons ?_ (Steps.cons ?_ (Steps.cons ?_ (Steps.cons ?_ (Steps.cons ?_ (Steps.cons ?_ (Steps.cons ?_ (Steps.cons ?_ (Steps.cons ?_ (Steps.cons ?_ (Steps.cons ?_ (Steps.cons ?_ (Steps.cons ?_ (Steps.cons ?_ (Steps.cons ?_ (Steps.cons ?_ (Steps.cons ?_ (Steps.cons ?_ (Steps.cons ?_ (Steps.cons ?_ (Steps.cons ?_ (Steps.cons ?_ (Steps.cons ?_ (Steps.cons ?_ (Steps.cons ?_ (Steps.cons ?_ (Steps.cons ?_ (Steps.cons ?_ (Steps.cons ?_ (Steps.cons ?_ (Steps.cons ?_ (Steps.cons ?_ (Steps.cons ?_ (Steps.cons ?_ (Steps.cons ?_ (Steps.cons ?_ (Steps.cons ?_ (Steps.cons ?_ (Steps.cons ?_ (Steps.cons ?_ (Steps.cons ?_ (Steps.cons ?_ (Steps.cons ?_ (Steps.cons ?_ (Steps.cons ?_ (Steps.nil))))))))))))))))))))))))))))))))))))))))))))))))))
              · intro LL a wx hI hLk hd K' hK
                obtain ⟨t, hI⟩ := hI
                obtain rfl := hI.out.1
                rw [if_pos (by rfl)]
                go_simp
                exact hK.out _ _ ⟨(put1 t 39 (.pointer (some ⟨g10, 0, none⟩))), ⟨rfl, hI.out.2.1.upd 0 rfl rfl rfl rfl, hI.out.2.2⟩⟩
              · intro LL a wx hI hLk hd K' hK
                obtain ⟨t, hI⟩ := hI
                obtain rfl := hI.out.1
                have e0 := hI.out.2.1.at 0 rfl (hd 0 rfl)
                have hb := hI.out.2.2
                obtain ⟨c0, c1, c2⟩ := cells3 T10.out hb.out
                rw [if_pos (by rfl)]
                go_simp
                exact hK.out _ _ ⟨(put1 (put1 t 39 (.pointer (some ⟨g10, 0, none⟩))) 40 (.int .i64 p0)), ⟨rfl, (hI.out.2.1.same (s := 39) (v := .pointer (some ⟨g10, 0, none⟩)) e0).upd 1 rfl rfl rfl rfl, hI.out.2.2⟩⟩
              · intro LL a wx hI hLk hd K' hK
                obtain ⟨t, hI⟩ := hI
                obtain rfl := hI.out.1
                rw [if_pos (by rfl)]
                go_simp
                exact hK.out _ _ ⟨(put1 t 41 (.pointer (some ⟨g11, 0, none⟩))), ⟨rfl, hI.out.2.1.upd 2 rfl rfl rfl rfl, hI.out.2.2⟩⟩
              · intro LL a wx hI hLk hd K' hK
                obtain ⟨t, hI⟩ := hI
                obtain rfl := hI.out.1
                have e2 := hI.out.2.1.at 2 rfl (hd 2 rfl)
                have hb := hI.out.2.2
                obtain ⟨c0, c1, c2⟩ := cells3 T11.out hb.out
                rw [if_pos (by rfl)]
                go_simp
                exact hK.out _ _ ⟨(put1 (put1 t 41 (.pointer (some ⟨g11, 0, none⟩))) 42 (.int .i64 p0)), ⟨rfl, (hI.out.2.1.same (s := 41) (v := .pointer (some ⟨g11, 0, none⟩)) e2).upd 3 rfl rfl rfl rfl, hI.out.2.2⟩⟩
              · intro LL a wx hI hLk hd K' hK
                obtain ⟨t, hI⟩ := hI
                obtain rfl := hI.out.1
                have e1 := hI.out.2.1.at 1 rfl (hd 1 rfl)
                have e3 := hI.out.2.1.at 3 rfl (hd 3 rfl)
                rw [if_pos (by rfl)]
                go_simp
                exact hK.out _ _ ⟨(put1 (put1 (put1 t 40 (.int .i64 p0)) 42 (.int .i64 p0)) 43 (.bool true)), ⟨rfl, ((hI.out.2.1.same (s := 40) (v := .int .i64 p0) e1).same (s := 42) (v := .int .i64 p0) e3).upd 4 rfl rfl rfl rfl, hI.out.2.2⟩⟩
              · intro LL a wx hI hLk hd K' hK
                obtain ⟨t, hI⟩ := hI
                obtain rfl := hI.out.1
                have e4 := hI.out.2.1.at 4 rfl (hd 4 rfl)
                rw [if_pos (by rfl)]
                go_simp
                exact hK.out _ _ ⟨(put1 (put1 t 43 (.bool true)) 44 (.bool true)), ⟨rfl, (hI.out.2.1.same (s := 43) (v := .bool true) e4).upd 5 rfl rfl rfl rfl, hI.out.2.2⟩⟩
              · intro LL a wx hI hLk hd K' hK
                obtain ⟨t, hI⟩ := hI
                obtain rfl := hI.out.1
                have hb := hI.out.2.2
                obtain ⟨c0, c1, c2⟩ := cells3 T10.out hb.out
                have eg := hI.out.2.1.at 5 rfl (hd 5 rfl)
                rw [eg]
                rw [if_pos (by rfl)]
                go_simp
                exact hK.out _ _ ⟨(put1 (put1 t 44 (.bool true)) 45 (.agg #[.int .i64 p0, .int .i64 p1, .int .i64 p2])), ⟨rfl, (hI.out.2.1.same (s := 44) (v := .bool true) eg).upd 6 rfl rfl rfl rfl, hI.out.2.2⟩⟩
              · intro LL a wx hI hLk hd K' hK
                obtain ⟨t, hI⟩ := hI
                obtain rfl := hI.out.1
                have hb := hI.out.2.2
                obtain ⟨c0, c1, c2⟩ := cells3 T11.out hb.out
                have eg := hI.out.2.1.at 5 rfl (hd 5 rfl)
                rw [eg]
                rw [if_pos (by rfl)]
                go_simp
                exact hK.out _ _ ⟨(put1 (put1 t 44 (.bool true)) 46 (.agg #[.int .i64 p0, .int .i64 p1, .int .i64 p2])), ⟨rfl, (hI.out.2.1.same (s := 44) (v := .bool true) eg).upd 7 rfl rfl rfl rfl, hI.out.2.2⟩⟩
              · intro LL a wx hI hLk hd K' hK
                obtain ⟨t, hI⟩ := hI
                obtain rfl := hI.out.1
                have e6 := hI.out.2.1.at 6 rfl (hd 6 rfl)
                have e7 := hI.out.2.1.at 7 rfl (hd 7 rfl)
                have eg := hI.out.2.1.at 5 rfl (hd 5 rfl)
                rw [eg]
                rw [if_pos (by rfl)]
                go_simp
                exact hK.out _ _ ⟨(put1 (put1 (put1 (put1 t 45 (.agg #[.int .i64 p0, .int .i64 p1, .int .i64 p2])) 46 (.agg #[.int .i64 p0, .int .i64 p1, .int .i64 p2])) 44 (.bool true)) 47 (.bool true)), ⟨rfl, (((hI.out.2.1.same (s := 45) (v := .agg #[.int .i64 p0, .int .i64 p1, .int .i64 p2]) e6).same (s := 46) (v := .agg #[.int .i64 p0, .int .i64 p1, .int .i64 p2]) e7).same (s := 44) (v := .bool true) eg).upd 8 rfl rfl rfl rfl, hI.out.2.2⟩⟩
              · intro LL a wx hI hLk hd K' hK
                obtain ⟨t, hI⟩ := hI
                obtain rfl := hI.out.1
                have e8 := hI.out.2.1.at 8 rfl (hd 8 rfl)
                have eg := hI.out.2.1.at 5 rfl (hd 5 rfl)
                rw [eg]
                rw [if_pos (by rfl)]
                go_simp
                exact hK.out _ _ ⟨(put1 (put1 (put1 t 47 (.bool true)) 44 (.bool true)) 48 (.bool true)), ⟨rfl, ((hI.out.2.1.same (s := 47) (v := .bool true) e8).same (s := 44) (v := .bool true) eg).upd 9 rfl rfl rfl rfl, hI.out.2.2⟩⟩
              · intro LL a wx hI hLk hd K' hK
                obtain ⟨t, hI⟩ := hI
                obtain rfl := hI.out.1
                have eg := hI.out.2.1.at 9 rfl (hd 9 rfl)
                rw [eg]
                refine unwanted (by rfl) ?_
                exact hK.out _ _ ⟨(put1 (put1 t 48 (.bool true)) 49 (undef)), ⟨rfl, (hI.out.2.1.same (s := 48) (v := .bool true) eg).upd 10 rfl rfl rfl rfl, hI.out.2.2⟩⟩
              · intro LL a wx hI hLk hd K' hK
                obtain ⟨t, hI⟩ := hI
                obtain rfl := hI.out.1
                have eg := hI.out.2.1.at 9 rfl (hd 9 rfl)
                rw [eg]
                refine unwanted (by rfl) ?_
                exact hK.out _ _ ⟨(put1 (put1 t 48 (.bool true)) 50 (undef)), ⟨rfl, (hI.out.2.1.same (s := 48) (v := .bool true) eg).upd 11 rfl rfl rfl rfl, hI.out.2.2⟩⟩
              · intro LL a wx hI hLk hd K' hK
                obtain ⟨t, hI⟩ := hI
                obtain rfl := hI.out.1
                have eg := hI.out.2.1.at 9 rfl (hd 9 rfl)
                rw [eg]
                refine unwanted (by rfl) ?_
                exact hK.out _ _ ⟨(put1 (put1 t 48 (.bool true)) 51 (undef)), ⟨rfl, (hI.out.2.1.same (s := 48) (v := .bool true) eg).upd 12 rfl rfl rfl rfl, hI.out.2.2⟩⟩
              · intro LL a wx hI hLk hd K' hK
                obtain ⟨t, hI⟩ := hI
                obtain rfl := hI.out.1
                have eg := hI.out.2.1.at 9 rfl (hd 9 rfl)
                rw [eg]
                refine unwanted (by rfl) ?_
                exact hK.out _ _ ⟨(put1 (put1 t 48 (.bool true)) 52 (undef)), ⟨rfl, (hI.out.2.1.same (s := 48) (v := .bool true) eg).upd 13 rfl rfl rfl rfl, hI.out.2.2⟩⟩
              · intro LL a wx hI hLk hd K' hK
                obtain ⟨t, hI⟩ := hI
                obtain rfl := hI.out.1
                have eg := hI.out.2.1.at 9 rfl (hd 9 rfl)
                rw [eg]
                refine unwanted (by rfl) ?_
                exact hK.out _ _ ⟨(put1 (put1 t 48 (.bool true)) 53 (undef)), ⟨rfl, (hI.out.2.1.same (s := 48) (v := .bool true) eg).upd 14 rfl rfl rfl rfl, hI.out.2.2⟩⟩
              · intro LL a wx hI hLk hd K' hK
                obtain ⟨t, hI⟩ := hI
                obtain rfl := hI.out.1
                have eg := hI.out.2.1.at 9 rfl (hd 9 rfl)
                rw [eg]
                refine unwanted (by rfl) ?_
                exact hK.out _ _ ⟨(put1 (put1 t 48 (.bool true)) 54 (undef)), ⟨rfl, (hI.out.2.1.same (s := 48) (v := .bool true) eg).upd 15 rfl rfl rfl rfl, hI.out.2.2⟩⟩
              · intro LL a wx hI hLk hd K' hK
                obtain ⟨t, hI⟩ := hI
                obtain rfl := hI.out.1
                have eg := hI.out.2.1.at 9 rfl (hd 9 rfl)
                rw [eg]
                refine unwanted (by rfl) ?_
                exact hK.out _ _ ⟨(put1 (put1 t 48 (.bool true)) 55 (undef)), ⟨rfl, (hI.out.2.1.same (s := 48) (v := .bool true) eg).upd 16 rfl rfl rfl rfl, hI.out.2.2⟩⟩
              · intro LL a wx hI hLk hd K' hK
                obtain ⟨t, hI⟩ := hI
                obtain rfl := hI.out.1
                have e9 := hI.out.2.1.at 9 rfl (hd 9 rfl)
                have eg := hI.out.2.1.at 5 rfl (hd 5 rfl)
                rw [eg]
                rw [if_pos (by rfl)]
                go_simp
                exact hK.out _ _ ⟨(put1 (put1 (put1 t 48 (.bool true)) 44 (.bool true)) 56 (.bool true)), ⟨rfl, ((hI.out.2.1.same (s := 48) (v := .bool true) e9).same (s := 44) (v := .bool true) eg).upd 17 rfl rfl rfl rfl, hI.out.2.2⟩⟩
              · intro LL a wx hI hLk hd K' hK
                obtain ⟨t, hI⟩ := hI
                obtain rfl := hI.out.1
                have e5 := hI.out.2.1.at 5 rfl (hd 5 rfl)
                have e17 := hI.out.2.1.at 17 rfl (hd 17 rfl)
                rw [if_pos (by rfl)]
                go_simp
                exact hK.out _ _ ⟨(put1 (put1 (put1 t 44 (.bool true)) 56 (.bool true)) 57 (.bool true)), ⟨rfl, ((hI.out.2.1.same (s := 44) (v := .bool true) e5).same (s := 56) (v := .bool true) e17).upd 18 rfl rfl rfl rfl, hI.out.2.2⟩⟩
              · intro LL a wx hI hLk hd K' hK
                obtain ⟨t, hI⟩ := hI
                obtain rfl := hI.out.1
                have e18 := hI.out.2.1.at 18 rfl (hd 18 rfl)
                rw [if_pos (by rfl)]
                go_simp
                exact hK.out _ _ ⟨(put1 (put1 t 57 (.bool true)) 58 (.bool true)), ⟨rfl, (hI.out.2.1.same (s := 57) (v := .bool true) e18).upd 19 rfl rfl rfl rfl, hI.out.2.2⟩⟩
              · intro LL a wx hI hLk hd K' hK
                obtain ⟨t, hI⟩ := hI
                obtain rfl := hI.out.1
                have eg := hI.out.2.1.at 19 rfl (hd 19 rfl)
                rw [eg]
                rw [if_pos (by rfl)]
                go_simp
                exact hK.out _ _ ⟨(put1 (put1 t 58 (.bool true)) 59 (.pointer (some ⟨g12, 0, none⟩))), ⟨rfl, (hI.out.2.1.same (s := 58) (v := .bool true) eg).upd 20 rfl rfl rfl rfl, hI.out.2.2⟩⟩
              · intro LL a wx hI hLk hd K' hK
                obtain ⟨t, hI⟩ := hI
                obtain rfl := hI.out.1
                have e20 := hI.out.2.1.at 20 rfl (hd 20 rfl)
                have hb := hI.out.2.2
                obtain ⟨c0, c1, c2⟩ := cells3 R12.out hb.out
                have eg := hI.out.2.1.at 19 rfl (hd 19 rfl)
                rw [eg]
                rw [if_pos (by rfl)]
                go_simp
                exact hK.out _ _ ⟨(put1 (put1 (put1 t 59 (.pointer (some ⟨g12, 0, none⟩))) 58 (.bool true)) 60 (.int .i64 x0)), ⟨rfl, ((hI.out.2.1.same (s := 59) (v := .pointer (some ⟨g12, 0, none⟩)) e20).same (s := 58) (v := .bool true) eg).upd 21 rfl rfl rfl rfl, hI.out.2.2⟩⟩
              · intro LL a wx hI hLk hd K' hK
                obtain ⟨t, hI⟩ := hI
                obtain rfl := hI.out.1
                have eg := hI.out.2.1.at 19 rfl (hd 19 rfl)
                rw [eg]
                rw [if_pos (by rfl)]
                go_simp
                exact hK.out _ _ ⟨(put1 (put1 t 58 (.bool true)) 61 (.pointer (some ⟨g13, 0, none⟩))), ⟨rfl, (hI.out.2.1.same (s := 58) (v := .bool true) eg).upd 22 rfl rfl rfl rfl, hI.out.2.2⟩⟩
              · intro LL a wx hI hLk hd K' hK
                obtain ⟨t, hI⟩ := hI
                obtain rfl := hI.out.1
                have e22 := hI.out.2.1.at 22 rfl (hd 22 rfl)
                have hb := hI.out.2.2
                obtain ⟨c0, c1, c2⟩ := cells3 R13.out hb.out
                have eg := hI.out.2.1.at 19 rfl (hd 19 rfl)
                rw [eg]
                rw [if_pos (by rfl)]
                go_simp
                exact hK.out _ _ ⟨(put1 (put1 (put1 t 61 (.pointer (some ⟨g13, 0, none⟩))) 58 (.bool true)) 62 (.int .i64 x0)), ⟨rfl, ((hI.out.2.1.same (s := 61) (v := .pointer (some ⟨g13, 0, none⟩)) e22).same (s := 58) (v := .bool true) eg).upd 23 rfl rfl rfl rfl, hI.out.2.2⟩⟩
              · intro LL a wx hI hLk hd K' hK
                obtain ⟨t, hI⟩ := hI
                obtain rfl := hI.out.1
                have e21 := hI.out.2.1.at 21 rfl (hd 21 rfl)
                have e23 := hI.out.2.1.at 23 rfl (hd 23 rfl)
                have eg := hI.out.2.1.at 19 rfl (hd 19 rfl)
                rw [eg]
                rw [if_pos (by rfl)]
                go_simp
                exact hK.out _ _ ⟨(put1 (put1 (put1 (put1 t 60 (.int .i64 x0)) 62 (.int .i64 x0)) 58 (.bool true)) 63 (.bool true)), ⟨rfl, (((hI.out.2.1.same (s := 60) (v := .int .i64 x0) e21).same (s := 62) (v := .int .i64 x0) e23).same (s := 58) (v := .bool true) eg).upd 24 rfl rfl rfl rfl, hI.out.2.2⟩⟩
              · intro LL a wx hI hLk hd K' hK
                obtain ⟨t, hI⟩ := hI
                obtain rfl := hI.out.1
                have e19 := hI.out.2.1.at 19 rfl (hd 19 rfl)
                have e24 := hI.out.2.1.at 24 rfl (hd 24 rfl)
                rw [if_pos (by rfl)]
                go_simp
                exact hK.out _ _ ⟨(put1 (put1 (put1 t 58 (.bool true)) 63 (.bool true)) 64 (.bool true)), ⟨rfl, ((hI.out.2.1.same (s := 58) (v := .bool true) e19).same (s := 63) (v := .bool true) e24).upd 25 rfl rfl rfl rfl, hI.out.2.2⟩⟩
              · intro LL a wx hI hLk hd K' hK
                obtain ⟨t, hI⟩ := hI
                obtain rfl := hI.out.1
                have e25 := hI.out.2.1.at 25 rfl (hd 25 rfl)
                rw [if_pos (by rfl)]
                go_simp
                exact hK.out _ _ ⟨(put1 (put1 t 64 (.bool true)) 65 (.bool true)), ⟨rfl, (hI.out.2.1.same (s := 64) (v := .bool true) e25).upd 26 rfl rfl rfl rfl, hI.out.2.2⟩⟩
              · intro LL a wx hI hLk hd K' hK
                obtain ⟨t, hI⟩ := hI
                obtain rfl := hI.out.1
                have hb := hI.out.2.2
                obtain ⟨c0, c1, c2⟩ := cells3 R12.out hb.out
                have eg := hI.out.2.1.at 26 rfl (hd 26 rfl)
                rw [eg]
                rw [if_pos (by rfl)]
                go_simp
                exact hK.out _ _ ⟨(put1 (put1 t 65 (.bool true)) 66 (.agg #[.int .i64 x0, .int .i64 x1, .int .i64 x2])), ⟨rfl, (hI.out.2.1.same (s := 65) (v := .bool true) eg).upd 27 rfl rfl rfl rfl, hI.out.2.2⟩⟩
              · intro LL a wx hI hLk hd K' hK
                obtain ⟨t, hI⟩ := hI
                obtain rfl := hI.out.1
                have hb := hI.out.2.2
                obtain ⟨c0, c1, c2⟩ := cells3 R13.out hb.out
                have eg := hI.out.2.1.at 26 rfl (hd 26 rfl)
                rw [eg]
                rw [if_pos (by rfl)]
                go_simp
                exact hK.out _ _ ⟨(put1 (put1 t 65 (.bool true)) 67 (.agg #[.int .i64 x0, .int .i64 z1, .int .i64 z2])), ⟨rfl, (hI.out.2.1.same (s := 65) (v := .bool true) eg).upd 28 rfl rfl rfl rfl, hI.out.2.2⟩⟩
              · intro LL a wx hI hLk hd K' hK
                obtain ⟨t, hI⟩ := hI
                obtain rfl := hI.out.1
                have e27 := hI.out.2.1.at 27 rfl (hd 27 rfl)
                have e28 := hI.out.2.1.at 28 rfl (hd 28 rfl)
                have eg := hI.out.2.1.at 26 rfl (hd 26 rfl)
                rw [eg]
                rw [if_pos (by rfl)]
                go_simp
                exact hK.out _ _ ⟨(put1 (put1 (put1 (put1 t 66 (.agg #[.int .i64 x0, .int .i64 x1, .int .i64 x2])) 67 (.agg #[.int .i64 x0, .int .i64 z1, .int .i64 z2])) 65 (.bool true)) 68 (.bool false)), ⟨rfl, (((hI.out.2.1.same (s := 66) (v := .agg #[.int .i64 x0, .int .i64 x1, .int .i64 x2]) e27).same (s := 67) (v := .agg #[.int .i64 x0, .int .i64 z1, .int .i64 z2]) e28).same (s := 65) (v := .bool true) eg).upd 29 rfl rfl rfl rfl, hI.out.2.2⟩⟩
              · intro LL a wx hI hLk hd K' hK
                obtain ⟨t, hI⟩ := hI
                obtain rfl := hI.out.1
                have e29 := hI.out.2.1.at 29 rfl (hd 29 rfl)
                have eg := hI.out.2.1.at 26 rfl (hd 26 rfl)
                rw [eg]
                rw [if_pos (by rfl)]
                go_simp
                exact hK.out _ _ ⟨(put1 (put1 (put1 t 68 (.bool false)) 65 (.bool true)) 69 (.bool false)), ⟨rfl, ((hI.out.2.1.same (s := 68) (v := .bool false) e29).same (s := 65) (v := .bool true) eg).upd 30 rfl rfl rfl rfl, hI.out.2.2⟩⟩
              · intro LL a wx hI hLk hd K' hK
                obtain ⟨t, hI⟩ := hI
                obtain rfl := hI.out.1
                have eg := hI.out.2.1.at 30 rfl (hd 30 rfl)
                rw [eg]
                rw [if_pos (by rfl)]
                go_simp
                exact hK.out _ _ ⟨(put1 (put1 t 69 (.bool false)) 70 (.func (.func 42) #[] #[])), ⟨rfl, (hI.out.2.1.same (s := 69) (v := .bool false) eg).upd 31 rfl rfl rfl rfl, hI.out.2.2⟩⟩
              · intro LL a wx hI hLk hd K' hK
                obtain ⟨t, hI⟩ := hI
                obtain rfl := hI.out.1
                have hb := hI.out.2.2
                obtain ⟨c0, c1, c2⟩ := cells3 R12.out hb.out
                have eg := hI.out.2.1.at 30 rfl (hd 30 rfl)
                rw [eg]
                rw [if_pos (by rfl)]
                go_simp
                exact hK.out _ _ ⟨(put1 (put1 t 69 (.bool false)) 71 (.agg #[.int .i64 x0, .int .i64 x1, .int .i64 x2])), ⟨rfl, (hI.out.2.1.same (s := 69) (v := .bool false) eg).upd 32 rfl rfl rfl rfl, hI.out.2.2⟩⟩
              · intro LL a wx hI hLk hd K' hK
                obtain ⟨t, hI⟩ := hI
                obtain rfl := hI.out.1
                have e31 := hI.out.2.1.at 31 rfl (hd 31 rfl)
                have e32 := hI.out.2.1.at 32 rfl (hd 32 rfl)
                have hb := hI.out.2.2
                have eg := hI.out.2.1.at 30 rfl (hd 30 rfl)
                rw [eg]
                rw [if_pos (by rfl)]
                go_simp
                go_at_call 42
                refine (KE.out _ _ _ _).mono ?_
                rintro e w2 ⟨rfl, hb1⟩
                exact hK.out _ _ ⟨(put1 (put1 (put1 (put1 t 70 (.func (.func 42) #[] #[])) 71 (.agg #[.int .i64 x0, .int .i64 x1, .int .i64 x2])) 69 (.bool false)) 72 (.int .i64 (wrap64 (x1 + x2)))), ⟨rfl, (((hI.out.2.1.same (s := 70) (v := .func (.func 42) #[] #[]) e31).same (s := 71) (v := .agg #[.int .i64 x0, .int .i64 x1, .int .i64 x2]) e32).same (s := 69) (v := .bool false) eg).upd 33 rfl rfl rfl rfl, ⟨below_step hb.out hb1⟩⟩⟩
              · intro LL a wx hI hLk hd K' hK
                obtain ⟨t, hI⟩ := hI
                obtain rfl := hI.out.1
                have eg := hI.out.2.1.at 30 rfl (hd 30 rfl)
                rw [eg]
                rw [if_pos (by rfl)]
                go_simp
                exact hK.out _ _ ⟨(put1 (put1 t 69 (.bool false)) 73 (.func (.func 42) #[] #[])), ⟨rfl, (hI.out.2.1.same (s := 69) (v := .bool false) eg).upd 34 rfl rfl rfl rfl, hI.out.2.2⟩⟩
              · intro LL a wx hI hLk hd K' hK
                obtain ⟨t, hI⟩ := hI
                obtain rfl := hI.out.1
                have hb := hI.out.2.2
                obtain ⟨c0, c1, c2⟩ := cells3 R13.out hb.out
                have eg := hI.out.2.1.at 30 rfl (hd 30 rfl)
                rw [eg]
                rw [if_pos (by rfl)]
                go_simp
                exact hK.out _ _ ⟨(put1 (put1 t 69 (.bool false)) 74 (.agg #[.int .i64 x0, .int .i64 z1, .int .i64 z2])), ⟨rfl, (hI.out.2.1.same (s := 69) (v := .bool false) eg).upd 35 rfl rfl rfl rfl, hI.out.2.2⟩⟩
              · intro LL a wx hI hLk hd K' hK
                obtain ⟨t, hI⟩ := hI
                obtain rfl := hI.out.1
                have e34 := hI.out.2.1.at 34 rfl (hd 34 rfl)
                have e35 := hI.out.2.1.at 35 rfl (hd 35 rfl)
                have hb := hI.out.2.2
                have eg := hI.out.2.1.at 30 rfl (hd 30 rfl)
                rw [eg]
                rw [if_pos (by rfl)]
                go_simp
                go_at_call 42
                refine (KE.out _ _ _ _).mono ?_
                rintro e w2 ⟨rfl, hb1⟩
                rw [m2]
                exact hK.out _ _ ⟨(put1 (put1 (put1 (put1 t 73 (.func (.func 42) #[] #[])) 74 (.agg #[.int .i64 x0, .int .i64 z1, .int .i64 z2])) 69 (.bool false)) 75 (.int .i64 (wrap64 (x1 + x2)))), ⟨rfl, (((hI.out.2.1.same (s := 73) (v := .func (.func 42) #[] #[]) e34).same (s := 74) (v := .agg #[.int .i64 x0, .int .i64 z1, .int .i64 z2]) e35).same (s := 69) (v := .bool false) eg).upd 36 rfl rfl rfl rfl, ⟨below_step hb.out hb1⟩⟩⟩
              · intro LL a wx hI hLk hd K' hK
                obtain ⟨t, hI⟩ := hI
                obtain rfl := hI.out.1
                have e33 := hI.out.2.1.at 33 rfl (hd 33 rfl)
                have e36 := hI.out.2.1.at 36 rfl (hd 36 rfl)
                have eg := hI.out.2.1.at 30 rfl (hd 30 rfl)
                rw [eg]
                rw [if_pos (by rfl)]
                go_simp
                exact hK.out _ _ ⟨(put1 (put1 (put1 (put1 t 72 (.int .i64 (wrap64 (x1 + x2)))) 75 (.int .i64 (wrap64 (x1 + x2)))) 69 (.bool false)) 76 (.bool true)), ⟨rfl, (((hI.out.2.1.same (s := 72) (v := .int .i64 (wrap64 (x1 + x2))) e33).same (s := 75) (v := .int .i64 (wrap64 (x1 + x2))) e36).same (s := 69) (v := .bool false) eg).upd 37 rfl rfl rfl rfl, hI.out.2.2⟩⟩
              · intro LL a wx hI hLk hd K' hK
                obtain ⟨t, hI⟩ := hI
                obtain rfl := hI.out.1
                have e30 := hI.out.2.1.at 30 rfl (hd 30 rfl)
                have e37 := hI.out.2.1.at 37 rfl (hd 37 rfl)
                have eg := hI.out.2.1.at 26 rfl (hd 26 rfl)
                rw [eg]
                rw [if_pos (by rfl)]
                go_simp
                exact hK.out _ _ ⟨(put1 (put1 (put1 (put1 t 69 (.bool false)) 76 (.bool true)) 65 (.bool true)) 77 (.bool true)), ⟨rfl, (((hI.out.2.1.same (s := 69) (v := .bool false) e30).same (s := 76) (v := .bool true) e37).same (s := 65) (v := .bool true) eg).upd 38 rfl rfl rfl rfl, hI.out.2.2⟩⟩
              · intro LL a wx hI hLk hd K' hK
                obtain ⟨t, hI⟩ := hI
                obtain rfl := hI.out.1
                have e26 := hI.out.2.1.at 26 rfl (hd 26 rfl)
                have e38 := hI.out.2.1.at 38 rfl (hd 38 rfl)
                rw [if_pos (by rfl)]
                go_simp
                exact hK.out _ _ ⟨(put1 (put1 (put1 t 65 (.bool true)) 77 (.bool true)) 78 (.bool true)), ⟨rfl, ((hI.out.2.1.same (s := 65) (v := .bool true) e26).same (s := 77) (v := .bool true) e38).upd 39 rfl rfl rfl rfl, hI.out.2.2⟩⟩
              · intro LL a wx hI hLk hd K' hK
                obtain ⟨t, hI⟩ := hI
                obtain rfl := hI.out.1
                have e39 := hI.out.2.1.at 39 rfl (hd 39 rfl)
                rw [if_pos (by rfl)]
                go_simp
                exact hK.out _ _ ⟨(put1 (put1 t 78 (.bool true)) 79 (.bool true)), ⟨rfl, (hI.out.2.1.same (s := 78) (v := .bool true) e39).upd 40 rfl rfl rfl rfl, hI.out.2.2⟩⟩
              · intro LL a wx hI hLk hd K' hK
                obtain ⟨t, hI⟩ := hI
                obtain rfl := hI.out.1
                have hb := hI.out.2.2
                obtain ⟨c0, c1, c2⟩ := cells3 T7.out hb.out
                have eg := hI.out.2.1.at 40 rfl (hd 40 rfl)
                rw [eg]
                rw [if_pos (by rfl)]
                go_simp
                exact hK.out _ _ ⟨(put1 (put1 t 79 (.bool true)) 80 (.agg #[.int .i64 a0_0, .int .i64 a0_1, .int .i64 a0_2])), ⟨rfl, (hI.out.2.1.same (s := 79) (v := .bool true) eg).upd 41 rfl rfl rfl rfl, hI.out.2.2⟩⟩
              · intro LL a wx hI hLk hd K' hK
                obtain ⟨t, hI⟩ := hI
                obtain rfl := hI.out.1
                have hb := hI.out.2.2
                obtain ⟨c0, c1, c2⟩ := cells3 T7.out hb.out
                have eg := hI.out.2.1.at 40 rfl (hd 40 rfl)
                rw [eg]
                rw [if_pos (by rfl)]
                go_simp
                exact hK.out _ _ ⟨(put1 (put1 t 79 (.bool true)) 81 (.agg #[.int .i64 a0_0, .int .i64 a0_1, .int .i64 a0_2])), ⟨rfl, (hI.out.2.1.same (s := 79) (v := .bool true) eg).upd 42 rfl rfl rfl rfl, hI.out.2.2⟩⟩
              · intro LL a wx hI hLk hd K' hK
                obtain ⟨t, hI⟩ := hI
                obtain rfl := hI.out.1
                have e41 := hI.out.2.1.at 41 rfl (hd 41 rfl)
                have e42 := hI.out.2.1.at 42 rfl (hd 42 rfl)
                have hb := hI.out.2.2
                have eg := hI.out.2.1.at 40 rfl (hd 40 rfl)
                rw [eg]
                rw [if_pos (by rfl)]
                go_simp
                go_at_call 32
                refine (KS.out _).mono ?_
                rintro e w2 ⟨rfl, hb1⟩
                exact hK.out _ _ ⟨(put1 (put1 (put1 (put1 t 80 (.agg #[.int .i64 a0_0, .int .i64 a0_1, .int .i64 a0_2])) 81 (.agg #[.int .i64 a0_0, .int .i64 a0_1, .int .i64 a0_2])) 79 (.bool true)) 82 (.agg #[.int .i64 s0, .int .i64 s1, .int .i64 s2])), ⟨rfl, (((hI.out.2.1.same (s := 80) (v := .agg #[.int .i64 a0_0, .int .i64 a0_1, .int .i64 a0_2]) e41).same (s := 81) (v := .agg #[.int .i64 a0_0, .int .i64 a0_1, .int .i64 a0_2]) e42).same (s := 79) (v := .bool true) eg).upd 43 rfl rfl rfl rfl, ⟨below_step hb.out hb1⟩⟩⟩
              · intro LL a wx hI hLk hd K' hK
                obtain ⟨t, hI⟩ := hI
                obtain rfl := hI.out.1
                have hb := hI.out.2.2
                obtain ⟨c0, c1, c2⟩ := cells3 T7.out hb.out
                have eg := hI.out.2.1.at 40 rfl (hd 40 rfl)
                rw [eg]
                rw [if_pos (by rfl)]
                go_simp
                exact hK.out _ _ ⟨(put1 (put1 t 79 (.bool true)) 83 (.agg #[.int .i64 a0_0, .int .i64 a0_1, .int .i64 a0_2])), ⟨rfl, (hI.out.2.1.same (s := 79) (v := .bool true) eg).upd 44 rfl rfl rfl rfl, hI.out.2.2⟩⟩
              · intro LL a wx hI hLk hd K' hK
                obtain ⟨t, hI⟩ := hI
                obtain rfl := hI.out.1
                have eg := hI.out.2.1.at 40 rfl (hd 40 rfl)
                rw [eg]
                rw [if_pos (by rfl)]
                go_simp
                exact hK.out _ _ ⟨(put1 (put1 t 79 (.bool true)) 84 (.agg #[.int .i64 0, .int .i64 0, .int .i64 0])), ⟨rfl, (hI.out.2.1.same (s := 79) (v := .bool true) eg).upd 45 rfl rfl rfl rfl, hI.out.2.2⟩⟩
              · intro LL a wx hI hLk hd K' hK
                obtain ⟨t, hI⟩ := hI
                obtain rfl := hI.out.1
                have e44 := hI.out.2.1.at 44 rfl (hd 44 rfl)
                have e45 := hI.out.2.1.at 45 rfl (hd 45 rfl)
                have hb := hI.out.2.2
                have eg := hI.out.2.1.at 40 rfl (hd 40 rfl)
                rw [eg]
                rw [if_pos (by rfl)]
                go_simp
                go_at_call 32
                refine (KZ.out _).mono ?_
                rintro e w2 ⟨rfl, hb1⟩
                exact hK.out _ _ ⟨(put1 (put1 (put1 (put1 t 83 (.agg #[.int .i64 a0_0, .int .i64 a0_1, .int .i64 a0_2])) 84 (.agg #[.int .i64 0, .int .i64 0, .int .i64 0])) 79 (.bool true)) 85 (.agg #[.int .i64 s0, .int .i64 s1, .int .i64 s2])), ⟨rfl, (((hI.out.2.1.same (s := 83) (v := .agg #[.int .i64 a0_0, .int .i64 a0_1, .int .i64 a0_2]) e44).same (s := 84) (v := .agg #[.int .i64 0, .int .i64 0, .int .i64 0]) e45).same (s := 79) (v := .bool true) eg).upd 46 rfl rfl rfl rfl, ⟨below_step hb.out hb1⟩⟩⟩
              · intro LL a wx hI hLk hd K' hK
                obtain ⟨t, hI⟩ := hI
                obtain rfl := hI.out.1
                have e43 := hI.out.2.1.at 43 rfl (hd 43 rfl)
                have e46 := hI.out.2.1.at 46 rfl (hd 46 rfl)
                have eg := hI.out.2.1.at 40 rfl (hd 40 rfl)
                rw [eg]
                rw [if_pos (by rfl)]
                go_simp
                exact hK.out _ _ ⟨(put1 (put1 (put1 (put1 t 82 (.agg #[.int .i64 s0, .int .i64 s1, .int .i64 s2])) 85 (.agg #[.int .i64 s0, .int .i64 s1, .int .i64 s2])) 79 (.bool true)) 86 (.bool true)), ⟨rfl, (((hI.out.2.1.same (s := 82) (v := .agg #[.int .i64 s0, .int .i64 s1, .int .i64 s2]) e43).same (s := 85) (v := .agg #[.int .i64 s0, .int .i64 s1, .int .i64 s2]) e46).same (s := 79) (v := .bool true) eg).upd 47 rfl rfl rfl rfl, hI.out.2.2⟩⟩
              · intro LL a wx hI hLk hd K' hK
                obtain ⟨t, hI⟩ := hI
                obtain rfl := hI.out.1
                have e40 := hI.out.2.1.at 40 rfl (hd 40 rfl)
                have e47 := hI.out.2.1.at 47 rfl (hd 47 rfl)
                rw [if_pos (by rfl)]
                go_simp
                exact hK.out _ _ ⟨(put1 (put1 (put1 t 79 (.bool true)) 86 (.bool true)) 87 (.bool true)), ⟨rfl, ((hI.out.2.1.same (s := 79) (v := .bool true) e40).same (s := 86) (v := .bool true) e47).upd 48 rfl rfl rfl rfl, hI.out.2.2⟩⟩
              · intro LL a wx hI hLk hd K' hK
                obtain ⟨t, hI⟩ := hI
                obtain rfl := hI.out.1
                have e48 := hI.out.2.1.at 48 rfl (hd 48 rfl)
                rw [if_pos (by rfl)]
                go_simp
                exact hK.out _ _ ⟨(put1 (put1 t 87 (.bool true)) 6 (.bool true)), ⟨rfl, (hI.out.2.1.same (s := 87) (v := .bool true) e48).upd 49 rfl rfl rfl rfl, hI.out.2.2⟩⟩
            · intro LL a wx3 hall hI
              obtain ⟨t, hI⟩ := hI
              obtain rfl := hI.out.1
              have hb := hI.out.2.2
              have e49 := hI.out.2.1.at 49 rfl (hall 49 (by decide))
              rw [e49]
              go_wp2
              go_ret
              exact ⟨rfl, below_step HB2.out hb.out⟩
        · have m1 : wrap64 (q1 + q2) = wrap64 (p1 + p2) := (dP.resolve_left e1).symm
          have b1 : (p1 == q1 && p2 == q2) = false := by rw [Bool.eq_false_iff]; intro h; rw [Bool.and_eq_true, beq_iff_eq, beq_iff_eq] at h; exact e1 h
          clear dP e1
          by_cases e2 : x1 = z1 ∧ x2 = z2
          · obtain ⟨rfl, rfl⟩ := e2
            clear dU
            go_wp2_with fail
            refine wp_region_steps 50 rfl rfl (by kernel_rfl) (fun LL a wx => ∃ t : Nat → Value, Aside0 (a = { tmps := List.toArray (.agg #[.int .i64 a0_0, .int .i64 a0_1, .int .i64 a0_2] :: .agg #[.int .i64 a1_0, .int .i64 a1_1, .int .i64 a1_2] :: .agg #[.int .i64 a2_0, .int .i64 a2_1, .int .i64 a2_2] :: .pointer (some ⟨w.heap.size, 0, none⟩) :: .pointer (some ⟨w.heap.size + 1, 0, none⟩) :: .pointer (some ⟨w.heap.size + 1 + 1, 0, none⟩) :: t 6 :: .pointer (some ⟨g7, 0, none⟩) :: .pointer (some ⟨g8, 0, none⟩) :: .pointer (some ⟨g9, 0, none⟩) :: .pointer (some ⟨g10, 0, none⟩) :: .pointer (some ⟨g11, 0, none⟩) :: .pointer (some ⟨g12, 0, none⟩) :: .pointer (some ⟨g13, 0, none⟩) :: .func (.func 42) #[] #[] :: .bool true :: .bool false :: u 17 :: u 18 :: u 19 :: u 20 :: u 21 :: u 22 :: v 23 :: v 24 :: v 25 :: v 26 :: v 27 :: v 28 :: y 29 :: y 30 :: y 31 :: y 32 :: y 33 :: y 34 :: y 35 :: y 36 :: y 37 :: y 38 :: t 39 :: t 40 :: t 41 :: t 42 :: t 43 :: t 44 :: t 45 :: t 46 :: t 47 :: t 48 :: t 49 :: t 50 :: t 51 :: t 52 :: t 53 :: t 54 :: t 55 :: t 56 :: t 57 :: t 58 :: t 59 :: t 60 :: t 61 :: t 62 :: t 63 :: t 64 :: t 65 :: t 66 :: t 67 :: t 68 :: t 69 :: t 70 :: t 71 :: t 72 :: t 73 :: t 74 :: t 75 :: t 76 :: t 77 :: t 78 :: t 79 :: t 80 :: t 81 :: t 82 :: t 83 :: t 84 :: t 85 :: t 86 :: t 87 :: []), defers := [] } ∧ Tab LL t [(0, 39, .pointer (some ⟨g10, 0, none⟩)), (1, 40, .int .i64 p0), (2, 41, .pointer (some ⟨g11, 0, none⟩)), (3, 42, .int .i64 p0), (4, 43, .bool true), (5, 44, .bool true), (6, 45, .agg #[.int .i64 p0, .int .i64 p1, .int .i64 p2]), (7, 46, .agg #[.int .i64 p0, .int .i64 q1, .int .i64 q2]), (8, 47, .bool false), (9, 48, .bool false), (10, 49, .func (.func 42) #[] #[]), (11, 50, .agg #[.int .i64 p0, .int .i64 p1, .int .i64 p2]), (12, 51, .int .i64 (wrap64 (p1 + p2))), (13, 52, .func (.func 42) #[] #[]), (14, 53, .agg #[.int .i64 p0, .int .i64 q1, .int .i64 q2]), (15, 54, .int .i64 (wrap64 (p1 + p2))), (16, 55, .bool true), (17, 56, .bool true), (18, 57, .bool true), (19, 58, .bool true), (20, 59, .pointer (some ⟨g12, 0, none⟩)), (21, 60, .int .i64 x0), (22, 61, .pointer (some ⟨g13, 0, none⟩)), (23, 62, .int .i64 x0), (24, 63, .bool true), (25, 64, .bool true), (26, 65, .bool true), (27, 66, .agg #[.int .i64 x0, .int .i64 x1, .int .i64 x2]), (28, 67, .agg #[.int .i64 x0, .int .i64 x1, .int .i64 x2]), (29, 68, .bool true), (30, 69, .bool true), (31, 70, undef), (32, 71, undef), (33, 72, undef), (34, 73, undef), (35, 74, undef), (36, 75, undef), (37, 76, undef), (38, 77, .bool true), (39, 78, .bool true), (40, 79, .bool true), (41, 80, .agg #[.int .i64 a0_0, .int .i64 a0_1, .int .i64 a0_2]), (42, 81, .agg #[.int .i64 a0_0, .int .i64 a0_1, .int .i64 a0_2]), (43, 82, .agg #[.int .i64 s0, .int .i64 s1, .int .i64 s2]), (44, 83, .agg #[.int .i64 a0_0, .int .i64 a0_1, .int .i64 a0_2]), (45, 84, .agg #[.int .i64 0, .int .i64 0, .int .i64 0]), (46, 85, .agg #[.int .i64 s0, .int .i64 s1, .int .i64 s2]), (47, 86, .bool true), (48, 87, .bool true), (49, 6, .bool true)] ∧ Aside0 (Below wx2.heap.size wx2 wx))) ?_ ?_ ?_
            · exact ⟨put1 (fun _ => undef) 6 (.bool false), ⟨rfl, Tab.start 50 rfl rfl, ⟨below_drew (Below.refl _ _)⟩⟩⟩
            · refine Steps.cons ?_ (Steps.cons ?_ (Steps.cons ?_ (Steps.cons ?_ (Steps.cons ?_ (Steps.cons ?_ (Steps.cons ?_ (Steps.cons ?_ (Steps.cons ?_ (Steps.cons ?_ (Steps.cons ?_ (Steps.cons ?_ (Steps.cons ?_ (Steps.cons ?_ (Steps.cons ?_ (Steps.cons ?_ (Steps.cons ?_ (Steps.cons ?_ (Steps.cons ?_ (Steps.cons ?_ (Steps.cons ?_ (Steps.cons ?_ (Steps.cons ?_ (Steps.cons ?_ (Steps.cons ?_ (Steps.cons ?_ (Steps.cons ?_ (Steps.cons ?_ (Steps.cons ?_ (Steps.cons ?_ (Steps.cons ?_ (Steps.cons ?_ (Steps.cons ?_ (Steps.cons ?_ (Steps.cons ?_ (Steps.cons ?_ (Steps.cons ?_ (Steps.cons ?_ (Steps.cons ?_ (Steps.cons ?_ (Steps.cons ?_ (Steps.cons ?_ (Steps.cons ?_ (Steps.cons ?_ (Steps.cons ?_ (Steps.cons ?_ (Steps.cons ?_ (Steps.cons ?_ (Steps.cons ?_ (Steps.cons ?_ (Steps.nil))))))))))))))))))))))))))))))))))))))))))))))))))
              · intro LL a wx hI hLk hd K' hK
                obtain ⟨t, hI⟩ := hI
                obtain rfl := hI.out.1
                rw [if_pos (by rfl)]
                go_simp
                exact hK.out _ _ ⟨(put1 t 39 (.pointer (some ⟨g10, 0, none⟩))), ⟨rfl, hI.out.2.1.upd 0 rfl rfl rfl rfl, hI.out.2.2⟩⟩
              · intro LL a wx hI hLk hd K' hK
                obtain ⟨t, hI⟩ := hI
                obtain rfl := hI.out.1
                have e0 := hI.out.2.1.at 0 rfl (hd 0 rfl)
                have hb := hI.out.2.2
                obtain ⟨c0, c1, c2⟩ := cells3 T10.out hb.out
                rw [if_pos (by rfl)]
                go_simp
                exact hK.out _ _ ⟨(put1 (put1 t 39 (.pointer (some ⟨g10, 0, none⟩))) 40 (.int .i64 p0)), ⟨rfl, (hI.out.2.1.same (s := 39) (v := .pointer (some ⟨g10, 0, none⟩)) e0).upd 1 rfl rfl rfl rfl, hI.out.2.2⟩⟩
              · intro LL a wx hI hLk hd K' hK
                obtain ⟨t, hI⟩ := hI
                obtain rfl := hI.out.1
                rw [if_pos (by rfl)]
                go_simp
                exact hK.out _ _ ⟨(put1 t 41 (.pointer (some ⟨g11, 0, none⟩))), ⟨rfl, hI.out.2.1.upd 2 rfl rfl rfl rfl, hI.out.2.2⟩⟩
              · intro LL a wx hI hLk hd K' hK
                obtain ⟨t, hI⟩ := hI
                obtain rfl := hI.out.1
                have e2 := hI.out.2.1.at 2 rfl (hd 2 rfl)
                have hb := hI.out.2.2
                obtain ⟨c0, c1, c2⟩ := cells3 T11.out hb.out
                rw [if_pos (by rfl)]
                go_simp
                exact hK.out _ _ ⟨(put1 (put1 t 41 (.pointer (some ⟨g11, 0, none⟩))) 42 (.int .i64 p0)), ⟨rfl, (hI.out.2.1.same (s := 41) (v := .pointer (some ⟨g11, 0, none⟩)) e2).upd 3 rfl rfl rfl rfl, hI.out.2.2⟩⟩
              · intro LL a wx hI hLk hd K' hK
                obtain ⟨t, hI⟩ := hI
                obtain rfl := hI.out.1
                have e1 := hI.out.2.1.at 1 rfl (hd 1 rfl)
                have e3 := hI.out.2.1.at 3 rfl (hd 3 rfl)
                rw [if_pos (by rfl)]
                go_simp
                exact hK.out _ _ ⟨(put1 (put1 (put1 t 40 (.int .i64 p0)) 42 (.int .i64 p0)) 43 (.bool true)), ⟨rfl, ((hI.out.2.1.same (s := 40) (v := .int .i64 p0) e1).same (s := 42) (v := .int .i64 p0) e3).upd 4 rfl rfl rfl rfl, hI.out.2.2⟩⟩
              · intro LL a wx hI hLk hd K' hK
                obtain ⟨t, hI⟩ := hI
                obtain rfl := hI.out.1
                have e4 := hI.out.2.1.at 4 rfl (hd 4 rfl)
                rw [if_pos (by rfl)]
                go_simp
                exact hK.out _ _ ⟨(put1 (put1 t 43 (.bool true)) 44 (.bool true)), ⟨rfl, (hI.out.2.1.same (s := 43) (v := .bool true) e4).upd 5 rfl rfl rfl rfl, hI.out.2.2⟩⟩
              · intro LL a wx hI hLk hd K' hK
                obtain ⟨t, hI⟩ := hI
                obtain rfl := hI.out.1
                have hb := hI.out.2.2
                obtain ⟨c0, c1, c2⟩ := cells3 T10.out hb.out
                have eg := hI.out.2.1.at 5 rfl (hd 5 rfl)
                rw [eg]
                rw [if_pos (by rfl)]
                go_simp
                exact hK.out _ _ ⟨(put1 (put1 t 44 (.bool true)) 45 (.agg #[.int .i64 p0, .int .i64 p1, .int .i64 p2])), ⟨rfl, (hI.out.2.1.same (s := 44) (v := .bool true) eg).upd 6 rfl rfl rfl rfl, hI.out.2.2⟩⟩
              · intro LL a wx hI hLk hd K' hK
                obtain ⟨t, hI⟩ := hI
                obtain rfl := hI.out.1
                have hb := hI.out.2.2
                obtain ⟨c0, c1, c2⟩ := cells3 T11.out hb.out
                have eg := hI.out.2.1.at 5 rfl (hd 5 rfl)
                rw [eg]
                rw [if_pos (by rfl)]
                go_simp
                exact hK.out _ _ ⟨(put1 (put1 t 44 (.bool true)) 46 (.agg #[.int .i64 p0, .int .i64 q1, .int .i64 q2])), ⟨rfl, (hI.out.2.1.same (s := 44) (v := .bool true) eg).upd 7 rfl rfl rfl rfl, hI.out.2.2⟩⟩
              · intro LL a wx hI hLk hd K' hK
                obtain ⟨t, hI⟩ := hI
                obtain rfl := hI.out.1
                have e6 := hI.out.2.1.at 6 rfl (hd 6 rfl)
                have e7 := hI.out.2.1.at 7 rfl (hd 7 rfl)
                have eg := hI.out.2.1.at 5 rfl (hd 5 rfl)
                rw [eg]
                rw [if_pos (by rfl)]
                go_simp
                exact hK.out _ _ ⟨(put1 (put1 (put1 (put1 t 45 (.agg #[.int .i64 p0, .int .i64 p1, .int .i64 p2])) 46 (.agg #[.int .i64 p0, .int .i64 q1, .int .i64 q2])) 44 (.bool true)) 47 (.bool false)), ⟨rfl, (((hI.out.2.1.same (s := 45) (v := .agg #[.int .i64 p0, .int .i64 p1, .int .i64 p2]) e6).same (s := 46) (v := .agg #[.int .i64 p0, .int .i64 q1, .int .i64 q2]) e7).same (s := 44) (v := .bool true) eg).upd 8 rfl rfl rfl rfl, hI.out.2.2⟩⟩
              · intro LL a wx hI hLk hd K' hK
                obtain ⟨t, hI⟩ := hI
                obtain rfl := hI.out.1
                have e8 := hI.out.2.1.at 8 rfl (hd 8 rfl)
                have eg := hI.out.2.1.at 5 rfl (hd 5 rfl)
                rw [eg]
                rw [if_pos (by rfl)]
                go_simp
                exact hK.out _ _ ⟨(put1 (put1 (put1 t 47 (.bool false)) 44 (.bool true)) 48 (.bool false)), ⟨rfl, ((hI.out.2.1.same (s := 47) (v := .bool false) e8).same (s := 44) (v := .bool true) eg).upd 9 rfl rfl rfl rfl, hI.out.2.2⟩⟩
              · intro LL a wx hI hLk hd K' hK
                obtain ⟨t, hI⟩ := hI
                obtain rfl := hI.out.1
                have eg := hI.out.2.1.at 9 rfl (hd 9 rfl)
                rw [eg]
                rw [if_pos (by rfl)]
                go_simp
                exact hK.out _ _ ⟨(put1 (put1 t 48 (.bool false)) 49 (.func (.func 42) #[] #[])), ⟨rfl, (hI.out.2.1.same (s := 48) (v := .bool false) eg).upd 10 rfl rfl rfl rfl, hI.out.2.2⟩⟩
              · intro LL a wx hI hLk hd K' hK
                obtain ⟨t, hI⟩ := hI
                obtain rfl := hI.out.1
                have hb := hI.out.2.2
                obtain ⟨c0, c1, c2⟩ := cells3 T10.out hb.out
                have eg := hI.out.2.1.at 9 rfl (hd 9 rfl)
                rw [eg]
                rw [if_pos (by rfl)]
                go_simp
                exact hK.out _ _ ⟨(put1 (put1 t 48 (.bool false)) 50 (.agg #[.int .i64 p0, .int .i64 p1, .int .i64 p2])), ⟨rfl, (hI.out.2.1.same (s := 48) (v := .bool false) eg).upd 11 rfl rfl rfl rfl, hI.out.2.2⟩⟩
              · intro LL a wx hI hLk hd K' hK
                obtain ⟨t, hI⟩ := hI
                obtain rfl := hI.out.1
                have e10 := hI.out.2.1.at 10 rfl (hd 10 rfl)
                have e11 := hI.out.2.1.at 11 rfl (hd 11 rfl)
                have hb := hI.out.2.2
                have eg := hI.out.2.1.at 9 rfl (hd 9 rfl)
                rw [eg]
                rw [if_pos (by rfl)]
                go_simp
                go_at_call 42
                refine (KE.out _ _ _ _).mono ?_
                rintro e w2 ⟨rfl, hb1⟩
                exact hK.out _ _ ⟨(put1 (put1 (put1 (put1 t 49 (.func (.func 42) #[] #[])) 50 (.agg #[.int .i64 p0, .int .i64 p1, .int .i64 p2])) 48 (.bool false)) 51 (.int .i64 (wrap64 (p1 + p2)))), ⟨rfl, (((hI.out.2.1.same (s := 49) (v := .func (.func 42) #[] #[]) e10).same (s := 50) (v := .agg #[.int .i64 p0, .int .i64 p1, .int .i64 p2]) e11).same (s := 48) (v := .bool false) eg).upd 12 rfl rfl rfl rfl, ⟨below_step hb.out hb1⟩⟩⟩
              · intro LL a wx hI hLk hd K' hK
                obtain ⟨t, hI⟩ := hI
                obtain rfl := hI.out.1
                have eg := hI.out.2.1.at 9 rfl (hd 9 rfl)
                rw [eg]
                rw [if_pos (by rfl)]
                go_simp
                exact hK.out _ _ ⟨(put1 (put1 t 48 (.bool false)) 52 (.func (.func 42) #[] #[])), ⟨rfl, (hI.out.2.1.same (s := 48) (v := .bool false) eg).upd 13 rfl rfl rfl rfl, hI.out.2.2⟩⟩
              · intro LL a wx hI hLk hd K' hK
                obtain ⟨t, hI⟩ := hI
                obtain rfl := hI.out.1
                have hb := hI.out.2.2
                obtain ⟨c0, c1, c2⟩ := cells3 T11.out hb.out
                have eg := hI.out.2.1.at 9 rfl (hd 9 rfl)
                rw [eg]
                rw [if_pos (by rfl)]
                go_simp
                exact hK.out _ _ ⟨(put1 (put1 t 48 (.bool false)) 53 (.agg #[.int .i64 p0, .int .i64 q1, .int .i64 q2])), ⟨rfl, (hI.out.2.1.same (s := 48) (v := .bool false) eg).upd 14 rfl rfl rfl rfl, hI.out.2.2⟩⟩
              · intro LL a wx hI hLk hd K' hK
                obtain ⟨t, hI⟩ := hI
                obtain rfl := hI.out.1
                have e13 := hI.out.2.1.at 13 rfl (hd 13 rfl)
                have e14 := hI.out.2.1.at 14 rfl (hd 14 rfl)
                have hb := hI.out.2.2
                have eg := hI.out.2.1.at 9 rfl (hd 9 rfl)
                rw [eg]
                rw [if_pos (by rfl)]
                go_simp
                go_at_call 42
                refine (KE.out _ _ _ _).mono ?_
                rintro e w2 ⟨rfl, hb1⟩
                rw [m1]
                exact hK.out _ _ ⟨(put1 (put1 (put1 (put1 t 52 (.func (.func 42) #[] #[])) 53 (.agg #[.int .i64 p0, .int .i64 q1, .int .i64 q2])) 48 (.bool false)) 54 (.int .i64 (wrap64 (p1 + p2)))), ⟨rfl, (((hI.out.2.1.same (s := 52) (v := .func (.func 42) #[] #[]) e13).same (s := 53) (v := .agg #[.int .i64 p0, .int .i64 q1, .int .i64 q2]) e14).same (s := 48) (v := .bool false) eg).upd 15 rfl rfl rfl rfl, ⟨below_step hb.out hb1⟩⟩⟩
              · intro LL a wx hI hLk hd K' hK
                obtain ⟨t, hI⟩ := hI
                obtain rfl := hI.out.1
                have e12 := hI.out.2.1.at 12 rfl (hd 12 rfl)
                have e15 := hI.out.2.1.at 15 rfl (hd 15 rfl)
                have eg := hI.out.2.1.at 9 rfl (hd 9 rfl)
                rw [eg]
                rw [if_pos (by rfl)]
                go_simp
                exact hK.out _ _ ⟨(put1 (put1 (put1 (put1 t 51 (.int .i64 (wrap64 (p1 + p2)))) 54 (.int .i64 (wrap64 (p1 + p2)))) 48 (.bool false)) 55 (.bool true)), ⟨rfl, (((hI.out.2.1.same (s := 51) (v := .int .i64 (wrap64 (p1 + p2))) e12).same (s := 54) (v := .int .i64 (wrap64 (p1 + p2))) e15).same (s := 48) (v := .bool false) eg).upd 16 rfl rfl rfl rfl, hI.out.2.2⟩⟩
              · intro LL a wx hI hLk hd K' hK
                obtain ⟨t, hI⟩ := hI
                obtain rfl := hI.out.1
                have e9 := hI.out.2.1.at 9 rfl (hd 9 rfl)
                have e16 := hI.out.2.1.at 16 rfl (hd 16 rfl)
                have eg := hI.out.2.1.at 5 rfl (hd 5 rfl)
                rw [eg]
                rw [if_pos (by rfl)]
                go_simp
                exact hK.out _ _ ⟨(put1 (put1 (put1 (put1 t 48 (.bool false)) 55 (.bool true)) 44 (.bool true)) 56 (.bool true)), ⟨rfl, (((hI.out.2.1.same (s := 48) (v := .bool false) e9).same (s := 55) (v := .bool true) e16).same (s := 44) (v := .bool true) eg).upd 17 rfl rfl rfl rfl, hI.out.2.2⟩⟩
              · intro LL a wx hI hLk hd K' hK
                obtain ⟨t, hI⟩ := hI
                obtain rfl := hI.out.1
                have e5 := hI.out.2.1.at 5 rfl (hd 5 rfl)
                have e17 := hI.out.2.1.at 17 rfl (hd 17 rfl)
                rw [if_pos (by rfl)]
                go_simp
                exact hK.out _ _ ⟨(put1 (put1 (put1 t 44 (.bool true)) 56 (.bool true)) 57 (.bool true)), ⟨rfl, ((hI.out.2.1.same (s := 44) (v := .bool true) e5).same (s := 56) (v := .bool true) e17).upd 18 rfl rfl rfl rfl, hI.out.2.2⟩⟩
              · intro LL a wx hI hLk hd K' hK
                obtain ⟨t, hI⟩ := hI
                obtain rfl := hI.out.1
                have e18 := hI.out.2.1.at 18 rfl (hd 18 rfl)
                rw [if_pos (by rfl)]
                go_simp
                exact hK.out _ _ ⟨(put1 (put1 t 57 (.bool true)) 58 (.bool true)), ⟨rfl, (hI.out.2.1.same (s := 57) (v := .bool true) e18).upd 19 rfl rfl rfl rfl, hI.out.2.2⟩⟩
              · intro LL a wx hI hLk hd K' hK
                obtain ⟨t, hI⟩ := hI
                obtain rfl := hI.out.1
                have eg := hI.out.2.1.at 19 rfl (hd 19 rfl)
                rw [eg]
                rw [if_pos (by rfl)]
                go_simp
                exact hK.out _ _ ⟨(put1 (put1 t 58 (.bool true)) 59 (.pointer (some ⟨g12, 0, none⟩))), ⟨rfl, (hI.out.2.1.same (s := 58) (v := .bool true) eg).upd 20 rfl rfl rfl rfl, hI.out.2.2⟩⟩
              · intro LL a wx hI hLk hd K' hK
                obtain ⟨t, hI⟩ := hI
                obtain rfl := hI.out.1
                have e20 := hI.out.2.1.at 20 rfl (hd 20 rfl)
                have hb := hI.out.2.2
                obtain ⟨c0, c1, c2⟩ := cells3 R12.out hb.out
                have eg := hI.out.2.1.at 19 rfl (hd 19 rfl)
                rw [eg]
                rw [if_pos (by rfl)]
                go_simp
                exact hK.out _ _ ⟨(put1 (put1 (put1 t 59 (.pointer (some ⟨g12, 0, none⟩))) 58 (.bool true)) 60 (.int .i64 x0)), ⟨rfl, ((hI.out.2.1.same (s := 59) (v := .pointer (some ⟨g12, 0, none⟩)) e20).same (s := 58) (v := .bool true) eg).upd 21 rfl rfl rfl rfl, hI.out.2.2⟩⟩
              · intro LL a wx hI hLk hd K' hK
                obtain ⟨t, hI⟩ := hI
                obtain rfl := hI.out.1
                have eg := hI.out.2.1.at 19 rfl (hd 19 rfl)
                rw [eg]
                rw [if_pos (by rfl)]
                go_simp
                exact hK.out _ _ ⟨(put1 (put1 t 58 (.bool true)) 61 (.pointer (some ⟨g13, 0, none⟩))), ⟨rfl, (hI.out.2.1.same (s := 58) (v := .bool true) eg).upd 22 rfl rfl rfl rfl, hI.out.2.2⟩⟩
              · intro LL a wx hI hLk hd K' hK
                obtain ⟨t, hI⟩ := hI
                obtain rfl := hI.out.1
                have e22 := hI.out.2.1.at 22 rfl (hd 22 rfl)
                have hb := hI.out.2.2
                obtain ⟨c0, c1, c2⟩ := cells3 R13.out hb.out
                have eg := hI.out.2.1.at 19 rfl (hd 19 rfl)
                rw [eg]
                rw [if_pos (by rfl)]
                go_simp
                exact hK.out _ _ ⟨(put1 (put1 (put1 t 61 (.pointer (some ⟨g13, 0, none⟩))) 58 (.bool true)) 62 (.int .i64 x0)), ⟨rfl, ((hI.out.2.1.same (s := 61) (v := .pointer (some ⟨g13, 0, none⟩)) e22).same (s := 58) (v := .bool true) eg).upd 23 rfl rfl rfl rfl, hI.out.2.2⟩⟩
              · intro LL a wx hI hLk hd K' hK
                obtain ⟨t, hI⟩ := hI
                obtain rfl := hI.out.1
                have e21 := hI.out.2.1.at 21 rfl (hd 21 rfl)
                have e23 := hI.out.2.1.at 23 rfl (hd 23 rfl)
                have eg := hI.out.2.1.at 19 rfl (hd 19 rfl)
                rw [eg]
                rw [if_pos (by rfl)]
                go_simp
                exact hK.out _ _ ⟨(put1 (put1 (put1 (put1 t 60 (.int .i64 x0)) 62 (.int .i64 x0)) 58 (.bool true)) 63 (.bool true)), ⟨rfl, (((hI.out.2.1.same (s := 60) (v := .int .i64 x0) e21).same (s := 62) (v := .int .i64 x0) e23).same (s := 58) (v := .bool true) eg).upd 24 rfl rfl rfl rfl, hI.out.2.2⟩⟩
              · intro LL a wx hI hLk hd K' hK
                obtain ⟨t, hI⟩ := hI
                obtain rfl := hI.out.1
                have e19 := hI.out.2.1.at 19 rfl (hd 19 rfl)
                have e24 := hI.out.2.1.at 24 rfl (hd 24 rfl)
                rw [if_pos (by rfl)]
                go_simp
                exact hK.out _ _ ⟨(put1 (put1 (put1 t 58 (.bool true)) 63 (.bool true)) 64 (.bool true)), ⟨rfl, ((hI.out.2.1.same (s := 58) (v := .bool true) e19).same (s := 63) (v := .bool true) e24).upd 25 rfl rfl rfl rfl, hI.out.2.2⟩⟩
              · intro LL a wx hI hLk hd K' hK
                obtain ⟨t, hI⟩ := hI
                obtain rfl := hI.out.1
                have e25 := hI.out.2.1.at 25 rfl (hd 25 rfl)
                rw [if_pos (by rfl)]
                go_simp
                exact hK.out _ _ ⟨(put1 (put1 t 64 (.bool true)) 65 (.bool true)), ⟨rfl, (hI.out.2.1.same (s := 64) (v := .bool true) e25).upd 26 rfl rfl rfl rfl, hI.out.2.2⟩⟩
              · intro LL a wx hI hLk hd K' hK
                obtain ⟨t, hI⟩ := hI
                obtain rfl := hI.out.1
                have hb := hI.out.2.2
                obtain ⟨c0, c1, c2⟩ := cells3 R12.out hb.out
                have eg := hI.out.2.1.at 26 rfl (hd 26 rfl)
                rw [eg]
                rw [if_pos (by rfl)]
                go_simp
                exact hK.out _ _ ⟨(put1 (put1 t 65 (.bool true)) 66 (.agg #[.int .i64 x0, .int .i64 x1, .int .i64 x2])), ⟨rfl, (hI.out.2.1.same (s := 65) (v := .bool true) eg).upd 27 rfl rfl rfl rfl, hI.out.2.2⟩⟩
              · intro LL a wx hI hLk hd K' hK
                obtain ⟨t, hI⟩ := hI
                obtain rfl := hI.out.1
                have hb := hI.out.2.2
                obtain ⟨c0, c1, c2⟩ := cells3 R13.out hb.out
                have eg := hI.out.2.1.at 26 rfl (hd 26 rfl)
                rw [eg]
                rw [if_pos (by rfl)]
                go_simp
                exact hK.out _ _ ⟨(put1 (put1 t 65 (.bool true)) 67 (.agg #[.int .i64 x0, .int .i64 x1, .int .i64 x2])), ⟨rfl, (hI.out.2.1.same (s := 65) (v := .bool true) eg).upd 28 rfl rfl rfl rfl, hI.out.2.2⟩⟩
              · intro LL a wx hI hLk hd K' hK
                obtain ⟨t, hI⟩ := hI
                obtain rfl := hI.out.1
                have e27 := hI.out.2.1.at 27 rfl (hd 27 rfl)
                have e28 := hI.out.2.1.at 28 rfl (hd 28 rfl)
                have eg := hI.out.2.1.at 26 rfl (hd 26 rfl)
                rw [eg]
                rw [if_pos (by rfl)]
                go_simp
                exact hK.out _ _ ⟨(put1 (put1 (put1 (put1 t 66 (.agg #[.int .i64 x0, .int .i64 x1, .int .i64 x2])) 67 (.agg #[.int .i64 x0, .int .i64 x1, .int .i64 x2])) 65 (.bool true)) 68 (.bool true)), ⟨rfl, (((hI.out.2.1.same (s := 66) (v := .agg #[.int .i64 x0, .int .i64 x1, .int .i64 x2]) e27).same (s := 67) (v := .agg #[.int .i64 x0, .int .i64 x1, .int .i64 x2]) e28).same (s := 65) (v := .bool true) eg).upd 29 rfl rfl rfl rfl, hI.out.2.2⟩⟩
              · intro LL a wx hI hLk hd K' hK
                obtain ⟨t, hI⟩ := hI
                obtain rfl := hI.out.1
                have e29 := hI.out.2.1.at 29 rfl (hd 29 rfl)
                have eg := hI.out.2.1.at 26 rfl (hd 26 rfl)
                rw [eg]
                rw [if_pos (by rfl)]
                go_simp
                exact hK.out _ _ ⟨(put1 (put1 (put1 t 68 (.bool true)) 65 (.bool true)) 69 (.bool true)), ⟨rfl, ((hI.out.2.1.same (s := 68) (v := .bool true) e29).same (s := 65) (v := .bool true) eg).upd 30 rfl rfl rfl rfl, hI.out.2.2⟩⟩
              · intro LL a wx hI hLk hd K' hK
                obtain ⟨t, hI⟩ := hI
                obtain rfl := hI.out.1
                have eg := hI.out.2.1.at 30 rfl (hd 30 rfl)
                rw [eg]
                refine unwanted (by rfl) ?_
                exact hK.out _ _ ⟨(put1 (put1 t 69 (.bool true)) 70 (undef)), ⟨rfl, (hI.out.2.1.same (s := 69) (v := .bool true) eg).upd 31 rfl rfl rfl rfl, hI.out.2.2⟩⟩
              · intro LL a wx hI hLk hd K' hK
                obtain ⟨t, hI⟩ := hI
                obtain rfl := hI.out.1
                have eg := hI.out.2.1.at 30 rfl (hd 30 rfl)
                rw [eg]
                refine unwanted (by rfl) ?_
                exact hK.out _ _ ⟨(put1 (put1 t 69 (.bool true)) 71 (undef)), ⟨rfl, (hI.out.2.1.same (s := 69) (v := .bool true) eg).upd 32 rfl rfl rfl rfl, hI.out.2.2⟩⟩
              · intro LL a wx hI hLk hd K' hK
                obtain ⟨t, hI⟩ := hI
                obtain rfl := hI.out.1
                have eg := hI.out.2.1.at 30 rfl (hd 30 rfl)
                rw [eg]
                refine unwanted (by rfl) ?_
                exact hK.out _ _ ⟨(put1 (put1 t 69 (.bool true)) 72 (undef)), ⟨rfl, (hI.out.2.1.same (s := 69) (v := .bool true) eg).upd 33 rfl rfl rfl rfl, hI.out.2.2⟩⟩
              · intro LL a wx hI hLk hd K' hK
                obtain ⟨t, hI⟩ := hI
                obtain rfl := hI.out.1
                have eg := hI.out.2.1.at 30 rfl (hd 30 rfl)
                rw [eg]
                refine unwanted (by rfl) ?_
                exact hK.out _ _ ⟨(put1 (put1 t 69 (.bool true)) 73 (undef)), ⟨rfl, (hI.out.2.1.same (s := 69) (v := .bool true) eg).upd 34 rfl rfl rfl rfl, hI.out.2.2⟩⟩
              · intro LL a wx hI hLk hd K' hK
                obtain ⟨t, hI⟩ := hI
                obtain rfl := hI.out.1
                have eg := hI.out.2.1.at 30 rfl (hd 30 rfl)
                rw [eg]
                refine unwanted (by rfl) ?_
                exact hK.out _ _ ⟨(put1 (put1 t 69 (.bool true)) 74 (undef)), ⟨rfl, (hI.out.2.1.same (s := 69) (v := .bool true) eg).upd 35 rfl rfl rfl rfl, hI.out.2.2⟩⟩
              · intro LL a wx hI hLk hd K' hK
                obtain ⟨t, hI⟩ := hI
                obtain rfl := hI.out.1
                have eg := hI.out.2.1.at 30 rfl (hd 30 rfl)
                rw [eg]
                refine unwanted (by rfl) ?_
                exact hK.out _ _ ⟨(put1 (put1 t 69 (.bool true)) 75 (undef)), ⟨rfl, (hI.out.2.1.same (s := 69) (v := .bool true) eg).upd 36 rfl rfl rfl rfl, hI.out.2.2⟩⟩
              · intro LL a wx hI hLk hd K' hK
                obtain ⟨t, hI⟩ := hI
                obtain rfl := hI.out.1
                have eg := hI.out.2.1.at 30 rfl (hd 30 rfl)
                rw [eg]
                refine unwanted (by rfl) ?_
                exact hK.out _ _ ⟨(put1 (put1 t 69 (.bool true)) 76 (undef)), ⟨rfl, (hI.out.2.1.same (s := 69) (v := .bool true) eg).upd 37 rfl rfl rfl rfl, hI.out.2.2⟩⟩
              · intro LL a wx hI hLk hd K' hK
                obtain ⟨t, hI⟩ := hI
                obtain rfl := hI.out.1
                have e30 := hI.out.2.1.at 30 rfl (hd 30 rfl)
                have eg := hI.out.2.1.at 26 rfl (hd 26 rfl)
                rw [eg]
                rw [if_pos (by rfl)]
                go_simp
                exact hK.out _ _ ⟨(put1 (put1 (put1 t 69 (.bool true)) 65 (.bool true)) 77 (.bool true)), ⟨rfl, ((hI.out.2.1.same (s := 69) (v := .bool true) e30).same (s := 65) (v := .bool true) eg).upd 38 rfl rfl rfl rfl, hI.out.2.2⟩⟩
              · intro LL a wx hI hLk hd K' hK
                obtain ⟨t, hI⟩ := hI
                obtain rfl := hI.out.1
                have e26 := hI.out.2.1.at 26 rfl (hd 26 rfl)
                have e38 := hI.out.2.1.at 38 rfl (hd 38 rfl)
                rw [if_pos (by rfl)]
                go_simp
                exact hK.out _ _ ⟨(put1 (put1 (put1 t 65 (.bool true)) 77 (.bool true)) 78 (.bool true)), ⟨rfl, ((hI.out.2.1.same (s := 65) (v := .bool true) e26).same (s := 77) (v := .bool true) e38).upd 39 rfl rfl rfl rfl, hI.out.2.2⟩⟩
              · intro LL a wx hI hLk hd K' hK
                obtain ⟨t, hI⟩ := hI
                obtain rfl := hI.out.1
                have e39 := hI.out.2.1.at 39 rfl (hd 39 rfl)
                rw [if_pos (by rfl)]
                go_simp
                exact hK.out _ _ ⟨(put1 (put1 t 78 (.bool true)) 79 (.bool true)), ⟨rfl, (hI.out.2.1.same (s := 78) (v := .bool true) e39).upd 40 rfl rfl rfl rfl, hI.out.2.2⟩⟩
              · intro LL a wx hI hLk hd K' hK
                obtain ⟨t, hI⟩ := hI
                obtain rfl := hI.out.1
                have hb := hI.out.2.2
                obtain ⟨c0, c1, c2⟩ := cells3 T7.out hb.out
                have eg := hI.out.2.1.at 40 rfl (hd 40 rfl)
                rw [eg]
                rw [if_pos (by rfl)]
                go_simp
                exact hK.out _ _ ⟨(put1 (put1 t 79 (.bool true)) 80 (.agg #[.int .i64 a0_0, .int .i64 a0_1, .int .i64 a0_2])), ⟨rfl, (hI.out.2.1.same (s := 79) (v := .bool true) eg).upd 41 rfl rfl rfl rfl, hI.out.2.2⟩⟩
              · intro LL a wx hI hLk hd K' hK
                obtain ⟨t, hI⟩ := hI
                obtain rfl := hI.out.1
                have hb := hI.out.2.2
                obtain ⟨c0, c1, c2⟩ := cells3 T7.out hb.out
                have eg := hI.out.2.1.at 40 rfl (hd 40 rfl)
                rw [eg]
                rw [if_pos (by rfl)]
                go_simp
                exact hK.out _ _ ⟨(put1 (put1 t 79 (.bool true)) 81 (.agg #[.int .i64 a0_0, .int .i64 a0_1, .int .i64 a0_2])), ⟨rfl, (hI.out.2.1.same (s := 79) (v := .bool true) eg).upd 42 rfl rfl rfl rfl, hI.out.2.2⟩⟩
              · intro LL a wx hI hLk hd K' hK
                obtain ⟨t, hI⟩ := hI
                obtain rfl := hI.out.1
                have e41 := hI.out.2.1.at 41 rfl (hd 41 rfl)
                have e42 := hI.out.2.1.at 42 rfl (hd 42 rfl)
                have hb := hI.out.2.2
                have eg := hI.out.2.1.at 40 rfl (hd 40 rfl)
                rw [eg]
                rw [if_pos (by rfl)]
                go_simp
                go_at_call 32
                refine (KS.out _).mono ?_
                rintro e w2 ⟨rfl, hb1⟩
                exact hK.out _ _ ⟨(put1 (put1 (put1 (put1 t 80 (.agg #[.int .i64 a0_0, .int .i64 a0_1, .int .i64 a0_2])) 81 (.agg #[.int .i64 a0_0, .int .i64 a0_1, .int .i64 a0_2])) 79 (.bool true)) 82 (.agg #[.int .i64 s0, .int .i64 s1, .int .i64 s2])), ⟨rfl, (((hI.out.2.1.same (s := 80) (v := .agg #[.int .i64 a0_0, .int .i64 a0_1, .int .i64 a0_2]) e41).same (s := 81) (v := .agg #[.int .i64 a0_0, .int .i64 a0_1, .int .i64 a0_2]) e42).same (s := 79) (v := .bool true) eg).upd 43 rfl rfl rfl rfl, ⟨below_step hb.out hb1⟩⟩⟩
              · intro LL a wx hI hLk hd K' hK
                obtain ⟨t, hI⟩ := hI
                obtain rfl := hI.out.1
                have hb := hI.out.2.2
                obtain ⟨c0, c1, c2⟩ := cells3 T7.out hb.out
                have eg := hI.out.2.1.at 40 rfl (hd 40 rfl)
                rw [eg]
                rw [if_pos (by rfl)]
                go_simp
                exact hK.out _ _ ⟨(put1 (put1 t 79 (.bool true)) 83 (.agg #[.int .i64 a0_0, .int .i64 a0_1, .int .i64 a0_2])), ⟨rfl, (hI.out.2.1.same (s := 79) (v := .bool true) eg).upd 44 rfl rfl rfl rfl, hI.out.2.2⟩⟩
              · intro LL a wx hI hLk hd K' hK
                obtain ⟨t, hI⟩ := hI
                obtain rfl := hI.out.1
                have eg := hI.out.2.1.at 40 rfl (hd 40 rfl)
                rw [eg]
                rw [if_pos (by rfl)]
                go_simp
                exact hK.out _ _ ⟨(put1 (put1 t 79 (.bool true)) 84 (.agg #[.int .i64 0, .int .i64 0, .int .i64 0])), ⟨rfl, (hI.out.2.1.same (s := 79) (v := .bool true) eg).upd 45 rfl rfl rfl rfl, hI.out.2.2⟩⟩
              · intro LL a wx hI hLk hd K' hK
                obtain ⟨t, hI⟩ := hI
                obtain rfl := hI.out.1
                have e44 := hI.out.2.1.at 44 rfl (hd 44 rfl)
                have e45 := hI.out.2.1.at 45 rfl (hd 45 rfl)
                have hb := hI.out.2.2
                have eg := hI.out.2.1.at 40 rfl (hd 40 rfl)
                rw [eg]
                rw [if_pos (by rfl)]
                go_simp
                go_at_call 32
                refine (KZ.out _).mono ?_
                rintro e w2 ⟨rfl, hb1⟩
                exact hK.out _ _ ⟨(put1 (put1 (put1 (put1 t 83 (.agg #[.int .i64 a0_0, .int .i64 a0_1, .int .i64 a0_2])) 84 (.agg #[.int .i64 0, .int .i64 0, .int .i64 0])) 79 (.bool true)) 85 (.agg #[.int .i64 s0, .int .i64 s1, .int .i64 s2])), ⟨rfl, (((hI.out.2.1.same (s := 83) (v := .agg #[.int .i64 a0_0, .int .i64 a0_1, .int .i64 a0_2]) e44).same (s := 84) (v := .agg #[.int .i64 0, .int .i64 0, .int .i64 0]) e45).same (s := 79) (v := .bool true) eg).upd 46 rfl rfl rfl rfl, ⟨below_step hb.out hb1⟩⟩⟩
              · intro LL a wx hI hLk hd K' hK
                obtain ⟨t, hI⟩ := hI
                obtain rfl := hI.out.1
                have e43 := hI.out.2.1.at 43 rfl (hd 43 rfl)
                have e46 := hI.out.2.1.at 46 rfl (hd 46 rfl)
                have eg := hI.out.2.1.at 40 rfl (hd 40 rfl)
                rw [eg]
                rw [if_pos (by rfl)]
                go_simp
                exact hK.out _ _ ⟨(put1 (put1 (put1 (put1 t 82 (.agg #[.int .i64 s0, .int .i64 s1, .int .i64 s2])) 85 (.agg #[.int .i64 s0, .int .i64 s1, .int .i64 s2])) 79 (.bool true)) 86 (.bool true)), ⟨rfl, (((hI.out.2.1.same (s := 82) (v := .agg #[.int .i64 s0, .int .i64 s1, .int .i64 s2]) e43).same (s := 85) (v := .agg #[.int .i64 s0, .int .i64 s1, .int .i64 s2]) e46).same (s := 79) (v := .bool true) eg).upd 47 rfl rfl rfl rfl, hI.out.2.2⟩⟩
              · intro LL a wx hI hLk hd K' hK
                obtain ⟨t, hI⟩ := hI
                obtain rfl := hI.out.1
                have e40 := hI.out.2.1.at 40 rfl (hd 40 rfl)
                have e47 := hI.out.2.1.at 47 rfl (hd 47 rfl)
                rw [if_pos (by rfl)]
                go_simp
                exact hK.out _ _ ⟨(put1 (put1 (put1 t 79 (.bool true)) 86 (.bool true)) 87 (.bool true)), ⟨rfl, ((hI.out.2.1.same (s := 79) (v := .bool true) e40).same (s := 86) (v := .bool true) e47).upd 48 rfl rfl rfl rfl, hI.out.2.2⟩⟩
              · intro LL a wx hI hLk hd K' hK
                obtain ⟨t, hI⟩ := hI
                obtain rfl := hI.out.1
                have e48 := hI.out.2.1.at 48 rfl (hd 48 rfl)
                rw [if_pos (by rfl)]
                go_simp
                exact hK.out _ _ ⟨(put1 (put1 t 87 (.bool true)) 6 (.bool true)), ⟨rfl, (hI.out.2.1.same (s := 87) (v := .bool true) e48).upd 49 rfl rfl rfl rfl, hI.out.2.2⟩⟩
            · intro LL a wx3 hall hI
              obtain ⟨t, hI⟩ := hI
              obtain rfl := hI.out.1
              have hb := hI.out.2.2
              have e49 := hI.out.2.1.at 49 rfl (hall 49 (by decide))
              rw [e49]
              go_wp2
              go_ret
              exact ⟨rfl, below_step HB2.out hb.out⟩
          · have m2 : wrap64 (z1 + z2) = wrap64 (x1 + x2) := (dU.resolve_left e2).symm
            have b2 : (x1 == z1 && x2 == z2) = false := by rw [Bool.eq_false_iff]; intro h; rw [Bool.and_eq_true, beq_iff_eq, beq_iff_eq] at h; exact e2 h
            clear dU e2
            go_wp2_with fail
            refine wp_region_steps 50 rfl rfl (by kernel_rfl) (fun LL a wx => ∃ t : Nat → Value, Aside0 (a = { tmps := List.toArray (.agg #[.int .i64 a0_0, .int .i64 a0_1, .int .i64 a0_2] :: .agg #[.int .i64 a1_0, .int .i64 a1_1, .int .i64 a1_2] :: .agg #[.int .i64 a2_0, .int .i64 a2_1, .int .i64 a2_2] :: .pointer (some ⟨w.heap.size, 0, none⟩) :: .pointer (some ⟨w.heap.size + 1, 0, none⟩) :: .pointer (some ⟨w.heap.size + 1 + 1, 0, none⟩) :: t 6 :: .pointer (some ⟨g7, 0, none⟩) :: .pointer (some ⟨g8, 0, none⟩) :: .pointer (some ⟨g9, 0, none⟩) :: .pointer (some ⟨g10, 0, none⟩) :: .pointer (some ⟨g11, 0, none⟩) :: .pointer (some ⟨g12, 0, none⟩) :: .pointer (some ⟨g13, 0, none⟩) :: .func (.func 42) #[] #[] :: .bool true :: .bool false :: u 17 :: u 18 :: u 19 :: u 20 :: u 21 :: u 22 :: v 23 :: v 24 :: v 25 :: v 26 :: v 27 :: v 28 :: y 29 :: y 30 :: y 31 :: y 32 :: y 33 :: y 34 :: y 35 :: y 36 :: y 37 :: y 38 :: t 39 :: t 40 :: t 41 :: t 42 :: t 43 :: t 44 :: t 45 :: t 46 :: t 47 :: t 48 :: t 49 :: t 50 :: t 51 :: t 52 :: t 53 :: t 54 :: t 55 :: t 56 :: t 57 :: t 58 :: t 59 :: t 60 :: t 61 :: t 62 :: t 63 :: t 64 :: t 65 :: t 66 :: t 67 :: t 68 :: t 69 :: t 70 :: t 71 :: t 72 :: t 73 :: t 74 :: t 75 :: t 76 :: t 77 :: t 78 :: t 79 :: t 80 :: t 81 :: t 82 :: t 83 :: t 84 :: t 85 :: t 86 :: t 87 :: []), defers := [] } ∧ Tab LL t [(0, 39, .pointer (some ⟨g10, 0, none⟩)), (1, 40, .int .i64 p0), (2, 41, .pointer (some ⟨g11, 0, none⟩)), (3, 42, .int .i64 p0), (4, 43, .bool true), (5, 44, .bool true), (6, 45, .agg #[.int .i64 p0, .int .i64 p1, .int .i64 p2]), (7, 46, .agg #[.int .i64 p0, .int .i64 q1, .int .i64 q2]), (8, 47, .bool false), (9, 48, .bool false), (10, 49, .func (.func 42) #[] #[]), (11, 50, .agg #[.int .i64 p0, .int .i64 p1, .int .i64 p2]), (12, 51, .int .i64 (wrap64 (p1 + p2))), (13, 52, .func (.func 42) #[] #[]), (14, 53, .agg #[.int .i64 p0, .int .i64 q1, .int .i64 q2]), (15, 54, .int .i64 (wrap64 (p1 + p2))), (16, 55, .bool true), (17, 56, .bool true), (18, 57, .bool true), (19, 58, .bool true), (20, 59, .pointer (some ⟨g12, 0, none⟩)), (21, 60, .int .i64 x0), (22, 61, .pointer (some ⟨g13, 0, none⟩)), (23, 62, .int .i64 x0), (24, 63, .bool true), (25, 64, .bool true), (26, 65, .bool true), (27, 66, .agg #[.int .i64 x0, .int .i64 x1, .int .i64 x2]), (28, 67, .agg #[.int .i64 x0, .int .i64 z1, .int .i64 z2]), (29, 68, .bool false), (30, 69, .bool false), (31, 70, .func (.func 42) #[] #[]), (32, 71, .agg #[.int .i64 x0, .int .i64 x1, .int .i64 x2]), (33, 72, .int .i64 (wrap64 (x1 + x2))), (34, 73, .func (.func 42) #[] #[]), (35, 74, .agg #[.int .i64 x0, .int .i64 z1, .int .i64 z2]), (36, 75, .int .i64 (wrap64 (x1 + x2))), (37, 76, .bool true), (38, 77, .bool true), (39, 78, .bool true), (40, 79, .bool true), (41, 80, .agg #[.int .i64 a0_0, .int .i64 a0_1, .int .i64 a0_2]), (42, 81, .agg #[.int .i64 a0_0, .int .i64 a0_1, .int .i64 a0_2]), (43, 82, .agg #[.int .i64 s0, .int .i64 s1, .int .i64 s2]), (44, 83, .agg #[.int .i64 a0_0, .int .i64 a0_1, .int .i64 a0_2]), (45, 84, .agg #[.int .i64 0, .int .i64 0, .int .i64 0]), (46, 85, .agg #[.int .i64 s0, .int .i64 s1, .int .i64 s2]), (47, 86, .bool true), (48, 87, .bool true), (49, 6, .bool true)] ∧ Aside0 (Below wx2.heap.size wx2 wx))) ?_ ?_ ?_
            · exact ⟨put1 (fun _ => undef) 6 (.bool false), ⟨rfl, Tab.start 50 rfl rfl, ⟨below_drew (Below.refl _ _)⟩⟩⟩
            · refine Steps.cons ?_ (Steps.cons ?_ (Steps.cons ?_ (Steps.cons ?_ (Steps.cons ?_ (Steps.cons ?_ (Steps.cons ?_ (Steps.cons ?_ (Steps.cons ?_ (Steps.cons ?_ (Steps.cons ?_ (Steps.cons ?_ (Steps.cons ?_ (Steps.cons ?_ (Steps.cons ?_ (Steps.cons ?_ (Steps.cons ?_ (Steps.cons ?_ (Steps.cons ?_ (Steps.cons ?_ (Steps.cons ?_ (Steps.cons ?_ (Steps.cons ?_ (Steps.cons ?_ (Steps.cons ?_ (Steps.cons ?_ (Steps.cons ?_ (Steps.cons ?_ (Steps.cons ?_ (Steps.cons ?_ (Steps.cons ?_ (Steps.cons ?_ (Steps.cons ?_ (Steps.cons ?_ (Steps.cons ?_ (Steps.cons ?_ (Steps.cons ?_ (Steps.cons ?_ (Steps.cons ?_ (Steps.cons ?_ (Steps.cons ?_ (Steps.cons ?_ (Steps.cons ?_ (Steps.cons ?_ (Steps.cons ?_ (Steps.cons ?_ (Steps.cons ?_ (Steps.cons ?_ (Steps.cons ?_ (Steps.cons ?_ (Steps.nil))))))))))))))))))))))))))))))))))))))))))))))))))
              · intro LL a wx hI hLk hd K' hK
                obtain ⟨t, hI⟩ := hI
                obtain rfl := hI.out.1
                rw [if_pos (by rfl)]
                go_simp
                exact hK.out _ _ ⟨(put1 t 39 (.pointer (some ⟨g10, 0, none⟩))), ⟨rfl, hI.out.2.1.upd 0 rfl rfl rfl rfl, hI.out.2.2⟩⟩
              · intro LL a wx hI hLk hd K' hK
                obtain ⟨t, hI⟩ := hI
                obtain rfl := hI.out.1
                have e0 := hI.out.2.1.at 0 rfl (hd 0 rfl)
                have hb := hI.out.2.2
                obtain ⟨c0, c1, c2⟩ := cells3 T10.out hb.out
                rw [if_pos (by rfl)]
                go_simp
                exact hK.out _ _ ⟨(put1 (put1 t 39 (.pointer (some ⟨g10, 0, none⟩))) 40 (.int .i64 p0)), ⟨rfl, (hI.out.2.1.same (s := 39) (v := .pointer (some ⟨g10, 0, none⟩)) e0).upd 1 rfl rfl rfl rfl, hI.out.2.2⟩⟩
              · intro LL a wx hI hLk hd K' hK
                obtain ⟨t, hI⟩ := hI
                obtain rfl := hI.out.1
                rw [if_pos (by rfl)]
                go_simp
                exact hK.out _ _ ⟨(put1 t 41 (.pointer (some ⟨g11, 0, none⟩))), ⟨rfl, hI.out.2.1.upd 2 rfl rfl rfl rfl, hI.out.2.2⟩⟩
              · intro LL a wx hI hLk hd K' hK
                obtain ⟨t, hI⟩ := hI
                obtain rfl := hI.out.1
                have e2 := hI.out.2.1.at 2 rfl (hd 2 rfl)
                have hb := hI.out.2.2
                obtain ⟨c0, c1, c2⟩ := cells3 T11.out hb.out
                rw [if_pos (by rfl)]
                go_simp
                exact hK.out _ _ ⟨(put1 (put1 t 41 (.pointer (some ⟨g11, 0, none⟩))) 42 (.int .i64 p0)), ⟨rfl, (hI.out.2.1.same (s := 41) (v := .pointer (some ⟨g11, 0, none⟩)) e2).upd 3 rfl rfl rfl rfl, hI.out.2.2⟩⟩
              · intro LL a wx hI hLk hd K' hK
                obtain ⟨t, hI⟩ := hI
                obtain rfl := hI.out.1
                have e1 := hI.out.2.1.at 1 rfl (hd 1 rfl)
                have e3 := hI.out.2.1.at 3 rfl (hd 3 rfl)
                rw [if_pos (by rfl)]
                go_simp
                exact hK.out _ _ ⟨(put1 (put1 (put1 t 40 (.int .i64 p0)) 42 (.int .i64 p0)) 43 (.bool true)), ⟨rfl, ((hI.out.2.1.same (s := 40) (v := .int .i64 p0) e1).same (s := 42) (v := .int .i64 p0) e3).upd 4 rfl rfl rfl rfl, hI.out.2.2⟩⟩
              · intro LL a wx hI hLk hd K' hK
                obtain ⟨t, hI⟩ := hI
                obtain rfl := hI.out.1
                have e4 := hI.out.2.1.at 4 rfl (hd 4 rfl)
                rw [if_pos (by rfl)]
                go_simp
                exact hK.out _ _ ⟨(put1 (put1 t 43 (.bool true)) 44 (.bool true)), ⟨rfl, (hI.out.2.1.same (s := 43) (v := .bool true) e4).upd 5 rfl rfl rfl rfl, hI.out.2.2⟩⟩
              · intro LL a wx hI hLk hd K' hK
                obtain ⟨t, hI⟩ := hI
                obtain rfl := hI.out.1
                have hb := hI.out.2.2
                obtain ⟨c0, c1, c2⟩ := cells3 T10.out hb.out
                have eg := hI.out.2.1.at 5 rfl (hd 5 rfl)
                rw [eg]
                rw [if_pos (by rfl)]
                go_simp
                exact hK.out _ _ ⟨(put1 (put1 t 44 (.bool true)) 45 (.agg #[.int .i64 p0, .int .i64 p1, .int .i64 p2])), ⟨rfl, (hI.out.2.1.same (s := 44) (v := .bool true) eg).upd 6 rfl rfl rfl rfl, hI.out.2.2⟩⟩
              · intro LL a wx hI hLk hd K' hK
                obtain ⟨t, hI⟩ := hI
                obtain rfl := hI.out.1
                have hb := hI.out.2.2
                obtain ⟨c0, c1, c2⟩ := cells3 T11.out hb.out
                have eg := hI.out.2.1.at 5 rfl (hd 5 rfl)
                rw [eg]
                rw [if_pos (by rfl)]
                go_simp
                exact hK.out _ _ ⟨(put1 (put1 t 44 (.bool true)) 46 (.agg #[.int .i64 p0, .int .i64 q1, .int .i64 q2])), ⟨rfl, (hI.out.2.1.same (s := 44) (v := .bool true) eg).upd 7 rfl rfl rfl rfl, hI.out.2.2⟩⟩
              · intro LL a wx hI hLk hd K' hK
                obtain ⟨t, hI⟩ := hI
                obtain rfl := hI.out.1
                have e6 := hI.out.2.1.at 6 rfl (hd 6 rfl)
                have e7 := hI.out.2.1.at 7 rfl (hd 7 rfl)
                have eg := hI.out.2.1.at 5 rfl (hd 5 rfl)
                rw [eg]
                rw [if_pos (by rfl)]
                go_simp
                exact hK.out _ _ ⟨(put1 (put1 (put1 (put1 t 45 (.agg #[.int .i64 p0, .int .i64 p1, .int .i64 p2])) 46 (.agg #[.int .i64 p0, .int .i64 q1, .int .i64 q2])) 44 (.bool true)) 47 (.bool false)), ⟨rfl, (((hI.out.2.1.same (s := 45) (v := .agg #[.int .i64 p0, .int .i64 p1, .int .i64 p2]) e6).same (s := 46) (v := .agg #[.int .i64 p0, .int .i64 q1, .int .i64 q2]) e7).same (s := 44) (v := .bool true) eg).upd 8 rfl rfl rfl rfl, hI.out.2.2⟩⟩
              · intro LL a wx hI hLk hd K' hK
                obtain ⟨t, hI⟩ := hI
                obtain rfl := hI.out.1
                have e8 := hI.out.2.1.at 8 rfl (hd 8 rfl)
                have eg := hI.out.2.1.at 5 rfl (hd 5 rfl)
                rw [eg]
                rw [if_pos (by rfl)]
                go_simp
                exact hK.out _ _ ⟨(put1 (put1 (put1 t 47 (.bool false)) 44 (.bool true)) 48 (.bool false)), ⟨rfl, ((hI.out.2.1.same (s := 47) (v := .bool false) e8).same (s := 44) (v := .bool true) eg).upd 9 rfl rfl rfl rfl, hI.out.2.2⟩⟩
              · intro LL a wx hI hLk hd K' hK
                obtain ⟨t, hI⟩ := hI
                obtain rfl := hI.out.1
                have eg := hI.out.2.1.at 9 rfl (hd 9 rfl)
                rw [eg]
                rw [if_pos (by rfl)]
                go_simp
                exact hK.out _ _ ⟨(put1 (put1 t 48 (.bool false)) 49 (.func (.func 42) #[] #[])), ⟨rfl, (hI.out.2.1.same (s := 48) (v := .bool false) eg).upd 10 rfl rfl rfl rfl, hI.out.2.2⟩⟩
              · intro LL a wx hI hLk hd K' hK
                obtain ⟨t, hI⟩ := hI
                obtain rfl := hI.out.1
                have hb := hI.out.2.2
                obtain ⟨c0, c1, c2⟩ := cells3 T10.out hb.out
                have eg := hI.out.2.1.at 9 rfl (hd 9 rfl)
                rw [eg]
                rw [if_pos (by rfl)]
                go_simp
                exact hK.out _ _ ⟨(put1 (put1 t 48 (.bool false)) 50 (.agg #[.int .i64 p0, .int .i64 p1, .int .i64 p2])), ⟨rfl, (hI.out.2.1.same (s := 48) (v := .bool false) eg).upd 11 rfl rfl rfl rfl, hI.out.2.2⟩⟩
              · intro LL a wx hI hLk hd K' hK
                obtain ⟨t, hI⟩ := hI
                obtain rfl := hI.out.1
                have e10 := hI.out.2.1.at 10 rfl (hd 10 rfl)
                have e11 := hI.out.2.1.at 11 rfl (hd 11 rfl)
                have hb := hI.out.2.2
                have eg := hI.out.2.1.at 9 rfl (hd 9 rfl)
                rw [eg]
                rw [if_pos (by rfl)]
                go_simp
                go_at_call 42
                refine (KE.out _ _ _ _).mono ?_
                rintro e w2 ⟨rfl, hb1⟩
                exact hK.out _ _ ⟨(put1 (put1 (put1 (put1 t 49 (.func (.func 42) #[] #[])) 50 (.agg #[.int .i64 p0, .int .i64 p1, .int .i64 p2])) 48 (.bool false)) 51 (.int .i64 (wrap64 (p1 + p2)))), ⟨rfl, (((hI.out.2.1.same (s := 49) (v := .func (.func 42) #[] #[]) e10).same (s := 50) (v := .agg #[.int .i64 p0, .int .i64 p1, .int .i64 p2]) e11).same (s := 48) (v := .bool false) eg).upd 12 rfl rfl rfl rfl, ⟨below_step hb.out hb1⟩⟩⟩
              · intro LL a wx hI hLk hd K' hK
                obtain ⟨t, hI⟩ := hI
                obtain rfl := hI.out.1
                have eg := hI.out.2.1.at 9 rfl (hd 9 rfl)
                rw [eg]
                rw [if_pos (by rfl)]
                go_simp
                exact hK.out _ _ ⟨(put1 (put1 t 48 (.bool false)) 52 (.func (.func 42) #[] #[])), ⟨rfl, (hI.out.2.1.same (s := 48) (v := .bool false) eg).upd 13 rfl rfl rfl rfl, hI.out.2.2⟩⟩
              · intro LL a wx hI hLk hd K' hK
                obtain ⟨t, hI⟩ := hI
                obtain rfl := hI.out.1
                have hb := hI.out.2.2
                obtain ⟨c0, c1, c2⟩ := cells3 T11.out hb.out
                have eg := hI.out.2.1.at 9 rfl (hd 9 rfl)
                rw [eg]
                rw [if_pos (by rfl)]
                go_simp
                exact hK.out _ _ ⟨(put1 (put1 t 48 (.bool false)) 53 (.agg #[.int .i64 p0, .int .i64 q1, .int .i64 q2])), ⟨rfl, (hI.out.2.1.same (s := 48) (v := .bool false) eg).upd 14 rfl rfl rfl rfl, hI.out.2.2⟩⟩
              · intro LL a wx hI hLk hd K' hK
                obtain ⟨t, hI⟩ := hI
                obtain rfl := hI.out.1
                have e13 := hI.out.2.1.at 13 rfl (hd 13 rfl)
                have e14 := hI.out.2.1.at 14 rfl (hd 14 rfl)
                have hb := hI.out.2.2
                have eg := hI.out.2.1.at 9 rfl (hd 9 rfl)
                rw [eg]
                rw [if_pos (by rfl)]
                go_simp
                go_at_call 42
                refine (KE.out _ _ _ _).mono ?_
                rintro e w2 ⟨rfl, hb1⟩
                rw [m1]
                exact hK.out _ _ ⟨(put1 (put1 (put1 (put1 t 52 (.func (.func 42) #[] #[])) 53 (.agg #[.int .i64 p0, .int .i64 q1, .int .i64 q2])) 48 (.bool false)) 54 (.int .i64 (wrap64 (p1 + p2)))), ⟨rfl, (((hI.out.2.1.same (s := 52) (v := .func (.func 42) #[] #[]) e13).same (s := 53) (v := .agg #[.int .i64 p0, .int .i64 q1, .int .i64 q2]) e14).same (s := 48) (v := .bool false) eg).upd 15 rfl rfl rfl rfl, ⟨below_step hb.out hb1⟩⟩⟩
              · intro LL a wx hI hLk hd K' hK
                obtain ⟨t, hI⟩ := hI
                obtain rfl := hI.out.1
                have e12 := hI.out.2.1.at 12 rfl (hd 12 rfl)
                have e15 := hI.out.2.1.at 15 rfl (hd 15 rfl)
                have eg := hI.out.2.1.at 9 rfl (hd 9 rfl)
                rw [eg]
                rw [if_pos (by rfl)]
                go_simp
                exact hK.out _ _ ⟨(put1 (put1 (put1 (put1 t 51 (.int .i64 (wrap64 (p1 + p2)))) 54 (.int .i64 (wrap64 (p1 + p2)))) 48 (.bool false)) 55 (.bool true)), ⟨rfl, (((hI.out.2.1.same (s := 51) (v := .int .i64 (wrap64 (p1 + p2))) e12).same (s := 54) (v := .int .i64 (wrap64 (p1 + p2))) e15).same (s := 48) (v := .bool false) eg).upd 16 rfl rfl rfl rfl, hI.out.2.2⟩⟩
              · intro LL a wx hI hLk hd K' hK
                obtain ⟨t, hI⟩ := hI
                obtain rfl := hI.out.1
                have e9 := hI.out.2.1.at 9 rfl (hd 9 rfl)
                have e16 := hI.out.2.1.at 16 rfl (hd 16 rfl)
                have eg := hI.out.2.1.at 5 rfl (hd 5 rfl)
                rw [eg]
                rw [if_pos (by rfl)]
                go_simp
                exact hK.out _ _ ⟨(put1 (put1 (put1 (put1 t 48 (.bool false)) 55 (.bool true)) 44 (.bool true)) 56 (.bool true)), ⟨rfl, (((hI.out.2.1.same (s := 48) (v := .bool false) e9).same (s := 55) (v := .bool true) e16).same (s := 44) (v := .bool true) eg).upd 17 rfl rfl rfl rfl, hI.out.2.2⟩⟩
              · intro LL a wx hI hLk hd K' hK
                obtain ⟨t, hI⟩ := hI
                obtain rfl := hI.out.1
                have e5 := hI.out.2.1.at 5 rfl (hd 5 rfl)
                have e17 := hI.out.2.1.at 17 rfl (hd 17 rfl)
                rw [if_pos (by rfl)]
                go_simp
                exact hK.out _ _ ⟨(put1 (put1 (put1 t 44 (.bool true)) 56 (.bool true)) 57 (.bool true)), ⟨rfl, ((hI.out.2.1.same (s := 44) (v := .bool true) e5).same (s := 56) (v := .bool true) e17).upd 18 rfl rfl rfl rfl, hI.out.2.2⟩⟩
              · intro LL a wx hI hLk hd K' hK
                obtain ⟨t, hI⟩ := hI
                obtain rfl := hI.out.1
                have e18 := hI.out.2.1.at 18 rfl (hd 18 rfl)
                rw [if_pos (by rfl)]
                go_simp
                exact hK.out _ _ ⟨(put1 (put1 t 57 (.bool true)) 58 (.bool true)), ⟨rfl, (hI.out.2.1.same (s := 57) (v := .bool true) e18).upd 19 rfl rfl rfl rfl, hI.out.2.2⟩⟩
              · intro LL a wx hI hLk hd K' hK
                obtain ⟨t, hI⟩ := hI
                obtain rfl := hI.out.1
                have eg := hI.out.2.1.at 19 rfl (hd 19 rfl)
                rw [eg]
                rw [if_pos (by rfl)]
                go_simp
                exact hK.out _ _ ⟨(put1 (put1 t 58 (.bool true)) 59 (.pointer (some ⟨g12, 0, none⟩))), ⟨rfl, (hI.out.2.1.same (s := 58) (v := .bool true) eg).upd 20 rfl rfl rfl rfl, hI.out.2.2⟩⟩
              · intro LL a wx hI hLk hd K' hK
                obtain ⟨t, hI⟩ := hI
                obtain rfl := hI.out.1
                have e20 := hI.out.2.1.at 20 rfl (hd 20 rfl)
                have hb := hI.out.2.2
                obtain ⟨c0, c1, c2⟩ := cells3 R12.out hb.out
                have eg := hI.out.2.1.at 19 rfl (hd 19 rfl)
                rw [eg]
                rw [if_pos (by rfl)]
                go_simp
                exact hK.out _ _ ⟨(put1 (put1 (put1 t 59 (.pointer (some ⟨g12, 0, none⟩))) 58 (.bool true)) 60 (.int .i64 x0)), ⟨rfl, ((hI.out.2.1.same (s := 59) (v := .pointer (some ⟨g12, 0, none⟩)) e20).same (s := 58) (v := .bool true) eg).upd 21 rfl rfl rfl rfl, hI.out.2.2⟩⟩
              · intro LL a wx hI hLk hd K' hK
                obtain ⟨t, hI⟩ := hI
                obtain rfl := hI.out.1
                have eg := hI.out.2.1.at 19 rfl (hd 19 rfl)
                rw [eg]
                rw [if_pos (by rfl)]
                go_simp
                exact hK.out _ _ ⟨(put1 (put1 t 58 (.bool true)) 61 (.pointer (some ⟨g13, 0, none⟩))), ⟨rfl, (hI.out.2.1.same (s := 58) (v := .bool true) eg).upd 22 rfl rfl rfl rfl, hI.out.2.2⟩⟩
              · intro LL a wx hI hLk hd K' hK
                obtain ⟨t, hI⟩ := hI
                obtain rfl := hI.out.1
                have e22 := hI.out.2.1.at 22 rfl (hd 22 rfl)
                have hb := hI.out.2.2
                obtain ⟨c0, c1, c2⟩ := cells3 R13.out hb.out
                have eg := hI.out.2.1.at 19 rfl (hd 19 rfl)
                rw [eg]
                rw [if_pos (by rfl)]
                go_simp
                exact hK.out _ _ ⟨(put1 (put1 (put1 t 61 (.pointer (some ⟨g13, 0, none⟩))) 58 (.bool true)) 62 (.int .i64 x0)), ⟨rfl, ((hI.out.2.1.same (s := 61) (v := .pointer (some ⟨g13, 0, none⟩)) e22).same (s := 58) (v := .bool true) eg).upd 23 rfl rfl rfl rfl, hI.out.2.2⟩⟩
              · intro LL a wx hI hLk hd K' hK
                obtain ⟨t, hI⟩ := hI
                obtain rfl := hI.out.1
                have e21 := hI.out.2.1.at 21 rfl (hd 21 rfl)
                have e23 := hI.out.2.1.at 23 rfl (hd 23 rfl)
                have eg := hI.out.2.1.at 19 rfl (hd 19 rfl)
                rw [eg]
                rw [if_pos (by rfl)]
                go_simp
                exact hK.out _ _ ⟨(put1 (put1 (put1 (put1 t 60 (.int .i64 x0)) 62 (.int .i64 x0)) 58 (.bool true)) 63 (.bool true)), ⟨rfl, (((hI.out.2.1.same (s := 60) (v := .int .i64 x0) e21).same (s := 62) (v := .int .i64 x0) e23).same (s := 58) (v := .bool true) eg).upd 24 rfl rfl rfl rfl, hI.out.2.2⟩⟩
              · intro LL a wx hI hLk hd K' hK
                obtain ⟨t, hI⟩ := hI
                obtain rfl := hI.out.1
                have e19 := hI.out.2.1.at 19 rfl (hd 19 rfl)
                have e24 := hI.out.2.1.at 24 rfl (hd 24 rfl)
                rw [if_pos (by rfl)]
                go_simp
                exact hK.out _ _ ⟨(put1 (put1 (put1 t 58 (.bool true)) 63 (.bool true)) 64 (.bool true)), ⟨rfl, ((hI.out.2.1.same (s := 58) (v := .bool true) e19).same (s := 63) (v := .bool true) e24).upd 25 rfl rfl rfl rfl, hI.out.2.2⟩⟩
              · intro LL a wx hI hLk hd K' hK
                obtain ⟨t, hI⟩ := hI
                obtain rfl := hI.out.1
                have e25 := hI.out.2.1.at 25 rfl (hd 25 rfl)
                rw [if_pos (by rfl)]
                go_simp
                exact hK.out _ _ ⟨(put1 (put1 t 64 (.bool true)) 65 (.bool true)), ⟨rfl, (hI.out.2.1.same (s := 64) (v := .bool true) e25).upd 26 rfl rfl rfl rfl, hI.out.2.2⟩⟩
              · intro LL a wx hI hLk hd K' hK
                obtain ⟨t, hI⟩ := hI
                obtain rfl := hI.out.1
                have hb := hI.out.2.2
                obtain ⟨c0, c1, c2⟩ := cells3 R12.out hb.out
                have eg := hI.out.2.1.at 26 rfl (hd 26 rfl)
                rw [eg]
                rw [if_pos (by rfl)]
                go_simp
                exact hK.out _ _ ⟨(put1 (put1 t 65 (.bool true)) 66 (.agg #[.int .i64 x0, .int .i64 x1, .int .i64 x2])), ⟨rfl, (hI.out.2.1.same (s := 65) (v := .bool true) eg).upd 27 rfl rfl rfl rfl, hI.out.2.2⟩⟩
              · intro LL a wx hI hLk hd K' hK
                obtain ⟨t, hI⟩ := hI
                obtain rfl := hI.out.1
                have hb := hI.out.2.2
                obtain ⟨c0, c1, c2⟩ := cells3 R13.out hb.out
                have eg := hI.out.2.1.at 26 rfl (hd 26 rfl)
                rw [eg]
                rw [if_pos (by rfl)]
                go_simp
                exact hK.out _ _ ⟨(put1 (put1 t 65 (.bool true)) 67 (.agg #[.int .i64 x0, .int .i64 z1, .int .i64 z2])), ⟨rfl, (hI.out.2.1.same (s := 65) (v := .bool true) eg).upd 28 rfl rfl rfl rfl, hI.out.2.2⟩⟩
              · intro LL a wx hI hLk hd K' hK
                obtain ⟨t, hI⟩ := hI
                obtain rfl := hI.out.1
                have e27 := hI.out.2.1.at 27 rfl (hd 27 rfl)
                have e28 := hI.out.2.1.at 28 rfl (hd 28 rfl)
                have eg := hI.out.2.1.at 26 rfl (hd 26 rfl)
                rw [eg]
                rw [if_pos (by rfl)]
                go_simp
                exact hK.out _ _ ⟨(put1 (put1 (put1 (put1 t 66 (.agg #[.int .i64 x0, .int .i64 x1, .int .i64 x2])) 67 (.agg #[.int .i64 x0, .int .i64 z1, .int .i64 z2])) 65 (.bool true)) 68 (.bool false)), ⟨rfl, (((hI.out.2.1.same (s := 66) (v := .agg #[.int .i64 x0, .int .i64 x1, .int .i64 x2]) e27).same (s := 67) (v := .agg #[.int .i64 x0, .int .i64 z1, .int .i64 z2]) e28).same (s := 65) (v := .bool true) eg).upd 29 rfl rfl rfl rfl, hI.out.2.2⟩⟩
              · intro LL a wx hI hLk hd K' hK
                obtain ⟨t, hI⟩ := hI
                obtain rfl := hI.out.1
                have e29 := hI.out.2.1.at 29 rfl (hd 29 rfl)
                have eg := hI.out.2.1.at 26 rfl (hd 26 rfl)
                rw [eg]
                rw [if_pos (by rfl)]
                go_simp
                exact hK.out _ _ ⟨(put1 (put1 (put1 t 68 (.bool false)) 65 (.bool true)) 69 (.bool false)), ⟨rfl, ((hI.out.2.1.same (s := 68) (v := .bool false) e29).same (s := 65) (v := .bool true) eg).upd 30 rfl rfl rfl rfl, hI.out.2.2⟩⟩
              · intro LL a wx hI hLk hd K' hK
                obtain ⟨t, hI⟩ := hI
                obtain rfl := hI.out.1
                have eg := hI.out.2.1.at 30 rfl (hd 30 rfl)
                rw [eg]
                rw [if_pos (by rfl)]
                go_simp
                exact hK.out _ _ ⟨(put1 (put1 t 69 (.bool false)) 70 (.func (.func 42) #[] #[])), ⟨rfl, (hI.out.2.1.same (s := 69) (v := .bool false) eg).upd 31 rfl rfl rfl rfl, hI.out.2.2⟩⟩
              · intro LL a wx hI hLk hd K' hK
                obtain ⟨t, hI⟩ := hI
                obtain rfl := hI.out.1
                have hb := hI.out.2.2
                obtain ⟨c0, c1, c2⟩ := cells3 R12.out hb.out
                have eg := hI.out.2.1.at 30 rfl (hd 30 rfl)
                rw [eg]
                rw [if_pos (by rfl)]
                go_simp
                exact hK.out _ _ ⟨(put1 (put1 t 69 (.bool false)) 71 (.agg #[.int .i64 x0, .int .i64 x1, .int .i64 x2])), ⟨rfl, (hI.out.2.1.same (s := 69) (v := .bool false) eg).upd 32 rfl rfl rfl rfl, hI.out.2.2⟩⟩
              · intro LL a wx hI hLk hd K' hK
                obtain ⟨t, hI⟩ := hI
                obtain rfl := hI.out.1
                have e31 := hI.out.2.1.at 31 rfl (hd 31 rfl)
                have e32 := hI.out.2.1.at 32 rfl (hd 32 rfl)
                have hb := hI.out.2.2
                have eg := hI.out.2.1.at 30 rfl (hd 30 rfl)
                rw [eg]
                rw [if_pos (by rfl)]
                go_simp
                go_at_call 42
                refine (KE.out _ _ _ _).mono ?_
                rintro e w2 ⟨rfl, hb1⟩
                exact hK.out _ _ ⟨(put1 (put1 (put1 (put1 t 70 (.func (.func 42) #[] #[])) 71 (.agg #[.int .i64 x0, .int .i64 x1, .int .i64 x2])) 69 (.bool false)) 72 (.int .i64 (wrap64 (x1 + x2)))), ⟨rfl, (((hI.out.2.1.same (s := 70) (v := .func (.func 42) #[] #[]) e31).same (s := 71) (v := .agg #[.int .i64 x0, .int .i64 x1, .int .i64 x2]) e32).same (s := 69) (v := .bool false) eg).upd 33 rfl rfl rfl rfl, ⟨below_step hb.out hb1⟩⟩⟩
              · intro LL a wx hI hLk hd K' hK
                obtain ⟨t, hI⟩ := hI
                obtain rfl := hI.out.1
                have eg := hI.out.2.1.at 30 rfl (hd 30 rfl)
                rw [eg]
                rw [if_pos (by rfl)]
                go_simp
                exact hK.out _ _ ⟨(put1 (put1 t 69 (.bool false)) 73 (.func (.func 42) #[] #[])), ⟨rfl, (hI.out.2.1.same (s := 69) (v := .bool false) eg).upd 34 rfl rfl rfl rfl, hI.out.2.2⟩⟩
              · intro LL a wx hI hLk hd K' hK
                obtain ⟨t, hI⟩ := hI
                obtain rfl := hI.out.1
                have hb := hI.out.2.2
                obtain ⟨c0, c1, c2⟩ := cells3 R13.out hb.out
                have eg := hI.out.2.1.at 30 rfl (hd 30 rfl)
                rw [eg]
                rw [if_pos (by rfl)]
                go_simp
                exact hK.out _ _ ⟨(put1 (put1 t 69 (.bool false)) 74 (.agg #[.int .i64 x0, .int .i64 z1, .int .i64 z2])), ⟨rfl, (hI.out.2.1.same (s := 69) (v := .bool false) eg).upd 35 rfl rfl rfl rfl, hI.out.2.2⟩⟩
              · intro LL a wx hI hLk hd K' hK
                obtain ⟨t, hI⟩ := hI
                obtain rfl := hI.out.1
                have e34 := hI.out.2.1.at 34 rfl (hd 34 rfl)
                have e35 := hI.out.2.1.at 35 rfl (hd 35 rfl)
                have hb := hI.out.2.2
                have eg := hI.out.2.1.at 30 rfl (hd 30 rfl)
                rw [eg]
                rw [if_pos (by rfl)]
                go_simp
                go_at_call 42
                refine (KE.out _ _ _ _).mono ?_
                rintro e w2 ⟨rfl, hb1⟩
                rw [m2]
                exact hK.out _ _ ⟨(put1 (put1 (put1 (put1 t 73 (.func (.func 42) #[] #[])) 74 (.agg #[.int .i64 x0, .int .i64 z1, .int .i64 z2])) 69 (.bool false)) 75 (.int .i64 (wrap64 (x1 + x2)))), ⟨rfl, (((hI.out.2.1.same (s := 73) (v := .func (.func 42) #[] #[]) e34).same (s := 74) (v := .agg #[.int .i64 x0, .int .i64 z1, .int .i64 z2]) e35).same (s := 69) (v := .bool false) eg).upd 36 rfl rfl rfl rfl, ⟨below_step hb.out hb1⟩⟩⟩
              · intro LL a wx hI hLk hd K' hK
                obtain ⟨t, hI⟩ := hI
                obtain rfl := hI.out.1
                have e33 := hI.out.2.1.at 33 rfl (hd 33 rfl)
                have e36 := hI.out.2.1.at 36 rfl (hd 36 rfl)
                have eg := hI.out.2.1.at 30 rfl (hd 30 rfl)
                rw [eg]
                rw [if_pos (by rfl)]
                go_simp
                exact hK.out _ _ ⟨(put1 (put1 (put1 (put1 t 72 (.int .i64 (wrap64 (x1 + x2)))) 75 (.int .i64 (wrap64 (x1 + x2)))) 69 (.bool false)) 76 (.bool true)), ⟨rfl, (((hI.out.2.1.same (s := 72) (v := .int .i64 (wrap64 (x1 + x2))) e33).same (s := 75) (v := .int .i64 (wrap64 (x1 + x2))) e36).same (s := 69) (v := .bool false) eg).upd 37 rfl rfl rfl rfl, hI.out.2.2⟩⟩
              · intro LL a wx hI hLk hd K' hK
                obtain ⟨t, hI⟩ := hI
                obtain rfl := hI.out.1
                have e30 := hI.out.2.1.at 30 rfl (hd 30 rfl)
                have e37 := hI.out.2.1.at 37 rfl (hd 37 rfl)
                have eg := hI.out.2.1.at 26 rfl (hd 26 rfl)
                rw [eg]
                rw [if_pos (by rfl)]
                go_simp
                exact hK.out _ _ ⟨(put1 (put1 (put1 (put1 t 69 (.bool false)) 76 (.bool true)) 65 (.bool true)) 77 (.bool true)), ⟨rfl, (((hI.out.2.1.same (s := 69) (v := .bool false) e30).same (s := 76) (v := .bool true) e37).same (s := 65) (v := .bool true) eg).upd 38 rfl rfl rfl rfl, hI.out.2.2⟩⟩
              · intro LL a wx hI hLk hd K' hK
                obtain ⟨t, hI⟩ := hI
                obtain rfl := hI.out.1
                have e26 := hI.out.2.1.at 26 rfl (hd 26 rfl)
                have e38 := hI.out.2.1.at 38 rfl (hd 38 rfl)
                rw [if_pos (by rfl)]
                go_simp
                exact hK.out _ _ ⟨(put1 (put1 (put1 t 65 (.bool true)) 77 (.bool true)) 78 (.bool true)), ⟨rfl, ((hI.out.2.1.same (s := 65) (v := .bool true) e26).same (s := 77) (v := .bool true) e38).upd 39 rfl rfl rfl rfl, hI.out.2.2⟩⟩
              · intro LL a wx hI hLk hd K' hK
                obtain ⟨t, hI⟩ := hI
                obtain rfl := hI.out.1
                have e39 := hI.out.2.1.at 39 rfl (hd 39 rfl)
                rw [if_pos (by rfl)]
                go_simp
                exact hK.out _ _ ⟨(put1 (put1 t 78 (.bool true)) 79 (.bool true)), ⟨rfl, (hI.out.2.1.same (s := 78) (v := .bool true) e39).upd 40 rfl rfl rfl rfl, hI.out.2.2⟩⟩
              · intro LL a wx hI hLk hd K' hK
                obtain ⟨t, hI⟩ := hI
                obtain rfl := hI.out.1
                have hb := hI.out.2.2
                obtain ⟨c0, c1, c2⟩ := cells3 T7.out hb.out
                have eg := hI.out.2.1.at 40 rfl (hd 40 rfl)
                rw [eg]
                rw [if_pos (by rfl)]
                go_simp
                exact hK.out _ _ ⟨(put1 (put1 t 79 (.bool true)) 80 (.agg #[.int .i64 a0_0, .int .i64 a0_1, .int .i64 a0_2])), ⟨rfl, (hI.out.2.1.same (s := 79) (v := .bool true) eg).upd 41 rfl rfl rfl rfl, hI.out.2.2⟩⟩
              · intro LL a wx hI hLk hd K' hK
                obtain ⟨t, hI⟩ := hI
                obtain rfl := hI.out.1
                have hb := hI.out.2.2
                obtain ⟨c0, c1, c2⟩ := cells3 T7.out hb.out
                have eg := hI.out.2.1.at 40 rfl (hd 40 rfl)
                rw [eg]
                rw [if_pos (by rfl)]
                go_simp
                exact hK.out _ _ ⟨(put1 (put1 t 79 (.bool true)) 81 (.agg #[.int .i64 a0_0, .int .i64 a0_1, .int .i64 a0_2])), ⟨rfl, (hI.out.2.1.same (s := 79) (v := .bool true) eg).upd 42 rfl rfl rfl rfl, hI.out.2.2⟩⟩
              · intro LL a wx hI hLk hd K' hK
                obtain ⟨t, hI⟩ := hI
                obtain rfl := hI.out.1
                have e41 := hI.out.2.1.at 41 rfl (hd 41 rfl)
                have e42 := hI.out.2.1.at 42 rfl (hd 42 rfl)
                have hb := hI.out.2.2
                have eg := hI.out.2.1.at 40 rfl (hd 40 rfl)
                rw [eg]
                rw [if_pos (by rfl)]
                go_simp
                go_at_call 32
                refine (KS.out _).mono ?_
                rintro e w2 ⟨rfl, hb1⟩
                exact hK.out _ _ ⟨(put1 (put1 (put1 (put1 t 80 (.agg #[.int .i64 a0_0, .int .i64 a0_1, .int .i64 a0_2])) 81 (.agg #[.int .i64 a0_0, .int .i64 a0_1, .int .i64 a0_2])) 79 (.bool true)) 82 (.agg #[.int .i64 s0, .int .i64 s1, .int .i64 s2])), ⟨rfl, (((hI.out.2.1.same (s := 80) (v := .agg #[.int .i64 a0_0, .int .i64 a0_1, .int .i64 a0_2]) e41).same (s := 81) (v := .agg #[.int .i64 a0_0, .int .i64 a0_1, .int .i64 a0_2]) e42).same (s := 79) (v := .bool true) eg).upd 43 rfl rfl rfl rfl, ⟨below_step hb.out hb1⟩⟩⟩
              · intro LL a wx hI hLk hd K' hK
                obtain ⟨t, hI⟩ := hI
                obtain rfl := hI.out.1
                have hb := hI.out.2.2
                obtain ⟨c0, c1, c2⟩ := cells3 T7.out hb.out
                have eg := hI.out.2.1.at 40 rfl (hd 40 rfl)
                rw [eg]
                rw [if_pos (by rfl)]
                go_simp
                exact hK.out _ _ ⟨(put1 (put1 t 79 (.bool true)) 83 (.agg #[.int .i64 a0_0, .int .i64 a0_1, .int .i64 a0_2])), ⟨rfl, (hI.out.2.1.same (s := 79) (v := .bool true) eg).upd 44 rfl rfl rfl rfl, hI.out.2.2⟩⟩
              · intro LL a wx hI hLk hd K' hK
                obtain ⟨t, hI⟩ := hI
                obtain rfl := hI.out.1
                have eg := hI.out.2.1.at 40 rfl (hd 40 rfl)
                rw [eg]
                rw [if_pos (by rfl)]
                go_simp
                exact hK.out _ _ ⟨(put1 (put1 t 79 (.bool true)) 84 (.agg #[.int .i64 0, .int .i64 0, .int .i64 0])), ⟨rfl, (hI.out.2.1.same (s := 79) (v := .bool true) eg).upd 45 rfl rfl rfl rfl, hI.out.2.2⟩⟩
              · intro LL a wx hI hLk hd K' hK
                obtain ⟨t, hI⟩ := hI
                obtain rfl := hI.out.1
                have e44 := hI.out.2.1.at 44 rfl (hd 44 rfl)
                have e45 := hI.out.2.1.at 45 rfl (hd 45 rfl)
                have hb := hI.out.2.2
                have eg := hI.out.2.1.at 40 rfl (hd 40 rfl)
                rw [eg]
                rw [if_pos (by rfl)]
                go_simp
                go_at_call 32
                refine (KZ.out _).mono ?_
                rintro e w2 ⟨rfl, hb1⟩
                exact hK.out _ _ ⟨(put1 (put1 (put1 (put1 t 83 (.agg #[.int .i64 a0_0, .int .i64 a0_1, .int .i64 a0_2])) 84 (.agg #[.int .i64 0, .int .i64 0, .int .i64 0])) 79 (.bool true)) 85 (.agg #[.int .i64 s0, .int .i64 s1, .int .i64 s2])), ⟨rfl, (((hI.out.2.1.same (s := 83) (v := .agg #[.int .i64 a0_0, .int .i64 a0_1, .int .i64 a0_2]) e44).same (s := 84) (v := .agg #[.int .i64 0, .int .i64 0, .int .i64 0]) e45).same (s := 79) (v := .bool true) eg).upd 46 rfl rfl rfl rfl, ⟨below_step hb.out hb1⟩⟩⟩
              · intro LL a wx hI hLk hd K' hK
                obtain ⟨t, hI⟩ := hI
                obtain rfl := hI.out.1
                have e43 := hI.out.2.1.at 43 rfl (hd 43 rfl)
                have e46 := hI.out.2.1.at 46 rfl (hd 46 rfl)
                have eg := hI.out.2.1.at 40 rfl (hd 40 rfl)
                rw [eg]
                rw [if_pos (by rfl)]
                go_simp
                exact hK.out _ _ ⟨(put1 (put1 (put1 (put1 t 82 (.agg #[.int .i64 s0, .int .i64 s1, .int .i64 s2])) 85 (.agg #[.int .i64 s0, .int .i64 s1, .int .i64 s2])) 79 (.bool true)) 86 (.bool true)), ⟨rfl, (((hI.out.2.1.same (s := 82) (v := .agg #[.int .i64 s0, .int .i64 s1, .int .i64 s2]) e43).same (s := 85) (v := .agg #[.int .i64 s0, .int .i64 s1, .int .i64 s2]) e46).same (s := 79) (v := .bool true) eg).upd 47 rfl rfl rfl rfl, hI.out.2.2⟩⟩
              · intro LL a wx hI hLk hd K' hK
                obtain ⟨t, hI⟩ := hI
                obtain rfl := hI.out.1
                have e40 := hI.out.2.1.at 40 rfl (hd 40 rfl)
                have e47 := hI.out.2.1.at 47 rfl (hd 47 rfl)
                rw [if_pos (by rfl)]
                go_simp
                exact hK.out _ _ ⟨(put1 (put1 (put1 t 79 (.bool true)) 86 (.bool true)) 87 (.bool true)), ⟨rfl, ((hI.out.2.1.same (s := 79) (v := .bool true) e40).same (s := 86) (v := .bool true) e47).upd 48 rfl rfl rfl rfl, hI.out.2.2⟩⟩
              · intro LL a wx hI hLk hd K' hK
                obtain ⟨t, hI⟩ := hI
                obtain rfl := hI.out.1
                have e48 := hI.out.2.1.at 48 rfl (hd 48 rfl)
                rw [if_pos (by rfl)]
                go_simp
                exact hK.out _ _ ⟨(put1 (put1 t 87 (.bool true)) 6 (.bool true)), ⟨rfl, (hI.out.2.1.same (s := 87) (v := .bool true) e48).upd 49 rfl rfl rfl rfl, hI.out.2.2⟩⟩
            · intro LL a wx3 hall hI
              obtain ⟨t, hI⟩ := hI
              obtain rfl := hI.out.1
              have hb := hI.out.2.2
              have e49 := hI.out.2.1.at 49 rfl (hall 49 (by decide))
              rw [e49]
              go_wp2
              go_ret
              exact ⟨rfl, below_step HB2.out hb.out⟩


end Go.Proofs.Ytbfllekkbmeibaa.PLeaseLater
