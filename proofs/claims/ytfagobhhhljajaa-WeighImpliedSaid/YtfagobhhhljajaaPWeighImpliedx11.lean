-- printed by a program of this session (wip/tools), a turned form of the kit's print
import Derived.Test.YtfagobhhhljajaaWPeel
import Derived.Test.YtfagobhhhljajaaPWeighImpliedx0
import Derived.Test.YtfagobhhhljajaaPWeighImpliedx2
import Derived.Test.YtfagobhhhljajaaPWeighImpliedx6
import Derived.Test.YtfagobhhhljajaaPWeighImpliedx7
import Derived.Test.YtfagobhhhljajaaPWeighImpliedx9
import Derived.Test.YtfagobhhhljajaaPWeighImpliedx10
namespace Go.Proofs.Ytfagobhhhljajaa.PWeighImplied
open Go.RowKit Go.Proofs.YtfagobhhhljajaaW.PrintWords Go.Proofs.YtfagobhhhljajaaW.PrintLast Go.Proofs.YtfagobhhhljajaaW.PrintMore
attribute [local go_sem] max2_int min2_int max_two min_two max_three min_three max_four min_four max2_str min2_str str_geq str_leq str_gtr   -- for this text's walks alone
set_option linter.unusedVariables false
set_option linter.unusedSimpArgs false

attribute [local go_sem high] eqA46
/-! ### gazetteerlaw3_awake: function 9 -/
def gazetteerlaw3_awake.f (k : Nat)  : Option (Bool) := (some (([(⟨(([97] : List Int)), (([(⟨1, 1, 1⟩ : S39)] : List (S39)))⟩ : S44)] : List (S44)) : List (S44))).bind fun y163 => ((weigh_Elements.f ([] : List (S42)) y163 0 false (([97, 98] : List Int))).bind fun bt170 => ((weigh_Implied.f 98).bind fun bt174 => (if bt170.2 = 0 then ((weigh_May.f ([] : List (S42)) y163 0 false).bind fun t181 => (if t181 = true then ((gazetteerlaw3_Same.f k bt170.1 (([(⟨1, 1, 1⟩ : S39), (⟨bt174.1, bt174.2.1, bt174.2.2.1⟩ : S39), (⟨bt174.2.2.2.1, bt174.2.2.2.2.1, bt174.2.2.2.2.2⟩ : S39)] : List (S39)))).bind fun t185 => (if t185 = true then ((gazetteerref1_Implied.f 98).bind fun bt186 => (some ((bt174.1 == bt186.1 && (bt174.2.1 == bt186.2.1 && (bt174.2.2.1 == bt186.2.2.1))) && ((bt174.2.2.2.1 == bt186.2.2.2.1 && (bt174.2.2.2.2.1 == bt186.2.2.2.2.1 && (bt174.2.2.2.2.2 == bt186.2.2.2.2.2))))))) else (some false))) else (some false))) else (some false))))
theorem gazetteerlaw3_awake.mono : ∀ k, LeO (gazetteerlaw3_awake.f k ) (gazetteerlaw3_awake.f (k + 1) ) := by
  intro  k
  unfold gazetteerlaw3_awake.f
  repeat' first
      | (with_reducible exact gazetteerlaw3_Same.mono _ _ _)
      | (with_reducible exact LeO.refl _)
      | (with_reducible exact LeO.none _)
      | (with_reducible refine LeO.ite ?_ ?_)
      | (with_reducible refine LeO.bind ?_ (fun _ => ?_))
      | exact gazetteerlaw3_Same.mono _ _ _
      | exact LeO.none _
      | refine LeO.ite ?_ ?_
      | refine LeO.bind ?_ (fun _ => ?_)
def gazetteerlaw3_awake.T4 : Bool × List (List Nat × List Nat) := (true, [([], []), ([0], [0]), ([1], [1]), ([2], [2]), ([3, 2, 2], [2, 3]), ([2, 4], [2, 4]), ([5, 4], [5]), ([6], [6]), ([6], [6]), ([6], [6]), ([9, 6], [6, 9]), ([6], [6]), ([11, 6], [6, 11]), ([8, 10, 12, 6], [6, 8, 10, 12]), ([7, 13, 6, 6], [6, 7, 13]), ([6, 14], [6, 14]), ([15, 14], [15]), ([16], [16]), ([16, 16], [16]), ([17, 18, 16], [16, 17, 18]), ([16, 19], [16, 19]), ([20, 18, 0, 1, 2, 3, 4, 5, 6, 7, 8, 9, 10, 11, 12, 13, 14, 15, 16, 17, 18, 19, 20], [20])])
def gazetteerlaw3_awake.B4 : List Nat := [0, 1, 3, 7, 15, 31, 63, 127, 127, 127, 639, 127, 2175, 8063, 16383, 32767, 65535, 131071, 131071, 524287, 1048575, 2097151]
theorem gazetteerlaw3_awake.tab4 : rtab .any (opsOf Try.f9 4) = gazetteerlaw3_awake.T4 := by kernel_rfl
theorem gazetteerlaw3_awake.bits4 : waitsOk gazetteerlaw3_awake.T4.2 gazetteerlaw3_awake.B4 = true := by kernel_rfl
set_option maxHeartbeats 8000000 in
set_option maxRecDepth 100000 in
theorem gazetteerlaw3_awake.calls (k : Nat)  (r : Bool) (w : World) (h : gazetteerlaw3_awake.f k  = some r) :
    Calls Try.prog 9 #[] w fun e w' => e = .returned (.bool r) ∧ Below w.heap.size w w' := by
  have hu39 := Try.underlying39
  have hu44 := Try.underlying44
  have hu25 := Try.underlying25
  have hu46 := Try.underlying46
  have HB := Aside0.mk (Below.refl w.heap.size w)
  have H : ((some (([(⟨(([97] : List Int)), (([(⟨1, 1, 1⟩ : S39)] : List (S39)))⟩ : S44)] : List (S44)) : List (S44))).bind fun y163 => ((weigh_Elements.f ([] : List (S42)) y163 0 false (([97, 98] : List Int))).bind fun bt170 => ((weigh_Implied.f 98).bind fun bt174 => (if bt170.2 = 0 then ((weigh_May.f ([] : List (S42)) y163 0 false).bind fun t181 => (if t181 = true then ((gazetteerlaw3_Same.f k bt170.1 (([(⟨1, 1, 1⟩ : S39), (⟨bt174.1, bt174.2.1, bt174.2.2.1⟩ : S39), (⟨bt174.2.2.2.1, bt174.2.2.2.2.1, bt174.2.2.2.2.2⟩ : S39)] : List (S39)))).bind fun t185 => (if t185 = true then ((gazetteerref1_Implied.f 98).bind fun bt186 => (some ((bt174.1 == bt186.1 && (bt174.2.1 == bt186.2.1 && (bt174.2.2.1 == bt186.2.2.1))) && ((bt174.2.2.2.1 == bt186.2.2.2.1 && (bt174.2.2.2.2.1 == bt186.2.2.2.2.1 && (bt174.2.2.2.2.2 == bt186.2.2.2.2.2))))))) else (some false))) else (some false))) else (some false))))) = some r := h
  clear h
  obtain ⟨y157, hy157⟩ : ∃ y_ : List Int, y_ = (([97] : List Int)) := ⟨_, rfl⟩
  replace H : ((some (([(⟨y157, (([(⟨1, 1, 1⟩ : S39)] : List (S39)))⟩ : S44)] : List (S44)) : List (S44))).bind fun y163 => ((weigh_Elements.f ([] : List (S42)) y163 0 false (([97, 98] : List Int))).bind fun bt170 => ((weigh_Implied.f 98).bind fun bt174 => (if bt170.2 = 0 then ((weigh_May.f ([] : List (S42)) y163 0 false).bind fun t181 => (if t181 = true then ((gazetteerlaw3_Same.f k bt170.1 (([(⟨1, 1, 1⟩ : S39), (⟨bt174.1, bt174.2.1, bt174.2.2.1⟩ : S39), (⟨bt174.2.2.2.1, bt174.2.2.2.2.1, bt174.2.2.2.2.2⟩ : S39)] : List (S39)))).bind fun t185 => (if t185 = true then ((gazetteerref1_Implied.f 98).bind fun bt186 => (some ((bt174.1 == bt186.1 && (bt174.2.1 == bt186.2.1 && (bt174.2.2.1 == bt186.2.2.1))) && ((bt174.2.2.2.1 == bt186.2.2.2.1 && (bt174.2.2.2.2.1 == bt186.2.2.2.2.1 && (bt174.2.2.2.2.2 == bt186.2.2.2.2.2))))))) else (some false))) else (some false))) else (some false))))) = some r := by first | (rw [hy157]; with_reducible exact H) | (have H2_ := (Option.bind_some _ _).symm.trans H; rw [hy157]; with_reducible exact H2_) | (have H2_ := (Option.bind_some _ _).symm.trans H; with_reducible exact H2_) | with_reducible exact H | (rw [hy157]; exact H) | exact H
  have Ny157 := Aside0.mk hy157
  clear hy157
  obtain ⟨y160, hy160⟩ : ∃ y_ : List (S39), y_ = (([(⟨1, 1, 1⟩ : S39)] : List (S39))) := ⟨_, rfl⟩
  replace H : ((some (([(⟨y157, y160⟩ : S44)] : List (S44)) : List (S44))).bind fun y163 => ((weigh_Elements.f ([] : List (S42)) y163 0 false (([97, 98] : List Int))).bind fun bt170 => ((weigh_Implied.f 98).bind fun bt174 => (if bt170.2 = 0 then ((weigh_May.f ([] : List (S42)) y163 0 false).bind fun t181 => (if t181 = true then ((gazetteerlaw3_Same.f k bt170.1 (([(⟨1, 1, 1⟩ : S39), (⟨bt174.1, bt174.2.1, bt174.2.2.1⟩ : S39), (⟨bt174.2.2.2.1, bt174.2.2.2.2.1, bt174.2.2.2.2.2⟩ : S39)] : List (S39)))).bind fun t185 => (if t185 = true then ((gazetteerref1_Implied.f 98).bind fun bt186 => (some ((bt174.1 == bt186.1 && (bt174.2.1 == bt186.2.1 && (bt174.2.2.1 == bt186.2.2.1))) && ((bt174.2.2.2.1 == bt186.2.2.2.1 && (bt174.2.2.2.2.1 == bt186.2.2.2.2.1 && (bt174.2.2.2.2.2 == bt186.2.2.2.2.2))))))) else (some false))) else (some false))) else (some false))))) = some r := by first | (rw [hy160]; with_reducible exact H) | (have H2_ := (Option.bind_some _ _).symm.trans H; rw [hy160]; with_reducible exact H2_) | (have H2_ := (Option.bind_some _ _).symm.trans H; with_reducible exact H2_) | with_reducible exact H | (rw [hy160]; exact H) | exact H
  have Ny160 := Aside0.mk hy160
  clear hy160
  obtain ⟨y163, hy163⟩ : ∃ y_ : List (S44), y_ = (([(⟨y157, y160⟩ : S44)] : List (S44))) := ⟨_, rfl⟩
  replace H : ((weigh_Elements.f ([] : List (S42)) y163 0 false (([97, 98] : List Int))).bind fun bt170 => ((weigh_Implied.f 98).bind fun bt174 => (if bt170.2 = 0 then ((weigh_May.f ([] : List (S42)) y163 0 false).bind fun t181 => (if t181 = true then ((gazetteerlaw3_Same.f k bt170.1 (([(⟨1, 1, 1⟩ : S39), (⟨bt174.1, bt174.2.1, bt174.2.2.1⟩ : S39), (⟨bt174.2.2.2.1, bt174.2.2.2.2.1, bt174.2.2.2.2.2⟩ : S39)] : List (S39)))).bind fun t185 => (if t185 = true then ((gazetteerref1_Implied.f 98).bind fun bt186 => (some ((bt174.1 == bt186.1 && (bt174.2.1 == bt186.2.1 && (bt174.2.2.1 == bt186.2.2.1))) && ((bt174.2.2.2.1 == bt186.2.2.2.1 && (bt174.2.2.2.2.1 == bt186.2.2.2.2.1 && (bt174.2.2.2.2.2 == bt186.2.2.2.2.2))))))) else (some false))) else (some false))) else (some false)))) = some r := by first | (rw [hy163]; with_reducible exact H) | (have H2_ := (Option.bind_some _ _).symm.trans H; rw [hy163]; with_reducible exact H2_) | (have H2_ := (Option.bind_some _ _).symm.trans H; with_reducible exact H2_) | with_reducible exact H | (rw [hy163]; exact H) | exact H
  have Ny163 := Aside0.mk hy163
  clear hy163
  obtain ⟨y167, hy167⟩ : ∃ y_ : List Int, y_ = (([97, 98] : List Int)) := ⟨_, rfl⟩
  replace H : ((weigh_Elements.f ([] : List (S42)) y163 0 false y167).bind fun bt170 => ((weigh_Implied.f 98).bind fun bt174 => (if bt170.2 = 0 then ((weigh_May.f ([] : List (S42)) y163 0 false).bind fun t181 => (if t181 = true then ((gazetteerlaw3_Same.f k bt170.1 (([(⟨1, 1, 1⟩ : S39), (⟨bt174.1, bt174.2.1, bt174.2.2.1⟩ : S39), (⟨bt174.2.2.2.1, bt174.2.2.2.2.1, bt174.2.2.2.2.2⟩ : S39)] : List (S39)))).bind fun t185 => (if t185 = true then ((gazetteerref1_Implied.f 98).bind fun bt186 => (some ((bt174.1 == bt186.1 && (bt174.2.1 == bt186.2.1 && (bt174.2.2.1 == bt186.2.2.1))) && ((bt174.2.2.2.1 == bt186.2.2.2.1 && (bt174.2.2.2.2.1 == bt186.2.2.2.2.1 && (bt174.2.2.2.2.2 == bt186.2.2.2.2.2))))))) else (some false))) else (some false))) else (some false)))) = some r := by first | (rw [hy167]; with_reducible exact H) | (have H2_ := (Option.bind_some _ _).symm.trans H; rw [hy167]; with_reducible exact H2_) | (have H2_ := (Option.bind_some _ _).symm.trans H; with_reducible exact H2_) | with_reducible exact H | (rw [hy167]; exact H) | exact H
  have Ny167 := Aside0.mk hy167
  clear hy167
  replace H := Option.bind_eq_some_iff.mp H
  obtain ⟨⟨t170, t173⟩, A10, H⟩ := H
  replace H : ((weigh_Implied.f 98).bind fun bt174 => (if t173 = 0 then ((weigh_May.f ([] : List (S42)) y163 0 false).bind fun t181 => (if t181 = true then ((gazetteerlaw3_Same.f k t170 (([(⟨1, 1, 1⟩ : S39), (⟨bt174.1, bt174.2.1, bt174.2.2.1⟩ : S39), (⟨bt174.2.2.2.1, bt174.2.2.2.2.1, bt174.2.2.2.2.2⟩ : S39)] : List (S39)))).bind fun t185 => (if t185 = true then ((gazetteerref1_Implied.f 98).bind fun bt186 => (some ((bt174.1 == bt186.1 && (bt174.2.1 == bt186.2.1 && (bt174.2.2.1 == bt186.2.2.1))) && ((bt174.2.2.2.1 == bt186.2.2.2.1 && (bt174.2.2.2.2.1 == bt186.2.2.2.2.1 && (bt174.2.2.2.2.2 == bt186.2.2.2.2.2))))))) else (some false))) else (some false))) else (some false))) = some r := H
  have A1 := Aside0.mk A10
  clear A10
  replace H := Option.bind_eq_some_iff.mp H
  obtain ⟨⟨t174, t175, t176, t177, t178, t179⟩, A20, H⟩ := H
  replace H : (if t173 = 0 then ((weigh_May.f ([] : List (S42)) y163 0 false).bind fun t181 => (if t181 = true then ((gazetteerlaw3_Same.f k t170 (([(⟨1, 1, 1⟩ : S39), (⟨t174, t175, t176⟩ : S39), (⟨t177, t178, t179⟩ : S39)] : List (S39)))).bind fun t185 => (if t185 = true then ((gazetteerref1_Implied.f 98).bind fun bt186 => (some ((t174 == bt186.1 && (t175 == bt186.2.1 && (t176 == bt186.2.2.1))) && ((t177 == bt186.2.2.2.1 && (t178 == bt186.2.2.2.2.1 && (t179 == bt186.2.2.2.2.2))))))) else (some false))) else (some false))) else (some false)) = some r := H
  have A2 := Aside0.mk A20
  clear A20
  by_cases c3 : t173 = 0
  rotate_left
  ·
   rw [if_neg c3] at H
   have c3b0 : (t173 == 0) = false := beq_eq_false_iff_ne.mpr c3
   have c3b1 : (t173 != 0) = true := bne_iff_ne.mpr c3
   obtain rfl := Option.some.inj H
   go_enter Try.func9, Try.ntmps9
   try go_wp2_with (first | ((with_reducible refine gate_dst (N := 5) rfl ?_); (try (refine gate_guard (by rfl) ?_; dsimp only)); refine Kd.R_lit (Kd.int .i32) _ 21 ?hg (N := 5) ?hd (xs := ([97] : List Int)) (inner := [.int .i32 97]) (ok := fun _ => True) (okp := fun _ => True) ?hr ?hp (fun _ hk => hk) trivial (Below.refl _ _) (Nat.le_refl _) (by simp) ?_; (case hd => rfl); (case hg => rfl); (case hr => first | (go_simp; done) | (go_simp; rfl)); (case hp => exact (Reps.one (show Kd.M (Kd.int .i32) _ _ _ 97 [.int .i32 97] from rfl) (Reps.none _ _))); intro v158 w84 ho85 hb hg_ hnew_; clear hg_ hnew_; (first | rw [← Ny157.out] at ho85 | (simp only [Int.reduceToNat] at ho85; rw [← Ny157.out] at ho85)); have HO159 := Aside0.mk (Kd.R_lower ho85 (below_size (by repeat (first | (with_reducible first | exact HB.out | apply below_alloc | apply pw_below_drewN | apply below_drew1) | exact HB.out)))); replace HB := Aside0.mk (below_step (by repeat (first | (with_reducible first | exact HB.out | apply below_alloc | apply pw_below_drewN | apply below_drew1) | exact HB.out)) hb); clear hb ho85) | ((with_reducible refine gate_dst (N := 7) rfl ?_); (try (refine gate_guard (by rfl) ?_; dsimp only)); refine Kd.R_lit k39 _ 39 ?hg (N := 7) ?hd (xs := ([(⟨1, 1, 1⟩ : S39)] : List (S39))) (inner := [.int .i64 1, .int .i64 1, .int .i64 1]) (ok := fun _ => True) (okp := fun _ => True) ?hr ?hp (fun _ hk => hk) trivial (Below.refl _ _) (Nat.le_refl _) (by simp) ?_; (case hd => rfl); (case hg => rfl); (case hr => first | (go_simp; done) | (go_simp; rfl)); (case hp => exact (Reps.c3 (show Kd.M k39 _ _ _ (⟨1, 1, 1⟩ : S39) [.int .i64 1, .int .i64 1, .int .i64 1] from (k39_mkM _ _ _ (⟨1, 1, 1⟩ : S39) )) (Reps.none _ _))); intro v161 w86 ho87 hb hg_ hnew_; clear hg_ hnew_; (first | rw [← Ny160.out] at ho87 | (simp only [Int.reduceToNat] at ho87; rw [← Ny160.out] at ho87)); have HO162 := Aside0.mk (Kd.R_lower ho87 (below_size (by repeat (first | (with_reducible first | exact HB.out | apply below_alloc | apply pw_below_drewN | apply below_drew1) | exact HB.out)))); replace HO159 := Aside0.mk (Kd.R_below (pR HO159.out) hb); replace HB := Aside0.mk (below_step (by repeat (first | (with_reducible first | exact HB.out | apply below_alloc | apply pw_below_drewN | apply below_drew1) | exact HB.out)) hb); clear hb ho87; obtain ⟨Ao88, co88, eo88⟩ := Kd.R_slice HO162.out; subst eo88; obtain ⟨Ao89, co89, eo89⟩ := Kd.R_slice HO159.out; subst eo89) | ((with_reducible refine gate_dst (N := 9) rfl ?_); (try (refine gate_guard (by rfl) ?_; dsimp only)); refine Kd.N_lit k44 _ 44 ?hg (N' := 9) ?hd (xs := ([(⟨y157, y160⟩ : S44)] : List (S44))) (inner := [.slice Ao89 y157.length co89, .slice Ao88 y160.length co88]) (ok := (fun _ => True)) (okp := (fun _ => True)) ?hr ?hp (fun _ hk => hk) ((show ∀ k_, w86.heap.size ≤ k_ → (fun _ => True) k_ from fun k_ hk => trivial) _ (Nat.le_refl _)) (Below.refl _ _) (Nat.le_refl _) (by simp) ?_; (case hd => rfl); (case hg => rfl); (case hr => first | (go_simp; done) | (go_simp; rfl)); (case hp => exact (Reps.c2 (show Kd.FK k44 _ _ (⟨y157, y160⟩ : S44) [.slice Ao89 y157.length co89, .slice Ao88 y160.length co88] from (k44_mkF _ _ (⟨y157, y160⟩ : S44) (Kd.R_reads' (Kd.R_mono (ok' := (fun _ => True)) (HO159.out) (fun k_ hk => trivial))).2.1 (Kd.R_F (Kd.R_mono (ok' := (fun _ => True)) (HO159.out) (fun k_ hk => trivial))) (Kd.R_reads' (Kd.R_mono (ok' := (fun _ => True)) (HO162.out) (fun k_ hk => trivial))).2.1 (Kd.R_F (Kd.R_mono (ok' := (fun _ => True)) (HO162.out) (fun k_ hk => trivial))))) (Reps.none _ _))); intro v164 w90 ho91 hb hg_ hnew_; clear hg_ hnew_; (first | rw [← Ny163.out] at ho91 | (simp only [Int.reduceToNat] at ho91; rw [← Ny163.out] at ho91)); have HO165 := Aside0.mk (Kd.N_lower ho91 (below_size (by repeat (first | (with_reducible first | exact HB.out | apply below_alloc | apply pw_below_drewN | apply below_drew1) | exact HB.out)))); replace HB := Aside0.mk (below_step (by repeat (first | (with_reducible first | exact HB.out | apply below_alloc | apply pw_below_drewN | apply below_drew1) | exact HB.out)) hb); clear HO159 HO162; clear hb ho91; obtain ⟨Ao92, co92, eo92⟩ := Kd.N_slice HO165.out; subst eo92) | ((with_reducible refine gate_dst (N := 1) rfl ?_); (try (refine gate_guard (by rfl) ?_; dsimp only)); refine box_event ?hg (N := 1) ?hd (cs := #[.slice none 0 0, .slice none 0 0, .int .i64 0, .bool false]) (t := 25) ?hr ?_; (case hd => rfl); (case hg => rfl); (case hr => first | (go_simp; done) | (go_simp; rfl)); intro gb166 hg w93 hbox hb; have BK166 := Aside0.mk (hbox); have GW166 := Aside0.mk ((by rw [hg]; exact (below_size (by repeat (first | (with_reducible first | exact HB.out | apply below_alloc | apply pw_below_drewN | apply below_drew1) | exact HB.out))) : w.heap.size ≤ gb166)); have GE166 := Aside0.mk ((by rw [hg]; exact (below_size (by repeat (first | (with_reducible first | exact HB.out | apply below_alloc | apply pw_below_drewN | apply below_drew1) | exact HB.out))) : w.heap.size ≤ gb166)); replace HO165 := Aside0.mk (Kd.N_below (Kd.N_elderB (by (with_reducible repeat (first | apply Kd.N_alloc | apply Kd.N_drewN | apply Kd.N_drew)); exact HO165.out) gb166 (Nat.le_of_eq hg.symm)) hb); replace HB := Aside0.mk (below_step (by repeat (first | (with_reducible first | exact HB.out | apply below_alloc | apply pw_below_drewN | apply below_drew1) | exact HB.out)) hb); clear hb hbox hg; have hcz94_0 : w93.cell? ⟨gb166, 0, none⟩ = some (.slice none 0 0) := blk_cell BK166.out 0; have hcz94_1 : w93.cell? ⟨gb166, 1, none⟩ = some (.slice none 0 0) := blk_cell BK166.out 1; have hcz94_2 : w93.cell? ⟨gb166, 2, none⟩ = some (.int .i64 0) := blk_cell BK166.out 2; have hcz94_3 : w93.cell? ⟨gb166, 3, none⟩ = some (.bool false) := blk_cell BK166.out 3; have hfz94_0 := blk_frozen BK166.out 0; have hfz94_1 := blk_frozen BK166.out 1; have hfz94_2 := blk_frozen BK166.out 2; have hfz94_3 := blk_frozen BK166.out 3) | ((with_reducible refine gate_dst (N := 13) rfl ?_); (try (refine gate_guard (by rfl) ?_; dsimp only)); refine Kd.R_lit (Kd.int .i32) _ 21 ?hg (N := 13) ?hd (xs := ([97, 98] : List Int)) (inner := [.int .i32 97, .int .i32 98]) (ok := fun _ => True) (okp := fun _ => True) ?hr ?hp (fun _ hk => hk) trivial (Below.refl _ _) (Nat.le_refl _) (by simp) ?_; (case hd => rfl); (case hg => rfl); (case hr => first | (go_simp; done) | (go_simp; rfl)); (case hp => exact (Reps.one (show Kd.M (Kd.int .i32) _ _ _ 97 [.int .i32 97] from rfl) (Reps.one (show Kd.M (Kd.int .i32) _ _ _ 98 [.int .i32 98] from rfl) (Reps.none _ _)))); intro v168 w95 ho96 hb hg_ hnew_; clear hg_ hnew_; (first | rw [← Ny167.out] at ho96 | (simp only [Int.reduceToNat] at ho96; rw [← Ny167.out] at ho96)); have HO169 := Aside0.mk (Kd.R_lower ho96 (below_size (by repeat (first | (with_reducible first | exact HB.out | apply below_alloc | apply pw_below_drewN | apply below_drew1 | refine below_set ?_ GE166.out) | exact HB.out)))); replace HO165 := Aside0.mk (Kd.N_elder' (by (with_reducible repeat (first | apply Kd.N_alloc | apply Kd.N_drewN | apply Kd.N_drew)); exact (Kd.N_mono (Kd.N_far (p := ⟨gb166, 3, none⟩) (Kd.N_far (p := ⟨gb166, 2, none⟩) (Kd.N_far (p := ⟨gb166, 1, none⟩) (Kd.N_far (p := ⟨gb166, 0, none⟩) (Kd.N_mono HO165.out (fun k_ hk => (⟨hk, hk.2⟩ : _ ∧ k_ ≠ gb166))) (fun _ hk => hk.2) (.slice none 0 0)) (fun _ hk => hk.2) (.slice Ao92 y163.length co92)) (fun _ hk => hk.2) (.int .i64 0)) (fun _ hk => hk.2) (.bool false)) (fun _ h_ => h_.1))) (Kd.R_base ho96) hb); replace BK166 := Aside0.mk (blk_below (g := gb166) (o := .cells #[.slice none 0 0, .slice Ao92 y163.length co92, .int .i64 0, .bool false] 25 (0, 0)) (by (with_reducible repeat (first | refine blk_drewN ?_ _ | refine blk_drew ?_ | refine blk_alloc ?_ _)); refine blk_put (cs := #[.slice none 0 0, .slice Ao92 y163.length co92, .int .i64 0, .bool false]) ?_ 3 _ rfl; (with_reducible repeat (first | refine blk_drewN ?_ _ | refine blk_drew ?_ | refine blk_alloc ?_ _)); refine blk_put (cs := #[.slice none 0 0, .slice Ao92 y163.length co92, .int .i64 0, .bool false]) ?_ 2 _ rfl; (with_reducible repeat (first | refine blk_drewN ?_ _ | refine blk_drew ?_ | refine blk_alloc ?_ _)); refine blk_put (cs := #[.slice none 0 0, .slice none 0 0, .int .i64 0, .bool false]) ?_ 1 _ rfl; (with_reducible repeat (first | refine blk_drewN ?_ _ | refine blk_drew ?_ | refine blk_alloc ?_ _)); refine blk_put (cs := #[.slice none 0 0, .slice none 0 0, .int .i64 0, .bool false]) ?_ 0 _ rfl; (with_reducible repeat (first | refine blk_drewN ?_ _ | refine blk_drew ?_ | refine blk_alloc ?_ _)); exact BK166.out) hb); replace HB := Aside0.mk (below_step (by repeat (first | (with_reducible first | exact HB.out | apply below_alloc | apply pw_below_drewN | apply below_drew1 | refine below_set ?_ GE166.out) | exact HB.out)) hb); clear hb ho96; obtain ⟨Ao97, co97, eo97⟩ := Kd.R_slice HO169.out; subst eo97) | ((with_reducible refine gate_callee (f := 11) rfl ?_); refine goesL_ (some 14) rfl rfl Try.func11 (by kernel_rfl) rfl #[.agg #[.slice none 0 0, .slice Ao92 y163.length co92, .int .i64 0, .bool false], .slice Ao97 y167.length co97] rfl (by (try simp only [List.map_toArray, List.map_cons, List.map_nil]); first | done | rfl | (simp only [List.length_drop, List.length_take]; done) | (simp only [List.length_drop, List.length_take]; rfl)) ?_; (refine (weigh_Elements.calls _ _ ([] : List (S42)) _ _ y163 0 false _ _ y167 t170 t173 _ ?side1 ?side2 ?side3 ?side4 ?side5 ?side6 A1.out).mono ?_); (case side1 => exact Kd.C_nil _ _); (case side2 => exact Nat.le_refl _); (case side3 => repeat (first | exact (Kd.N_reads' HO165.out).2.2 | (with_reducible refine Kd.C_alloc ?_ _) | (with_reducible refine Kd.C_drewN ?_ _) | (with_reducible refine Kd.C_drew ?_))); (case side4 => exact (Kd.N_reads' HO165.out).2.1); (case side5 => repeat (first | exact (Kd.R_reads' HO169.out).2.2 | (with_reducible refine Kd.C_alloc ?_ _) | (with_reducible refine Kd.C_drewN ?_ _) | (with_reducible refine Kd.C_drew ?_))); (case side6 => exact (Kd.R_reads' HO169.out).2.1); rintro e w98 ⟨v171, rfl, ho0, hb⟩; refine ⟨_, rfl, ?_⟩; have HO172 := Aside0.mk (Kd.R_lower ho0 (below_size (by repeat (first | (with_reducible first | exact HB.out | apply below_alloc | apply pw_below_drewN | apply below_drew1 | refine below_set ?_ GE166.out) | exact HB.out)))); replace HO165 := Aside0.mk (Kd.N_elder' (by (with_reducible repeat (first | apply Kd.N_alloc | apply Kd.N_drewN | apply Kd.N_drew)); exact HO165.out) (Kd.R_base ho0) hb); replace HO169 := Aside0.mk (Kd.R_below (pR HO169.out) hb); replace BK166 := Aside0.mk (blk_below (pb BK166.out) hb); replace HB := Aside0.mk (below_step (by repeat (first | (with_reducible first | exact HB.out | apply below_alloc | apply pw_below_drewN | apply below_drew1 | refine below_set ?_ GE166.out) | exact HB.out)) hb); (try clear hb); (try clear hb2); (try clear hk); (try clear hi); (try clear ho0)) | ((with_reducible refine gate_callee (f := 18) rfl ?_); refine goesL_ (some 17) rfl rfl Try.func18 (by kernel_rfl) rfl #[.int .i32 98] rfl (by (try simp only [List.map_toArray, List.map_cons, List.map_nil]); first | done | rfl | (simp only [List.length_drop, List.length_take]; done) | (simp only [List.length_drop, List.length_take]; rfl)) ?_; (with_reducible refine (weigh_Implied.calls 98 t174 t175 t176 t177 t178 t179 _ A2.out).mono ?_); rintro e w99 ⟨rfl, hb⟩; refine ⟨_, rfl, ?_⟩; replace HO165 := Aside0.mk (Kd.N_below (by (with_reducible repeat (first | apply Kd.N_alloc | apply Kd.N_drewN | apply Kd.N_drew)); exact HO165.out) hb); replace HO169 := Aside0.mk (Kd.R_below (pR HO169.out) hb); replace HO172 := Aside0.mk (Kd.R_below (pR HO172.out) hb); replace BK166 := Aside0.mk (blk_below (pb BK166.out) hb); replace HB := Aside0.mk (below_step (by repeat (first | (with_reducible first | exact HB.out | apply below_alloc | apply pw_below_drewN | apply below_drew1 | refine below_set ?_ GE166.out) | exact HB.out)) hb); (try clear hb); (try clear hb2); (try clear hk); (try clear hi)) | ((with_reducible refine gate_dst (N := 4) rfl ?_); (try (refine gate_guard (by rfl) ?_; dsimp only)); refine box_event ?hg (N := 4) ?hd (cs := #[.int .i64 0, .int .i64 0, .int .i64 0, .int .i64 0, .int .i64 0, .int .i64 0]) (t := 46) ?hr ?_; (case hd => rfl); (case hg => rfl); (case hr => first | (go_simp; done) | (go_simp; rfl)); intro gb180 hg w100 hbox hb; have BK180 := Aside0.mk (hbox); have GW180 := Aside0.mk ((by rw [hg]; exact (below_size (by repeat (first | (with_reducible first | exact HB.out | apply below_alloc | apply pw_below_drewN | apply below_drew1 | refine below_set ?_ GE166.out) | exact HB.out))) : w.heap.size ≤ gb180)); have GE180 := Aside0.mk ((by rw [hg]; exact (below_size (by repeat (first | (with_reducible first | exact HB.out | apply below_alloc | apply pw_below_drewN | apply below_drew1 | refine below_set ?_ GE166.out) | exact HB.out))) : w.heap.size ≤ gb180)); have NB166_180 := neL hg BK166.out; have NB180_166 := neG hg BK166.out; replace HO165 := Aside0.mk (Kd.N_below (Kd.N_elderB (by (with_reducible repeat (first | apply Kd.N_alloc | apply Kd.N_drewN | apply Kd.N_drew)); exact HO165.out) gb180 (Nat.le_of_eq hg.symm)) hb); replace HO169 := Aside0.mk (Kd.R_below (pR HO169.out) hb); replace HO172 := Aside0.mk (Kd.R_below (pR HO172.out) hb); replace BK166 := Aside0.mk (blk_below (pb BK166.out) hb); replace HB := Aside0.mk (below_step (by repeat (first | (with_reducible first | exact HB.out | apply below_alloc | apply pw_below_drewN | apply below_drew1 | refine below_set ?_ GE166.out) | exact HB.out)) hb); clear hb hbox hg; have hnb101 := NB180_166.out; have hnc101 := NB166_180.out; have hcz102_0 : w100.cell? ⟨gb180, 0, none⟩ = some (.int .i64 0) := blk_cell BK180.out 0; have hcz102_1 : w100.cell? ⟨gb180, 1, none⟩ = some (.int .i64 0) := blk_cell BK180.out 1; have hcz102_2 : w100.cell? ⟨gb180, 2, none⟩ = some (.int .i64 0) := blk_cell BK180.out 2; have hcz102_3 : w100.cell? ⟨gb180, 3, none⟩ = some (.int .i64 0) := blk_cell BK180.out 3; have hcz102_4 : w100.cell? ⟨gb180, 4, none⟩ = some (.int .i64 0) := blk_cell BK180.out 4; have hcz102_5 : w100.cell? ⟨gb180, 5, none⟩ = some (.int .i64 0) := blk_cell BK180.out 5; have hfz102_0 := blk_frozen BK180.out 0; have hfz102_1 := blk_frozen BK180.out 1; have hfz102_2 := blk_frozen BK180.out 2; have hfz102_3 := blk_frozen BK180.out 3; have hfz102_4 := blk_frozen BK180.out 4; have hfz102_5 := blk_frozen BK180.out 5))
   have n0_ : Aside0 (Kd.N k44 44 ((((((w100.setCell ⟨gb180, 0, none⟩ (.int .i64 t174)).setCell ⟨gb180, 1, none⟩ (.int .i64 t175)).setCell ⟨gb180, 2, none⟩ (.int .i64 t176)).setCell ⟨gb180, 3, none⟩ (.int .i64 t177)).setCell ⟨gb180, 4, none⟩ (.int .i64 t178)).setCell ⟨gb180, 5, none⟩ (.int .i64 t179)) w.heap.size (fun k_ => some k_ ≠ (.slice Ao97 y167.length co97 : Value).ownBlock ∧ some k_ ≠ (v171 : Value).ownBlock ∧ k_ ≠ gb166 ∧ k_ ≠ gb180) (.slice Ao92 y163.length co92) y163) := ⟨by (with_reducible repeat (first | apply Kd.N_alloc | apply Kd.N_drewN | apply Kd.N_drew)); exact Kd.N_mono (Kd.N_far (p := ⟨gb180, 5, none⟩) (Kd.N_far (p := ⟨gb180, 4, none⟩) (Kd.N_far (p := ⟨gb180, 3, none⟩) (Kd.N_far (p := ⟨gb180, 2, none⟩) (Kd.N_far (p := ⟨gb180, 1, none⟩) (Kd.N_far (p := ⟨gb180, 0, none⟩) (Kd.N_mono HO165.out (fun k_ hk => (⟨hk, hk.2⟩ : _ ∧ k_ ≠ gb180))) (fun _ hk => hk.2) (.int .i64 t174)) (fun _ hk => hk.2) (.int .i64 t175)) (fun _ hk => hk.2) (.int .i64 t176)) (fun _ hk => hk.2) (.int .i64 t177)) (fun _ hk => hk.2) (.int .i64 t178)) (fun _ hk => hk.2) (.int .i64 t179)) (fun _ hk => by first | exact ⟨hk.1.1.1.2, ⟨hk.1.1.2, ⟨hk.1.1.1.1.2, hk.1.2⟩⟩⟩ | omega)⟩
   have n1_ : Aside0 (Kd.R (Kd.int .i32) 21 ((((((w100.setCell ⟨gb180, 0, none⟩ (.int .i64 t174)).setCell ⟨gb180, 1, none⟩ (.int .i64 t175)).setCell ⟨gb180, 2, none⟩ (.int .i64 t176)).setCell ⟨gb180, 3, none⟩ (.int .i64 t177)).setCell ⟨gb180, 4, none⟩ (.int .i64 t178)).setCell ⟨gb180, 5, none⟩ (.int .i64 t179)) w.heap.size (fun _ => True) (.slice Ao97 y167.length co97) y167) := ⟨by (with_reducible repeat (first | apply Kd.R_alloc | apply Kd.R_drewN | apply Kd.R_drew)); exact Kd.R_mono (Kd.R_far (p := ⟨gb180, 5, none⟩) (Kd.R_far (p := ⟨gb180, 4, none⟩) (Kd.R_far (p := ⟨gb180, 3, none⟩) (Kd.R_far (p := ⟨gb180, 2, none⟩) (Kd.R_far (p := ⟨gb180, 1, none⟩) (Kd.R_far (p := ⟨gb180, 0, none⟩) (Kd.R_types HO169.out BK180.out (by decide)) (fun _ hk => hk.2) (.int .i64 t174)) (fun _ hk => hk.2) (.int .i64 t175)) (fun _ hk => hk.2) (.int .i64 t176)) (fun _ hk => hk.2) (.int .i64 t177)) (fun _ hk => hk.2) (.int .i64 t178)) (fun _ hk => hk.2) (.int .i64 t179)) (fun _ hk => trivial)⟩
   have n2_ : Aside0 (Kd.R k39 39 ((((((w100.setCell ⟨gb180, 0, none⟩ (.int .i64 t174)).setCell ⟨gb180, 1, none⟩ (.int .i64 t175)).setCell ⟨gb180, 2, none⟩ (.int .i64 t176)).setCell ⟨gb180, 3, none⟩ (.int .i64 t177)).setCell ⟨gb180, 4, none⟩ (.int .i64 t178)).setCell ⟨gb180, 5, none⟩ (.int .i64 t179)) w.heap.size (fun _ => True) v171 t170) := ⟨by (with_reducible repeat (first | apply Kd.R_alloc | apply Kd.R_drewN | apply Kd.R_drew)); exact Kd.R_mono (Kd.R_far (p := ⟨gb180, 5, none⟩) (Kd.R_far (p := ⟨gb180, 4, none⟩) (Kd.R_far (p := ⟨gb180, 3, none⟩) (Kd.R_far (p := ⟨gb180, 2, none⟩) (Kd.R_far (p := ⟨gb180, 1, none⟩) (Kd.R_far (p := ⟨gb180, 0, none⟩) (Kd.R_types HO172.out BK180.out (by decide)) (fun _ hk => hk.2) (.int .i64 t174)) (fun _ hk => hk.2) (.int .i64 t175)) (fun _ hk => hk.2) (.int .i64 t176)) (fun _ hk => hk.2) (.int .i64 t177)) (fun _ hk => hk.2) (.int .i64 t178)) (fun _ hk => hk.2) (.int .i64 t179)) (fun _ hk => trivial)⟩
   have n3_ : Aside0 (((((((w100.setCell ⟨gb180, 0, none⟩ (.int .i64 t174)).setCell ⟨gb180, 1, none⟩ (.int .i64 t175)).setCell ⟨gb180, 2, none⟩ (.int .i64 t176)).setCell ⟨gb180, 3, none⟩ (.int .i64 t177)).setCell ⟨gb180, 4, none⟩ (.int .i64 t178)).setCell ⟨gb180, 5, none⟩ (.int .i64 t179)).heap[gb166]? = some (.cells #[.slice none 0 0, .slice Ao92 y163.length co92, .int .i64 0, .bool false] 25 (0, 0))) := ⟨by (with_reducible repeat (first | refine blk_drewN ?_ _ | refine blk_drew ?_ | refine blk_alloc ?_ _)); refine blk_far ?_ NB166_180.out _; (with_reducible repeat (first | refine blk_drewN ?_ _ | refine blk_drew ?_ | refine blk_alloc ?_ _)); refine blk_far ?_ NB166_180.out _; (with_reducible repeat (first | refine blk_drewN ?_ _ | refine blk_drew ?_ | refine blk_alloc ?_ _)); refine blk_far ?_ NB166_180.out _; (with_reducible repeat (first | refine blk_drewN ?_ _ | refine blk_drew ?_ | refine blk_alloc ?_ _)); refine blk_far ?_ NB166_180.out _; (with_reducible repeat (first | refine blk_drewN ?_ _ | refine blk_drew ?_ | refine blk_alloc ?_ _)); refine blk_far ?_ NB166_180.out _; (with_reducible repeat (first | refine blk_drewN ?_ _ | refine blk_drew ?_ | refine blk_alloc ?_ _)); refine blk_far ?_ NB166_180.out _; (with_reducible repeat (first | refine blk_drewN ?_ _ | refine blk_drew ?_ | refine blk_alloc ?_ _)); exact BK166.out⟩
   have n4_ : Aside0 (((((((w100.setCell ⟨gb180, 0, none⟩ (.int .i64 t174)).setCell ⟨gb180, 1, none⟩ (.int .i64 t175)).setCell ⟨gb180, 2, none⟩ (.int .i64 t176)).setCell ⟨gb180, 3, none⟩ (.int .i64 t177)).setCell ⟨gb180, 4, none⟩ (.int .i64 t178)).setCell ⟨gb180, 5, none⟩ (.int .i64 t179)).heap[gb180]? = some (.cells #[.int .i64 t174, .int .i64 t175, .int .i64 t176, .int .i64 t177, .int .i64 t178, .int .i64 t179] 46 (0, 0))) := ⟨by (with_reducible repeat (first | refine blk_drewN ?_ _ | refine blk_drew ?_ | refine blk_alloc ?_ _)); refine blk_put (cs := #[.int .i64 t174, .int .i64 t175, .int .i64 t176, .int .i64 t177, .int .i64 t178, .int .i64 0]) ?_ 5 _ rfl; (with_reducible repeat (first | refine blk_drewN ?_ _ | refine blk_drew ?_ | refine blk_alloc ?_ _)); refine blk_put (cs := #[.int .i64 t174, .int .i64 t175, .int .i64 t176, .int .i64 t177, .int .i64 0, .int .i64 0]) ?_ 4 _ rfl; (with_reducible repeat (first | refine blk_drewN ?_ _ | refine blk_drew ?_ | refine blk_alloc ?_ _)); refine blk_put (cs := #[.int .i64 t174, .int .i64 t175, .int .i64 t176, .int .i64 0, .int .i64 0, .int .i64 0]) ?_ 3 _ rfl; (with_reducible repeat (first | refine blk_drewN ?_ _ | refine blk_drew ?_ | refine blk_alloc ?_ _)); refine blk_put (cs := #[.int .i64 t174, .int .i64 t175, .int .i64 0, .int .i64 0, .int .i64 0, .int .i64 0]) ?_ 2 _ rfl; (with_reducible repeat (first | refine blk_drewN ?_ _ | refine blk_drew ?_ | refine blk_alloc ?_ _)); refine blk_put (cs := #[.int .i64 t174, .int .i64 0, .int .i64 0, .int .i64 0, .int .i64 0, .int .i64 0]) ?_ 1 _ rfl; (with_reducible repeat (first | refine blk_drewN ?_ _ | refine blk_drew ?_ | refine blk_alloc ?_ _)); refine blk_put (cs := #[.int .i64 0, .int .i64 0, .int .i64 0, .int .i64 0, .int .i64 0, .int .i64 0]) ?_ 0 _ rfl; (with_reducible repeat (first | refine blk_drewN ?_ _ | refine blk_drew ?_ | refine blk_alloc ?_ _)); exact BK180.out⟩
   have n5_ : Aside0 (Below w.heap.size w ((((((w100.setCell ⟨gb180, 0, none⟩ (.int .i64 t174)).setCell ⟨gb180, 1, none⟩ (.int .i64 t175)).setCell ⟨gb180, 2, none⟩ (.int .i64 t176)).setCell ⟨gb180, 3, none⟩ (.int .i64 t177)).setCell ⟨gb180, 4, none⟩ (.int .i64 t178)).setCell ⟨gb180, 5, none⟩ (.int .i64 t179))) := ⟨by repeat (first | (with_reducible first | exact HB.out | apply below_alloc | apply pw_below_drewN | apply below_drew1 | refine below_set ?_ GE166.out | refine below_set ?_ GE180.out) | exact HB.out)⟩
   (try clear HO165)
   (try clear HO169)
   (try clear HO172)
   (try clear BK166)
   (try clear BK180)
   (try clear HB)
   generalize ((((((w100.setCell ⟨gb180, 0, none⟩ (.int .i64 t174)).setCell ⟨gb180, 1, none⟩ (.int .i64 t175)).setCell ⟨gb180, 2, none⟩ (.int .i64 t176)).setCell ⟨gb180, 3, none⟩ (.int .i64 t177)).setCell ⟨gb180, 4, none⟩ (.int .i64 t178)).setCell ⟨gb180, 5, none⟩ (.int .i64 t179)) = w103 at n0_ n1_ n2_ n3_ n4_ n5_ ⊢
   have HO165 := n0_
   have HO169 := n1_
   have HO172 := n2_
   have BK166 := n3_
   have BK180 := n4_
   have HB := n5_
   clear n0_ n1_ n2_ n3_ n4_ n5_
   replace HO165 := Aside0.mk (Kd.N_drew HO165.out)
   replace HO169 := Aside0.mk (Kd.R_drew HO169.out)
   replace HO172 := Aside0.mk (Kd.R_drew HO172.out)
   replace BK166 := Aside0.mk (blk_drew BK166.out)
   replace BK180 := Aside0.mk (blk_drew BK180.out)
   replace HB := Aside0.mk (below_drew1 HB.out)
   refine start_ (n := 22) (S := fun w' => True) (ds := []) (fl 0 22) (by kernel_rfl) rfl rfl trivial (fun hHeld => ?_); refine with_tabW gazetteerlaw3_awake.tab4 gazetteerlaw3_awake.bits4 (fun HT_ HW_ => ?_)
   generalize w103.drew = w104 at HO165 HO169 HO172 BK166 BK180 HB hHeld ⊢
   refine pure_ (i := 0) (N := some 18) (v := ?_) (a' := ?_) (fl 1 21) rfl rfl (any_of HT_.out (by kernel_rfl)) (fun _ _ _ h => h) (Or.inl ⟨by rfl, ?_⟩) ?_ ?_
   rotate_left
   · intro w'
     go_simp
     with_reducible rfl
   rotate_left
   · simp only [Act.put, List.setIfInBounds_toArray, List.set_cons_zero, List.set_cons_succ, i64_w, i32_w]; rfl
   refine pure_ (i := 1) (N := some 19) (v := ?_) (a' := ?_) (fl 2 20) rfl rfl (any_of HT_.out (by kernel_rfl)) (fun _ _ _ h => h) (Or.inl ⟨by rfl, ?_⟩) ?_ ?_
   rotate_left
   · intro w'
     go_simp
     with_reducible rfl
   rotate_left
   · simp only [Act.put, List.setIfInBounds_toArray, List.set_cons_zero, List.set_cons_succ, i64_w, i32_w]; rfl
   refine pure_ (i := 2) (N := some 20) (v := ?_) (a' := ?_) (fl 3 19) rfl rfl (any_of HT_.out (by kernel_rfl)) (fun _ _ _ h => h) (Or.inl ⟨by rfl, ?_⟩) ?_ ?_
   rotate_left
   · intro w'
     go_simp
     with_reducible rfl
   rotate_left
   · simp only [Act.put, List.setIfInBounds_toArray, List.set_cons_zero, List.set_cons_succ, i64_w, i32_w]; rfl
   refine pure_ (i := 3) (N := some 21) (v := undef) (a' := ?_) (fl 4 18) rfl rfl (any_of HT_.out (by kernel_rfl)) (fun _ _ _ h => h) (Or.inr ⟨by rfl, rfl⟩) ?_ ?_
   rotate_left
   · simp only [Act.put, List.setIfInBounds_toArray, List.set_cons_zero, List.set_cons_succ, i64_w, i32_w]; rfl
   refine pure_ (i := 4) (N := some 22) (v := undef) (a' := ?_) (fl 5 17) rfl rfl (any_of HT_.out (by kernel_rfl)) (fun _ _ _ h => h) (Or.inr ⟨by rfl, rfl⟩) ?_ ?_
   rotate_left
   · simp only [Act.put, List.setIfInBounds_toArray, List.set_cons_zero, List.set_cons_succ, i64_w, i32_w]; rfl
   refine pure_ (i := 5) (N := some 23) (v := ?_) (a' := ?_) (fl 6 16) rfl rfl (any_of HT_.out (by kernel_rfl)) (fun _ _ _ h => h) (Or.inl ⟨by rfl, ?_⟩) ?_ ?_
   rotate_left
   · intro w'
     go_simp
     with_reducible rfl
   rotate_left
   · simp only [Act.put, List.setIfInBounds_toArray, List.set_cons_zero, List.set_cons_succ, i64_w, i32_w]; rfl
   refine pure_ (i := 6) (N := some 24) (v := ?_) (a' := ?_) (fl 7 15) rfl rfl (any_of HT_.out (by kernel_rfl)) (fun _ _ _ h => h) (Or.inl ⟨by rfl, ?_⟩) ?_ ?_
   rotate_left
   · intro w'
     go_simp
     with_reducible rfl
   rotate_left
   · simp only [Act.put, List.setIfInBounds_toArray, List.set_cons_zero, List.set_cons_succ, i64_w, i32_w]; rfl
   refine pure_ (i := 7) (N := some 25) (v := undef) (a' := ?_) (fl 8 14) rfl rfl (any_of HT_.out (by kernel_rfl)) (fun _ _ _ h => h) (Or.inr ⟨by rfl, rfl⟩) ?_ ?_
   rotate_left
   · simp only [Act.put, List.setIfInBounds_toArray, List.set_cons_zero, List.set_cons_succ, i64_w, i32_w]; rfl
   refine pure_ (i := 8) (N := some 26) (v := undef) (a' := ?_) (fl 9 13) rfl rfl (any_of HT_.out (by kernel_rfl)) (fun _ _ _ h => h) (Or.inr ⟨by rfl, rfl⟩) ?_ ?_
   rotate_left
   · simp only [Act.put, List.setIfInBounds_toArray, List.set_cons_zero, List.set_cons_succ, i64_w, i32_w]; rfl
   refine pure_ (i := 9) (N := some 27) (v := undef) (a' := ?_) (fl 10 12) rfl rfl (any_of HT_.out (by kernel_rfl)) (fun _ _ _ h => h) (Or.inr ⟨by rfl, rfl⟩) ?_ ?_
   rotate_left
   · simp only [Act.put, List.setIfInBounds_toArray, List.set_cons_zero, List.set_cons_succ, i64_w, i32_w]; rfl
   refine pure_ (i := 10) (N := some 28) (v := undef) (a' := ?_) (fl 11 11) rfl rfl (any_of HT_.out (by kernel_rfl)) (fun _ _ _ h => h) (Or.inr ⟨by rfl, rfl⟩) ?_ ?_
   rotate_left
   · simp only [Act.put, List.setIfInBounds_toArray, List.set_cons_zero, List.set_cons_succ, i64_w, i32_w]; rfl
   refine pure_ (i := 11) (N := some 29) (v := undef) (a' := ?_) (fl 12 10) rfl rfl (any_of HT_.out (by kernel_rfl)) (fun _ _ _ h => h) (Or.inr ⟨by rfl, rfl⟩) ?_ ?_
   rotate_left
   · simp only [Act.put, List.setIfInBounds_toArray, List.set_cons_zero, List.set_cons_succ, i64_w, i32_w]; rfl
   refine pure_ (i := 12) (N := some 30) (v := undef) (a' := ?_) (fl 13 9) rfl rfl (any_of HT_.out (by kernel_rfl)) (fun _ _ _ h => h) (Or.inr ⟨by rfl, rfl⟩) ?_ ?_
   rotate_left
   · simp only [Act.put, List.setIfInBounds_toArray, List.set_cons_zero, List.set_cons_succ, i64_w, i32_w]; rfl
   refine pure_ (i := 13) (N := some 31) (v := undef) (a' := ?_) (fl 14 8) rfl rfl (any_of HT_.out (by kernel_rfl)) (fun _ _ _ h => h) (Or.inr ⟨by rfl, rfl⟩) ?_ ?_
   rotate_left
   · simp only [Act.put, List.setIfInBounds_toArray, List.set_cons_zero, List.set_cons_succ, i64_w, i32_w]; rfl
   refine pure_ (i := 14) (N := some 32) (v := undef) (a' := ?_) (fl 15 7) rfl rfl (any_of HT_.out (by kernel_rfl)) (fun _ _ _ h => h) (Or.inr ⟨by rfl, rfl⟩) ?_ ?_
   rotate_left
   · simp only [Act.put, List.setIfInBounds_toArray, List.set_cons_zero, List.set_cons_succ, i64_w, i32_w]; rfl
   refine pure_ (i := 15) (N := some 33) (v := ?_) (a' := ?_) (fl 16 6) rfl rfl (any_of HT_.out (by kernel_rfl)) (fun _ _ _ h => h) (Or.inl ⟨by rfl, ?_⟩) ?_ ?_
   rotate_left
   · intro w'
     go_simp
     with_reducible rfl
   rotate_left
   · simp only [Act.put, List.setIfInBounds_toArray, List.set_cons_zero, List.set_cons_succ, i64_w, i32_w]; rfl
   refine pure_ (i := 16) (N := some 34) (v := ?_) (a' := ?_) (fl 17 5) rfl rfl (any_of HT_.out (by kernel_rfl)) (fun _ _ _ h => h) (Or.inl ⟨by rfl, ?_⟩) ?_ ?_
   rotate_left
   · intro w'
     go_simp
     with_reducible rfl
   rotate_left
   · simp only [Act.put, List.setIfInBounds_toArray, List.set_cons_zero, List.set_cons_succ, i64_w, i32_w]; rfl
   refine pure_ (i := 17) (N := some 35) (v := undef) (a' := ?_) (fl 18 4) rfl rfl (any_of HT_.out (by kernel_rfl)) (fun _ _ _ h => h) (Or.inr ⟨by rfl, rfl⟩) ?_ ?_
   rotate_left
   · simp only [Act.put, List.setIfInBounds_toArray, List.set_cons_zero, List.set_cons_succ, i64_w, i32_w]; rfl
   refine pure_ (i := 18) (N := some 36) (v := undef) (a' := ?_) (fl 19 3) rfl rfl (any_of HT_.out (by kernel_rfl)) (fun _ _ _ h => h) (Or.inr ⟨by rfl, rfl⟩) ?_ ?_
   rotate_left
   · simp only [Act.put, List.setIfInBounds_toArray, List.set_cons_zero, List.set_cons_succ, i64_w, i32_w]; rfl
   refine pure_ (i := 19) (N := some 37) (v := undef) (a' := ?_) (fl 20 2) rfl rfl (any_of HT_.out (by kernel_rfl)) (fun _ _ _ h => h) (Or.inr ⟨by rfl, rfl⟩) ?_ ?_
   rotate_left
   · simp only [Act.put, List.setIfInBounds_toArray, List.set_cons_zero, List.set_cons_succ, i64_w, i32_w]; rfl
   refine pure_ (i := 20) (N := some 38) (v := ?_) (a' := ?_) (fl 21 1) rfl rfl (any_of HT_.out (by kernel_rfl)) (fun _ _ _ h => h) (Or.inl ⟨by rfl, ?_⟩) ?_ ?_
   rotate_left
   · intro w'
     go_simp
     with_reducible rfl
   rotate_left
   · simp only [Act.put, List.setIfInBounds_toArray, List.set_cons_zero, List.set_cons_succ, i64_w, i32_w]; rfl
   refine pure_ (i := 21) (N := some 0) (v := ?_) (a' := ?_) (fl 22 0) rfl rfl (any_of HT_.out (by kernel_rfl)) (fun _ _ _ h => h) (Or.inl ⟨by rfl, ?_⟩) ?_ ?_
   rotate_left
   · intro w'
     go_simp
     with_reducible rfl
   rotate_left
   · simp only [Act.put, List.setIfInBounds_toArray, List.set_cons_zero, List.set_cons_succ, i64_w, i32_w]; rfl
   refine done_ (done_of HT_.out (by kernel_rfl)) ?_
   try go_wp2
   go_ret
   exact ⟨by first | rfl | (simp [errW_none, errW_some] <;> rfl) | (simp [*, errW_none, errW_some] <;> rfl), by repeat (first | (with_reducible first | exact HB.out | apply below_alloc | apply pw_below_drewN | apply below_drew1 | refine below_set ?_ GE166.out | refine below_set ?_ GE180.out) | exact HB.out)⟩
  rw [if_pos c3] at H
  have c3b0 : (t173 == 0) = true := beq_iff_eq.mpr c3
  have c3b1 : (t173 != 0) = false := bne_eq_false_iff_eq.mpr c3
  clear c3
  replace H := Option.bind_eq_some_iff.mp H
  obtain ⟨t181, A40, H⟩ := H
  replace H : (if t181 = true then ((gazetteerlaw3_Same.f k t170 (([(⟨1, 1, 1⟩ : S39), (⟨t174, t175, t176⟩ : S39), (⟨t177, t178, t179⟩ : S39)] : List (S39)))).bind fun t185 => (if t185 = true then ((gazetteerref1_Implied.f 98).bind fun bt186 => (some ((t174 == bt186.1 && (t175 == bt186.2.1 && (t176 == bt186.2.2.1))) && ((t177 == bt186.2.2.2.1 && (t178 == bt186.2.2.2.2.1 && (t179 == bt186.2.2.2.2.2))))))) else (some false))) else (some false)) = some r := H
  have A4 := Aside0.mk A40
  clear A40
  by_cases c5 : t181 = true
  rotate_left
  ·
   replace c5 := Bool.eq_false_iff.mpr c5
   subst c5
   have H1 : (some false) = some r := by rw [if_neg (show ¬ (false = true) by decide)] at H; exact H
   clear H
   have H := H1
   clear H1
   obtain rfl := Option.some.inj H
   go_enter Try.func9, Try.ntmps9
   try go_wp2_with (first | ((with_reducible refine gate_dst (N := 5) rfl ?_); (try (refine gate_guard (by rfl) ?_; dsimp only)); refine Kd.R_lit (Kd.int .i32) _ 21 ?hg (N := 5) ?hd (xs := ([97] : List Int)) (inner := [.int .i32 97]) (ok := fun _ => True) (okp := fun _ => True) ?hr ?hp (fun _ hk => hk) trivial (Below.refl _ _) (Nat.le_refl _) (by simp) ?_; (case hd => rfl); (case hg => rfl); (case hr => first | (go_simp; done) | (go_simp; rfl)); (case hp => exact (Reps.one (show Kd.M (Kd.int .i32) _ _ _ 97 [.int .i32 97] from rfl) (Reps.none _ _))); intro v158 w62 ho63 hb hg_ hnew_; clear hg_ hnew_; (first | rw [← Ny157.out] at ho63 | (simp only [Int.reduceToNat] at ho63; rw [← Ny157.out] at ho63)); have HO159 := Aside0.mk (Kd.R_lower ho63 (below_size (by repeat (first | (with_reducible first | exact HB.out | apply below_alloc | apply pw_below_drewN | apply below_drew1) | exact HB.out)))); replace HB := Aside0.mk (below_step (by repeat (first | (with_reducible first | exact HB.out | apply below_alloc | apply pw_below_drewN | apply below_drew1) | exact HB.out)) hb); clear hb ho63) | ((with_reducible refine gate_dst (N := 7) rfl ?_); (try (refine gate_guard (by rfl) ?_; dsimp only)); refine Kd.R_lit k39 _ 39 ?hg (N := 7) ?hd (xs := ([(⟨1, 1, 1⟩ : S39)] : List (S39))) (inner := [.int .i64 1, .int .i64 1, .int .i64 1]) (ok := fun _ => True) (okp := fun _ => True) ?hr ?hp (fun _ hk => hk) trivial (Below.refl _ _) (Nat.le_refl _) (by simp) ?_; (case hd => rfl); (case hg => rfl); (case hr => first | (go_simp; done) | (go_simp; rfl)); (case hp => exact (Reps.c3 (show Kd.M k39 _ _ _ (⟨1, 1, 1⟩ : S39) [.int .i64 1, .int .i64 1, .int .i64 1] from (k39_mkM _ _ _ (⟨1, 1, 1⟩ : S39) )) (Reps.none _ _))); intro v161 w64 ho65 hb hg_ hnew_; clear hg_ hnew_; (first | rw [← Ny160.out] at ho65 | (simp only [Int.reduceToNat] at ho65; rw [← Ny160.out] at ho65)); have HO162 := Aside0.mk (Kd.R_lower ho65 (below_size (by repeat (first | (with_reducible first | exact HB.out | apply below_alloc | apply pw_below_drewN | apply below_drew1) | exact HB.out)))); replace HO159 := Aside0.mk (Kd.R_below (pR HO159.out) hb); replace HB := Aside0.mk (below_step (by repeat (first | (with_reducible first | exact HB.out | apply below_alloc | apply pw_below_drewN | apply below_drew1) | exact HB.out)) hb); clear hb ho65; obtain ⟨Ao66, co66, eo66⟩ := Kd.R_slice HO162.out; subst eo66; obtain ⟨Ao67, co67, eo67⟩ := Kd.R_slice HO159.out; subst eo67) | ((with_reducible refine gate_dst (N := 9) rfl ?_); (try (refine gate_guard (by rfl) ?_; dsimp only)); refine Kd.N_lit k44 _ 44 ?hg (N' := 9) ?hd (xs := ([(⟨y157, y160⟩ : S44)] : List (S44))) (inner := [.slice Ao67 y157.length co67, .slice Ao66 y160.length co66]) (ok := (fun _ => True)) (okp := (fun _ => True)) ?hr ?hp (fun _ hk => hk) ((show ∀ k_, w64.heap.size ≤ k_ → (fun _ => True) k_ from fun k_ hk => trivial) _ (Nat.le_refl _)) (Below.refl _ _) (Nat.le_refl _) (by simp) ?_; (case hd => rfl); (case hg => rfl); (case hr => first | (go_simp; done) | (go_simp; rfl)); (case hp => exact (Reps.c2 (show Kd.FK k44 _ _ (⟨y157, y160⟩ : S44) [.slice Ao67 y157.length co67, .slice Ao66 y160.length co66] from (k44_mkF _ _ (⟨y157, y160⟩ : S44) (Kd.R_reads' (Kd.R_mono (ok' := (fun _ => True)) (HO159.out) (fun k_ hk => trivial))).2.1 (Kd.R_F (Kd.R_mono (ok' := (fun _ => True)) (HO159.out) (fun k_ hk => trivial))) (Kd.R_reads' (Kd.R_mono (ok' := (fun _ => True)) (HO162.out) (fun k_ hk => trivial))).2.1 (Kd.R_F (Kd.R_mono (ok' := (fun _ => True)) (HO162.out) (fun k_ hk => trivial))))) (Reps.none _ _))); intro v164 w68 ho69 hb hg_ hnew_; clear hg_ hnew_; (first | rw [← Ny163.out] at ho69 | (simp only [Int.reduceToNat] at ho69; rw [← Ny163.out] at ho69)); have HO165 := Aside0.mk (Kd.N_lower ho69 (below_size (by repeat (first | (with_reducible first | exact HB.out | apply below_alloc | apply pw_below_drewN | apply below_drew1) | exact HB.out)))); replace HB := Aside0.mk (below_step (by repeat (first | (with_reducible first | exact HB.out | apply below_alloc | apply pw_below_drewN | apply below_drew1) | exact HB.out)) hb); clear HO159 HO162; clear hb ho69; obtain ⟨Ao70, co70, eo70⟩ := Kd.N_slice HO165.out; subst eo70) | ((with_reducible refine gate_dst (N := 1) rfl ?_); (try (refine gate_guard (by rfl) ?_; dsimp only)); refine box_event ?hg (N := 1) ?hd (cs := #[.slice none 0 0, .slice none 0 0, .int .i64 0, .bool false]) (t := 25) ?hr ?_; (case hd => rfl); (case hg => rfl); (case hr => first | (go_simp; done) | (go_simp; rfl)); intro gb166 hg w71 hbox hb; have BK166 := Aside0.mk (hbox); have GW166 := Aside0.mk ((by rw [hg]; exact (below_size (by repeat (first | (with_reducible first | exact HB.out | apply below_alloc | apply pw_below_drewN | apply below_drew1) | exact HB.out))) : w.heap.size ≤ gb166)); have GE166 := Aside0.mk ((by rw [hg]; exact (below_size (by repeat (first | (with_reducible first | exact HB.out | apply below_alloc | apply pw_below_drewN | apply below_drew1) | exact HB.out))) : w.heap.size ≤ gb166)); replace HO165 := Aside0.mk (Kd.N_below (Kd.N_elderB (by (with_reducible repeat (first | apply Kd.N_alloc | apply Kd.N_drewN | apply Kd.N_drew)); exact HO165.out) gb166 (Nat.le_of_eq hg.symm)) hb); replace HB := Aside0.mk (below_step (by repeat (first | (with_reducible first | exact HB.out | apply below_alloc | apply pw_below_drewN | apply below_drew1) | exact HB.out)) hb); clear hb hbox hg; have hcz72_0 : w71.cell? ⟨gb166, 0, none⟩ = some (.slice none 0 0) := blk_cell BK166.out 0; have hcz72_1 : w71.cell? ⟨gb166, 1, none⟩ = some (.slice none 0 0) := blk_cell BK166.out 1; have hcz72_2 : w71.cell? ⟨gb166, 2, none⟩ = some (.int .i64 0) := blk_cell BK166.out 2; have hcz72_3 : w71.cell? ⟨gb166, 3, none⟩ = some (.bool false) := blk_cell BK166.out 3; have hfz72_0 := blk_frozen BK166.out 0; have hfz72_1 := blk_frozen BK166.out 1; have hfz72_2 := blk_frozen BK166.out 2; have hfz72_3 := blk_frozen BK166.out 3) | ((with_reducible refine gate_dst (N := 13) rfl ?_); (try (refine gate_guard (by rfl) ?_; dsimp only)); refine Kd.R_lit (Kd.int .i32) _ 21 ?hg (N := 13) ?hd (xs := ([97, 98] : List Int)) (inner := [.int .i32 97, .int .i32 98]) (ok := fun _ => True) (okp := fun _ => True) ?hr ?hp (fun _ hk => hk) trivial (Below.refl _ _) (Nat.le_refl _) (by simp) ?_; (case hd => rfl); (case hg => rfl); (case hr => first | (go_simp; done) | (go_simp; rfl)); (case hp => exact (Reps.one (show Kd.M (Kd.int .i32) _ _ _ 97 [.int .i32 97] from rfl) (Reps.one (show Kd.M (Kd.int .i32) _ _ _ 98 [.int .i32 98] from rfl) (Reps.none _ _)))); intro v168 w73 ho74 hb hg_ hnew_; clear hg_ hnew_; (first | rw [← Ny167.out] at ho74 | (simp only [Int.reduceToNat] at ho74; rw [← Ny167.out] at ho74)); have HO169 := Aside0.mk (Kd.R_lower ho74 (below_size (by repeat (first | (with_reducible first | exact HB.out | apply below_alloc | apply pw_below_drewN | apply below_drew1 | refine below_set ?_ GE166.out) | exact HB.out)))); replace HO165 := Aside0.mk (Kd.N_elder' (by (with_reducible repeat (first | apply Kd.N_alloc | apply Kd.N_drewN | apply Kd.N_drew)); exact (Kd.N_mono (Kd.N_far (p := ⟨gb166, 3, none⟩) (Kd.N_far (p := ⟨gb166, 2, none⟩) (Kd.N_far (p := ⟨gb166, 1, none⟩) (Kd.N_far (p := ⟨gb166, 0, none⟩) (Kd.N_mono HO165.out (fun k_ hk => (⟨hk, hk.2⟩ : _ ∧ k_ ≠ gb166))) (fun _ hk => hk.2) (.slice none 0 0)) (fun _ hk => hk.2) (.slice Ao70 y163.length co70)) (fun _ hk => hk.2) (.int .i64 0)) (fun _ hk => hk.2) (.bool false)) (fun _ h_ => h_.1))) (Kd.R_base ho74) hb); replace BK166 := Aside0.mk (blk_below (g := gb166) (o := .cells #[.slice none 0 0, .slice Ao70 y163.length co70, .int .i64 0, .bool false] 25 (0, 0)) (by (with_reducible repeat (first | refine blk_drewN ?_ _ | refine blk_drew ?_ | refine blk_alloc ?_ _)); refine blk_put (cs := #[.slice none 0 0, .slice Ao70 y163.length co70, .int .i64 0, .bool false]) ?_ 3 _ rfl; (with_reducible repeat (first | refine blk_drewN ?_ _ | refine blk_drew ?_ | refine blk_alloc ?_ _)); refine blk_put (cs := #[.slice none 0 0, .slice Ao70 y163.length co70, .int .i64 0, .bool false]) ?_ 2 _ rfl; (with_reducible repeat (first | refine blk_drewN ?_ _ | refine blk_drew ?_ | refine blk_alloc ?_ _)); refine blk_put (cs := #[.slice none 0 0, .slice none 0 0, .int .i64 0, .bool false]) ?_ 1 _ rfl; (with_reducible repeat (first | refine blk_drewN ?_ _ | refine blk_drew ?_ | refine blk_alloc ?_ _)); refine blk_put (cs := #[.slice none 0 0, .slice none 0 0, .int .i64 0, .bool false]) ?_ 0 _ rfl; (with_reducible repeat (first | refine blk_drewN ?_ _ | refine blk_drew ?_ | refine blk_alloc ?_ _)); exact BK166.out) hb); replace HB := Aside0.mk (below_step (by repeat (first | (with_reducible first | exact HB.out | apply below_alloc | apply pw_below_drewN | apply below_drew1 | refine below_set ?_ GE166.out) | exact HB.out)) hb); clear hb ho74; obtain ⟨Ao75, co75, eo75⟩ := Kd.R_slice HO169.out; subst eo75) | ((with_reducible refine gate_callee (f := 11) rfl ?_); refine goesL_ (some 14) rfl rfl Try.func11 (by kernel_rfl) rfl #[.agg #[.slice none 0 0, .slice Ao70 y163.length co70, .int .i64 0, .bool false], .slice Ao75 y167.length co75] rfl (by (try simp only [List.map_toArray, List.map_cons, List.map_nil]); first | done | rfl | (simp only [List.length_drop, List.length_take]; done) | (simp only [List.length_drop, List.length_take]; rfl)) ?_; (refine (weigh_Elements.calls _ _ ([] : List (S42)) _ _ y163 0 false _ _ y167 t170 t173 _ ?side1 ?side2 ?side3 ?side4 ?side5 ?side6 A1.out).mono ?_); (case side1 => exact Kd.C_nil _ _); (case side2 => exact Nat.le_refl _); (case side3 => repeat (first | exact (Kd.N_reads' HO165.out).2.2 | (with_reducible refine Kd.C_alloc ?_ _) | (with_reducible refine Kd.C_drewN ?_ _) | (with_reducible refine Kd.C_drew ?_))); (case side4 => exact (Kd.N_reads' HO165.out).2.1); (case side5 => repeat (first | exact (Kd.R_reads' HO169.out).2.2 | (with_reducible refine Kd.C_alloc ?_ _) | (with_reducible refine Kd.C_drewN ?_ _) | (with_reducible refine Kd.C_drew ?_))); (case side6 => exact (Kd.R_reads' HO169.out).2.1); rintro e w76 ⟨v171, rfl, ho0, hb⟩; refine ⟨_, rfl, ?_⟩; have HO172 := Aside0.mk (Kd.R_lower ho0 (below_size (by repeat (first | (with_reducible first | exact HB.out | apply below_alloc | apply pw_below_drewN | apply below_drew1 | refine below_set ?_ GE166.out) | exact HB.out)))); replace HO165 := Aside0.mk (Kd.N_elder' (by (with_reducible repeat (first | apply Kd.N_alloc | apply Kd.N_drewN | apply Kd.N_drew)); exact HO165.out) (Kd.R_base ho0) hb); replace HO169 := Aside0.mk (Kd.R_below (pR HO169.out) hb); replace BK166 := Aside0.mk (blk_below (pb BK166.out) hb); replace HB := Aside0.mk (below_step (by repeat (first | (with_reducible first | exact HB.out | apply below_alloc | apply pw_below_drewN | apply below_drew1 | refine below_set ?_ GE166.out) | exact HB.out)) hb); (try clear hb); (try clear hb2); (try clear hk); (try clear hi); (try clear ho0)) | ((with_reducible refine gate_callee (f := 18) rfl ?_); refine goesL_ (some 17) rfl rfl Try.func18 (by kernel_rfl) rfl #[.int .i32 98] rfl (by (try simp only [List.map_toArray, List.map_cons, List.map_nil]); first | done | rfl | (simp only [List.length_drop, List.length_take]; done) | (simp only [List.length_drop, List.length_take]; rfl)) ?_; (with_reducible refine (weigh_Implied.calls 98 t174 t175 t176 t177 t178 t179 _ A2.out).mono ?_); rintro e w77 ⟨rfl, hb⟩; refine ⟨_, rfl, ?_⟩; replace HO165 := Aside0.mk (Kd.N_below (by (with_reducible repeat (first | apply Kd.N_alloc | apply Kd.N_drewN | apply Kd.N_drew)); exact HO165.out) hb); replace HO169 := Aside0.mk (Kd.R_below (pR HO169.out) hb); replace HO172 := Aside0.mk (Kd.R_below (pR HO172.out) hb); replace BK166 := Aside0.mk (blk_below (pb BK166.out) hb); replace HB := Aside0.mk (below_step (by repeat (first | (with_reducible first | exact HB.out | apply below_alloc | apply pw_below_drewN | apply below_drew1 | refine below_set ?_ GE166.out) | exact HB.out)) hb); (try clear hb); (try clear hb2); (try clear hk); (try clear hi)) | ((with_reducible refine gate_dst (N := 4) rfl ?_); (try (refine gate_guard (by rfl) ?_; dsimp only)); refine box_event ?hg (N := 4) ?hd (cs := #[.int .i64 0, .int .i64 0, .int .i64 0, .int .i64 0, .int .i64 0, .int .i64 0]) (t := 46) ?hr ?_; (case hd => rfl); (case hg => rfl); (case hr => first | (go_simp; done) | (go_simp; rfl)); intro gb180 hg w78 hbox hb; have BK180 := Aside0.mk (hbox); have GW180 := Aside0.mk ((by rw [hg]; exact (below_size (by repeat (first | (with_reducible first | exact HB.out | apply below_alloc | apply pw_below_drewN | apply below_drew1 | refine below_set ?_ GE166.out) | exact HB.out))) : w.heap.size ≤ gb180)); have GE180 := Aside0.mk ((by rw [hg]; exact (below_size (by repeat (first | (with_reducible first | exact HB.out | apply below_alloc | apply pw_below_drewN | apply below_drew1 | refine below_set ?_ GE166.out) | exact HB.out))) : w.heap.size ≤ gb180)); have NB166_180 := neL hg BK166.out; have NB180_166 := neG hg BK166.out; replace HO165 := Aside0.mk (Kd.N_below (Kd.N_elderB (by (with_reducible repeat (first | apply Kd.N_alloc | apply Kd.N_drewN | apply Kd.N_drew)); exact HO165.out) gb180 (Nat.le_of_eq hg.symm)) hb); replace HO169 := Aside0.mk (Kd.R_below (pR HO169.out) hb); replace HO172 := Aside0.mk (Kd.R_below (pR HO172.out) hb); replace BK166 := Aside0.mk (blk_below (pb BK166.out) hb); replace HB := Aside0.mk (below_step (by repeat (first | (with_reducible first | exact HB.out | apply below_alloc | apply pw_below_drewN | apply below_drew1 | refine below_set ?_ GE166.out) | exact HB.out)) hb); clear hb hbox hg; have hnb79 := NB180_166.out; have hnc79 := NB166_180.out; have hcz80_0 : w78.cell? ⟨gb180, 0, none⟩ = some (.int .i64 0) := blk_cell BK180.out 0; have hcz80_1 : w78.cell? ⟨gb180, 1, none⟩ = some (.int .i64 0) := blk_cell BK180.out 1; have hcz80_2 : w78.cell? ⟨gb180, 2, none⟩ = some (.int .i64 0) := blk_cell BK180.out 2; have hcz80_3 : w78.cell? ⟨gb180, 3, none⟩ = some (.int .i64 0) := blk_cell BK180.out 3; have hcz80_4 : w78.cell? ⟨gb180, 4, none⟩ = some (.int .i64 0) := blk_cell BK180.out 4; have hcz80_5 : w78.cell? ⟨gb180, 5, none⟩ = some (.int .i64 0) := blk_cell BK180.out 5; have hfz80_0 := blk_frozen BK180.out 0; have hfz80_1 := blk_frozen BK180.out 1; have hfz80_2 := blk_frozen BK180.out 2; have hfz80_3 := blk_frozen BK180.out 3; have hfz80_4 := blk_frozen BK180.out 4; have hfz80_5 := blk_frozen BK180.out 5))
   have n0_ : Aside0 (Kd.N k44 44 ((((((w78.setCell ⟨gb180, 0, none⟩ (.int .i64 t174)).setCell ⟨gb180, 1, none⟩ (.int .i64 t175)).setCell ⟨gb180, 2, none⟩ (.int .i64 t176)).setCell ⟨gb180, 3, none⟩ (.int .i64 t177)).setCell ⟨gb180, 4, none⟩ (.int .i64 t178)).setCell ⟨gb180, 5, none⟩ (.int .i64 t179)) w.heap.size (fun k_ => some k_ ≠ (.slice Ao75 y167.length co75 : Value).ownBlock ∧ some k_ ≠ (v171 : Value).ownBlock ∧ k_ ≠ gb166 ∧ k_ ≠ gb180) (.slice Ao70 y163.length co70) y163) := ⟨by (with_reducible repeat (first | apply Kd.N_alloc | apply Kd.N_drewN | apply Kd.N_drew)); exact Kd.N_mono (Kd.N_far (p := ⟨gb180, 5, none⟩) (Kd.N_far (p := ⟨gb180, 4, none⟩) (Kd.N_far (p := ⟨gb180, 3, none⟩) (Kd.N_far (p := ⟨gb180, 2, none⟩) (Kd.N_far (p := ⟨gb180, 1, none⟩) (Kd.N_far (p := ⟨gb180, 0, none⟩) (Kd.N_mono HO165.out (fun k_ hk => (⟨hk, hk.2⟩ : _ ∧ k_ ≠ gb180))) (fun _ hk => hk.2) (.int .i64 t174)) (fun _ hk => hk.2) (.int .i64 t175)) (fun _ hk => hk.2) (.int .i64 t176)) (fun _ hk => hk.2) (.int .i64 t177)) (fun _ hk => hk.2) (.int .i64 t178)) (fun _ hk => hk.2) (.int .i64 t179)) (fun _ hk => by first | exact ⟨hk.1.1.1.2, ⟨hk.1.1.2, ⟨hk.1.1.1.1.2, hk.1.2⟩⟩⟩ | omega)⟩
   have n1_ : Aside0 (Kd.R (Kd.int .i32) 21 ((((((w78.setCell ⟨gb180, 0, none⟩ (.int .i64 t174)).setCell ⟨gb180, 1, none⟩ (.int .i64 t175)).setCell ⟨gb180, 2, none⟩ (.int .i64 t176)).setCell ⟨gb180, 3, none⟩ (.int .i64 t177)).setCell ⟨gb180, 4, none⟩ (.int .i64 t178)).setCell ⟨gb180, 5, none⟩ (.int .i64 t179)) w.heap.size (fun _ => True) (.slice Ao75 y167.length co75) y167) := ⟨by (with_reducible repeat (first | apply Kd.R_alloc | apply Kd.R_drewN | apply Kd.R_drew)); exact Kd.R_mono (Kd.R_far (p := ⟨gb180, 5, none⟩) (Kd.R_far (p := ⟨gb180, 4, none⟩) (Kd.R_far (p := ⟨gb180, 3, none⟩) (Kd.R_far (p := ⟨gb180, 2, none⟩) (Kd.R_far (p := ⟨gb180, 1, none⟩) (Kd.R_far (p := ⟨gb180, 0, none⟩) (Kd.R_types HO169.out BK180.out (by decide)) (fun _ hk => hk.2) (.int .i64 t174)) (fun _ hk => hk.2) (.int .i64 t175)) (fun _ hk => hk.2) (.int .i64 t176)) (fun _ hk => hk.2) (.int .i64 t177)) (fun _ hk => hk.2) (.int .i64 t178)) (fun _ hk => hk.2) (.int .i64 t179)) (fun _ hk => trivial)⟩
   have n2_ : Aside0 (Kd.R k39 39 ((((((w78.setCell ⟨gb180, 0, none⟩ (.int .i64 t174)).setCell ⟨gb180, 1, none⟩ (.int .i64 t175)).setCell ⟨gb180, 2, none⟩ (.int .i64 t176)).setCell ⟨gb180, 3, none⟩ (.int .i64 t177)).setCell ⟨gb180, 4, none⟩ (.int .i64 t178)).setCell ⟨gb180, 5, none⟩ (.int .i64 t179)) w.heap.size (fun _ => True) v171 t170) := ⟨by (with_reducible repeat (first | apply Kd.R_alloc | apply Kd.R_drewN | apply Kd.R_drew)); exact Kd.R_mono (Kd.R_far (p := ⟨gb180, 5, none⟩) (Kd.R_far (p := ⟨gb180, 4, none⟩) (Kd.R_far (p := ⟨gb180, 3, none⟩) (Kd.R_far (p := ⟨gb180, 2, none⟩) (Kd.R_far (p := ⟨gb180, 1, none⟩) (Kd.R_far (p := ⟨gb180, 0, none⟩) (Kd.R_types HO172.out BK180.out (by decide)) (fun _ hk => hk.2) (.int .i64 t174)) (fun _ hk => hk.2) (.int .i64 t175)) (fun _ hk => hk.2) (.int .i64 t176)) (fun _ hk => hk.2) (.int .i64 t177)) (fun _ hk => hk.2) (.int .i64 t178)) (fun _ hk => hk.2) (.int .i64 t179)) (fun _ hk => trivial)⟩
   have n3_ : Aside0 (((((((w78.setCell ⟨gb180, 0, none⟩ (.int .i64 t174)).setCell ⟨gb180, 1, none⟩ (.int .i64 t175)).setCell ⟨gb180, 2, none⟩ (.int .i64 t176)).setCell ⟨gb180, 3, none⟩ (.int .i64 t177)).setCell ⟨gb180, 4, none⟩ (.int .i64 t178)).setCell ⟨gb180, 5, none⟩ (.int .i64 t179)).heap[gb166]? = some (.cells #[.slice none 0 0, .slice Ao70 y163.length co70, .int .i64 0, .bool false] 25 (0, 0))) := ⟨by (with_reducible repeat (first | refine blk_drewN ?_ _ | refine blk_drew ?_ | refine blk_alloc ?_ _)); refine blk_far ?_ NB166_180.out _; (with_reducible repeat (first | refine blk_drewN ?_ _ | refine blk_drew ?_ | refine blk_alloc ?_ _)); refine blk_far ?_ NB166_180.out _; (with_reducible repeat (first | refine blk_drewN ?_ _ | refine blk_drew ?_ | refine blk_alloc ?_ _)); refine blk_far ?_ NB166_180.out _; (with_reducible repeat (first | refine blk_drewN ?_ _ | refine blk_drew ?_ | refine blk_alloc ?_ _)); refine blk_far ?_ NB166_180.out _; (with_reducible repeat (first | refine blk_drewN ?_ _ | refine blk_drew ?_ | refine blk_alloc ?_ _)); refine blk_far ?_ NB166_180.out _; (with_reducible repeat (first | refine blk_drewN ?_ _ | refine blk_drew ?_ | refine blk_alloc ?_ _)); refine blk_far ?_ NB166_180.out _; (with_reducible repeat (first | refine blk_drewN ?_ _ | refine blk_drew ?_ | refine blk_alloc ?_ _)); exact BK166.out⟩
   have n4_ : Aside0 (((((((w78.setCell ⟨gb180, 0, none⟩ (.int .i64 t174)).setCell ⟨gb180, 1, none⟩ (.int .i64 t175)).setCell ⟨gb180, 2, none⟩ (.int .i64 t176)).setCell ⟨gb180, 3, none⟩ (.int .i64 t177)).setCell ⟨gb180, 4, none⟩ (.int .i64 t178)).setCell ⟨gb180, 5, none⟩ (.int .i64 t179)).heap[gb180]? = some (.cells #[.int .i64 t174, .int .i64 t175, .int .i64 t176, .int .i64 t177, .int .i64 t178, .int .i64 t179] 46 (0, 0))) := ⟨by (with_reducible repeat (first | refine blk_drewN ?_ _ | refine blk_drew ?_ | refine blk_alloc ?_ _)); refine blk_put (cs := #[.int .i64 t174, .int .i64 t175, .int .i64 t176, .int .i64 t177, .int .i64 t178, .int .i64 0]) ?_ 5 _ rfl; (with_reducible repeat (first | refine blk_drewN ?_ _ | refine blk_drew ?_ | refine blk_alloc ?_ _)); refine blk_put (cs := #[.int .i64 t174, .int .i64 t175, .int .i64 t176, .int .i64 t177, .int .i64 0, .int .i64 0]) ?_ 4 _ rfl; (with_reducible repeat (first | refine blk_drewN ?_ _ | refine blk_drew ?_ | refine blk_alloc ?_ _)); refine blk_put (cs := #[.int .i64 t174, .int .i64 t175, .int .i64 t176, .int .i64 0, .int .i64 0, .int .i64 0]) ?_ 3 _ rfl; (with_reducible repeat (first | refine blk_drewN ?_ _ | refine blk_drew ?_ | refine blk_alloc ?_ _)); refine blk_put (cs := #[.int .i64 t174, .int .i64 t175, .int .i64 0, .int .i64 0, .int .i64 0, .int .i64 0]) ?_ 2 _ rfl; (with_reducible repeat (first | refine blk_drewN ?_ _ | refine blk_drew ?_ | refine blk_alloc ?_ _)); refine blk_put (cs := #[.int .i64 t174, .int .i64 0, .int .i64 0, .int .i64 0, .int .i64 0, .int .i64 0]) ?_ 1 _ rfl; (with_reducible repeat (first | refine blk_drewN ?_ _ | refine blk_drew ?_ | refine blk_alloc ?_ _)); refine blk_put (cs := #[.int .i64 0, .int .i64 0, .int .i64 0, .int .i64 0, .int .i64 0, .int .i64 0]) ?_ 0 _ rfl; (with_reducible repeat (first | refine blk_drewN ?_ _ | refine blk_drew ?_ | refine blk_alloc ?_ _)); exact BK180.out⟩
   have n5_ : Aside0 (Below w.heap.size w ((((((w78.setCell ⟨gb180, 0, none⟩ (.int .i64 t174)).setCell ⟨gb180, 1, none⟩ (.int .i64 t175)).setCell ⟨gb180, 2, none⟩ (.int .i64 t176)).setCell ⟨gb180, 3, none⟩ (.int .i64 t177)).setCell ⟨gb180, 4, none⟩ (.int .i64 t178)).setCell ⟨gb180, 5, none⟩ (.int .i64 t179))) := ⟨by repeat (first | (with_reducible first | exact HB.out | apply below_alloc | apply pw_below_drewN | apply below_drew1 | refine below_set ?_ GE166.out | refine below_set ?_ GE180.out) | exact HB.out)⟩
   (try clear HO165)
   (try clear HO169)
   (try clear HO172)
   (try clear BK166)
   (try clear BK180)
   (try clear HB)
   generalize ((((((w78.setCell ⟨gb180, 0, none⟩ (.int .i64 t174)).setCell ⟨gb180, 1, none⟩ (.int .i64 t175)).setCell ⟨gb180, 2, none⟩ (.int .i64 t176)).setCell ⟨gb180, 3, none⟩ (.int .i64 t177)).setCell ⟨gb180, 4, none⟩ (.int .i64 t178)).setCell ⟨gb180, 5, none⟩ (.int .i64 t179)) = w81 at n0_ n1_ n2_ n3_ n4_ n5_ ⊢
   have HO165 := n0_
   have HO169 := n1_
   have HO172 := n2_
   have BK166 := n3_
   have BK180 := n4_
   have HB := n5_
   clear n0_ n1_ n2_ n3_ n4_ n5_
   replace HO165 := Aside0.mk (Kd.N_drew HO165.out)
   replace HO169 := Aside0.mk (Kd.R_drew HO169.out)
   replace HO172 := Aside0.mk (Kd.R_drew HO172.out)
   replace BK166 := Aside0.mk (blk_drew BK166.out)
   replace BK180 := Aside0.mk (blk_drew BK180.out)
   replace HB := Aside0.mk (below_drew1 HB.out)
   refine start_ (n := 22) (S := fun w' => w'.cell? ⟨gb166, 0, none⟩ = some (.slice none 0 0) ∧ w'.cell? ⟨gb166, 1, none⟩ = some (.slice Ao70 y163.length co70) ∧ w'.cell? ⟨gb166, 2, none⟩ = some (.int .i64 0) ∧ w'.cell? ⟨gb166, 3, none⟩ = some (.bool false)) (ds := []) (fl 0 22) (by kernel_rfl) rfl rfl ⟨blk_cell BK166.out 0, blk_cell BK166.out 1, blk_cell BK166.out 2, blk_cell BK166.out 3⟩ (fun hHeld => ?_); refine with_tabW gazetteerlaw3_awake.tab4 gazetteerlaw3_awake.bits4 (fun HT_ HW_ => ?_)
   generalize w81.drew = w82 at HO165 HO169 HO172 BK166 BK180 HB hHeld ⊢
   refine pure_ (i := 0) (N := some 18) (v := ?_) (a' := ?_) (fl 1 21) rfl rfl (any_of HT_.out (by kernel_rfl)) (fun _ _ _ h => h) (Or.inl ⟨by rfl, ?_⟩) ?_ ?_
   rotate_left
   · intro w'
     go_simp
     with_reducible rfl
   rotate_left
   · simp only [Act.put, List.setIfInBounds_toArray, List.set_cons_zero, List.set_cons_succ, i64_w, i32_w]; rfl
   refine pure_ (i := 1) (N := some 19) (v := ?_) (a' := ?_) (fl 2 20) rfl rfl (any_of HT_.out (by kernel_rfl)) (fun _ _ _ h => h) (Or.inl ⟨by rfl, ?_⟩) ?_ ?_
   rotate_left
   · intro w'
     go_simp
     with_reducible rfl
   rotate_left
   · simp only [Act.put, List.setIfInBounds_toArray, List.set_cons_zero, List.set_cons_succ, i64_w, i32_w]; rfl
   refine pure_ (i := 2) (N := some 20) (v := ?_) (a' := ?_) (fl 3 19) rfl rfl (any_of HT_.out (by kernel_rfl)) (fun _ _ _ h => h) (Or.inl ⟨by rfl, ?_⟩) ?_ ?_
   rotate_left
   · intro w'
     go_simp
     with_reducible rfl
   rotate_left
   · simp only [Act.put, List.setIfInBounds_toArray, List.set_cons_zero, List.set_cons_succ, i64_w, i32_w]; rfl
   refine take_ (i := 3) (N := some 21) (v := ?_) (a' := ?_) (fl 4 18) rfl rfl (take_ofW HT_.out HW_.out (by kernel_rfl)) (fun _ _ _ h => h) (Or.inl ⟨by rfl, ?_⟩) hHeld ?_ ?_
   rotate_left
   · rintro w' ⟨s0, s1, s2, s3⟩; go_simp; with_reducible rfl
   rotate_left
   · simp only [Act.put, List.setIfInBounds_toArray, List.set_cons_zero, List.set_cons_succ, i64_w, i32_w]; rfl
   refine one_ (i := 4) (N := some 22) (fl 5 17) rfl rfl (one_of HT_.out (by kernel_rfl)) (by decide) (fun K hK => ?_)
   refine goes_ Try.func14 (by kernel_rfl) rfl #[.agg #[.slice none 0 0, .slice Ao70 y163.length co70, .int .i64 0, .bool false]] (by rfl) rfl rfl (by (try simp only [List.map_toArray, List.map_cons, List.map_nil]); first | done | rfl | (simp only [List.length_drop, List.length_take]; done) | (simp only [List.length_drop, List.length_take]; rfl)) ?_
   refine (weigh_May.calls _ _ ([] : List (S42)) _ _ y163 0 false false _ ?side1 ?side2 ?side3 ?side4 A4.out).mono ?_
   (case side1 => exact Kd.C_nil _ _)
   (case side2 => exact Nat.le_refl _)
   (case side3 => repeat (first | exact (Kd.N_reads' HO165.out).2.2 | (with_reducible refine Kd.C_alloc ?_ _) | (with_reducible refine Kd.C_drewN ?_ _) | (with_reducible refine Kd.C_drew ?_)))
   (case side4 => exact (Kd.N_reads' HO165.out).2.1)
   rintro e w83 ⟨rfl, hb⟩
   refine ⟨_, rfl, ?_⟩
   replace HO165 := Aside0.mk (Kd.N_below (by (with_reducible repeat (first | apply Kd.N_alloc | apply Kd.N_drewN | apply Kd.N_drew)); exact HO165.out) hb)
   replace HO169 := Aside0.mk (Kd.R_below (pR HO169.out) hb)
   replace HO172 := Aside0.mk (Kd.R_below (pR HO172.out) hb)
   replace BK166 := Aside0.mk (blk_below (pb BK166.out) hb)
   replace BK180 := Aside0.mk (blk_below (pb BK180.out) hb)
   replace HB := Aside0.mk (below_step (pB HB.out) hb)
   (try clear hb)
   (try clear hb2)
   (try clear hk)
   (try clear hi)
   refine hK.out _ _ ⟨blk_cell BK166.out 0, blk_cell BK166.out 1, blk_cell BK166.out 2, blk_cell BK166.out 3⟩ (fun hHeld => ?_)
   clear hK K
   refine norm_ (a' := ?_) ?_ ?_
   rotate_left
   · show Act.put _ (some 22) _ = _; simp only [Act.put, List.setIfInBounds_toArray, List.set_cons_zero, List.set_cons_succ, i64_w, i32_w]; rfl
   refine pure_ (i := 5) (N := some 23) (v := ?_) (a' := ?_) (fl 6 16) rfl rfl (any_of HT_.out (by kernel_rfl)) (fun _ _ _ h => h) (Or.inl ⟨by rfl, ?_⟩) ?_ ?_
   rotate_left
   · intro w'
     go_simp
     with_reducible rfl
   rotate_left
   · simp only [Act.put, List.setIfInBounds_toArray, List.set_cons_zero, List.set_cons_succ, i64_w, i32_w]; rfl
   refine pure_ (i := 6) (N := some 24) (v := ?_) (a' := ?_) (fl 7 15) rfl rfl (any_of HT_.out (by kernel_rfl)) (fun _ _ _ h => h) (Or.inl ⟨by rfl, ?_⟩) ?_ ?_
   rotate_left
   · intro w'
     go_simp
     with_reducible rfl
   rotate_left
   · simp only [Act.put, List.setIfInBounds_toArray, List.set_cons_zero, List.set_cons_succ, i64_w, i32_w]; rfl
   refine pure_ (i := 7) (N := some 25) (v := undef) (a' := ?_) (fl 8 14) rfl rfl (any_of HT_.out (by kernel_rfl)) (fun _ _ _ h => h) (Or.inr ⟨by rfl, rfl⟩) ?_ ?_
   rotate_left
   · simp only [Act.put, List.setIfInBounds_toArray, List.set_cons_zero, List.set_cons_succ, i64_w, i32_w]; rfl
   refine pure_ (i := 8) (N := some 26) (v := undef) (a' := ?_) (fl 9 13) rfl rfl (any_of HT_.out (by kernel_rfl)) (fun _ _ _ h => h) (Or.inr ⟨by rfl, rfl⟩) ?_ ?_
   rotate_left
   · simp only [Act.put, List.setIfInBounds_toArray, List.set_cons_zero, List.set_cons_succ, i64_w, i32_w]; rfl
   refine pure_ (i := 9) (N := some 27) (v := undef) (a' := ?_) (fl 10 12) rfl rfl (any_of HT_.out (by kernel_rfl)) (fun _ _ _ h => h) (Or.inr ⟨by rfl, rfl⟩) ?_ ?_
   rotate_left
   · simp only [Act.put, List.setIfInBounds_toArray, List.set_cons_zero, List.set_cons_succ, i64_w, i32_w]; rfl
   refine pure_ (i := 10) (N := some 28) (v := undef) (a' := ?_) (fl 11 11) rfl rfl (any_of HT_.out (by kernel_rfl)) (fun _ _ _ h => h) (Or.inr ⟨by rfl, rfl⟩) ?_ ?_
   rotate_left
   · simp only [Act.put, List.setIfInBounds_toArray, List.set_cons_zero, List.set_cons_succ, i64_w, i32_w]; rfl
   refine pure_ (i := 11) (N := some 29) (v := undef) (a' := ?_) (fl 12 10) rfl rfl (any_of HT_.out (by kernel_rfl)) (fun _ _ _ h => h) (Or.inr ⟨by rfl, rfl⟩) ?_ ?_
   rotate_left
   · simp only [Act.put, List.setIfInBounds_toArray, List.set_cons_zero, List.set_cons_succ, i64_w, i32_w]; rfl
   refine pure_ (i := 12) (N := some 30) (v := undef) (a' := ?_) (fl 13 9) rfl rfl (any_of HT_.out (by kernel_rfl)) (fun _ _ _ h => h) (Or.inr ⟨by rfl, rfl⟩) ?_ ?_
   rotate_left
   · simp only [Act.put, List.setIfInBounds_toArray, List.set_cons_zero, List.set_cons_succ, i64_w, i32_w]; rfl
   refine pure_ (i := 13) (N := some 31) (v := undef) (a' := ?_) (fl 14 8) rfl rfl (any_of HT_.out (by kernel_rfl)) (fun _ _ _ h => h) (Or.inr ⟨by rfl, rfl⟩) ?_ ?_
   rotate_left
   · simp only [Act.put, List.setIfInBounds_toArray, List.set_cons_zero, List.set_cons_succ, i64_w, i32_w]; rfl
   refine pure_ (i := 14) (N := some 32) (v := undef) (a' := ?_) (fl 15 7) rfl rfl (any_of HT_.out (by kernel_rfl)) (fun _ _ _ h => h) (Or.inr ⟨by rfl, rfl⟩) ?_ ?_
   rotate_left
   · simp only [Act.put, List.setIfInBounds_toArray, List.set_cons_zero, List.set_cons_succ, i64_w, i32_w]; rfl
   refine pure_ (i := 15) (N := some 33) (v := ?_) (a' := ?_) (fl 16 6) rfl rfl (any_of HT_.out (by kernel_rfl)) (fun _ _ _ h => h) (Or.inl ⟨by rfl, ?_⟩) ?_ ?_
   rotate_left
   · intro w'
     go_simp
     with_reducible rfl
   rotate_left
   · simp only [Act.put, List.setIfInBounds_toArray, List.set_cons_zero, List.set_cons_succ, i64_w, i32_w]; rfl
   refine pure_ (i := 16) (N := some 34) (v := ?_) (a' := ?_) (fl 17 5) rfl rfl (any_of HT_.out (by kernel_rfl)) (fun _ _ _ h => h) (Or.inl ⟨by rfl, ?_⟩) ?_ ?_
   rotate_left
   · intro w'
     go_simp
     with_reducible rfl
   rotate_left
   · simp only [Act.put, List.setIfInBounds_toArray, List.set_cons_zero, List.set_cons_succ, i64_w, i32_w]; rfl
   refine pure_ (i := 17) (N := some 35) (v := undef) (a' := ?_) (fl 18 4) rfl rfl (any_of HT_.out (by kernel_rfl)) (fun _ _ _ h => h) (Or.inr ⟨by rfl, rfl⟩) ?_ ?_
   rotate_left
   · simp only [Act.put, List.setIfInBounds_toArray, List.set_cons_zero, List.set_cons_succ, i64_w, i32_w]; rfl
   refine pure_ (i := 18) (N := some 36) (v := undef) (a' := ?_) (fl 19 3) rfl rfl (any_of HT_.out (by kernel_rfl)) (fun _ _ _ h => h) (Or.inr ⟨by rfl, rfl⟩) ?_ ?_
   rotate_left
   · simp only [Act.put, List.setIfInBounds_toArray, List.set_cons_zero, List.set_cons_succ, i64_w, i32_w]; rfl
   refine pure_ (i := 19) (N := some 37) (v := undef) (a' := ?_) (fl 20 2) rfl rfl (any_of HT_.out (by kernel_rfl)) (fun _ _ _ h => h) (Or.inr ⟨by rfl, rfl⟩) ?_ ?_
   rotate_left
   · simp only [Act.put, List.setIfInBounds_toArray, List.set_cons_zero, List.set_cons_succ, i64_w, i32_w]; rfl
   refine pure_ (i := 20) (N := some 38) (v := ?_) (a' := ?_) (fl 21 1) rfl rfl (any_of HT_.out (by kernel_rfl)) (fun _ _ _ h => h) (Or.inl ⟨by rfl, ?_⟩) ?_ ?_
   rotate_left
   · intro w'
     go_simp
     with_reducible rfl
   rotate_left
   · simp only [Act.put, List.setIfInBounds_toArray, List.set_cons_zero, List.set_cons_succ, i64_w, i32_w]; rfl
   refine pure_ (i := 21) (N := some 0) (v := ?_) (a' := ?_) (fl 22 0) rfl rfl (any_of HT_.out (by kernel_rfl)) (fun _ _ _ h => h) (Or.inl ⟨by rfl, ?_⟩) ?_ ?_
   rotate_left
   · intro w'
     go_simp
     with_reducible rfl
   rotate_left
   · simp only [Act.put, List.setIfInBounds_toArray, List.set_cons_zero, List.set_cons_succ, i64_w, i32_w]; rfl
   refine done_ (done_of HT_.out (by kernel_rfl)) ?_
   try go_wp2
   go_ret
   exact ⟨by first | rfl | (simp [errW_none, errW_some] <;> rfl) | (simp [*, errW_none, errW_some] <;> rfl), by repeat (first | (with_reducible first | exact HB.out | apply below_alloc | apply pw_below_drewN | apply below_drew1 | refine below_set ?_ GE166.out | refine below_set ?_ GE180.out) | exact HB.out)⟩
  subst c5
  have H1 : ((gazetteerlaw3_Same.f k t170 (([(⟨1, 1, 1⟩ : S39), (⟨t174, t175, t176⟩ : S39), (⟨t177, t178, t179⟩ : S39)] : List (S39)))).bind fun t185 => (if t185 = true then ((gazetteerref1_Implied.f 98).bind fun bt186 => (some ((t174 == bt186.1 && (t175 == bt186.2.1 && (t176 == bt186.2.2.1))) && ((t177 == bt186.2.2.2.1 && (t178 == bt186.2.2.2.2.1 && (t179 == bt186.2.2.2.2.2))))))) else (some false))) = some r := by rw [if_pos rfl] at H; exact H
  clear H
  have H := H1
  clear H1
  obtain ⟨y182, hy182⟩ : ∃ y_ : List (S39), y_ = (([(⟨1, 1, 1⟩ : S39), (⟨t174, t175, t176⟩ : S39), (⟨t177, t178, t179⟩ : S39)] : List (S39))) := ⟨_, rfl⟩
  replace H : ((gazetteerlaw3_Same.f k t170 y182).bind fun t185 => (if t185 = true then ((gazetteerref1_Implied.f 98).bind fun bt186 => (some ((t174 == bt186.1 && (t175 == bt186.2.1 && (t176 == bt186.2.2.1))) && ((t177 == bt186.2.2.2.1 && (t178 == bt186.2.2.2.2.1 && (t179 == bt186.2.2.2.2.2))))))) else (some false))) = some r := by first | (rw [hy182]; with_reducible exact H) | (have H2_ := (Option.bind_some _ _).symm.trans H; rw [hy182]; with_reducible exact H2_) | (have H2_ := (Option.bind_some _ _).symm.trans H; with_reducible exact H2_) | with_reducible exact H | (rw [hy182]; exact H) | exact H
  have Ny182 := Aside0.mk hy182
  clear hy182
  replace H := Option.bind_eq_some_iff.mp H
  obtain ⟨t185, A60, H⟩ := H
  replace H : (if t185 = true then ((gazetteerref1_Implied.f 98).bind fun bt186 => (some ((t174 == bt186.1 && (t175 == bt186.2.1 && (t176 == bt186.2.2.1))) && ((t177 == bt186.2.2.2.1 && (t178 == bt186.2.2.2.2.1 && (t179 == bt186.2.2.2.2.2))))))) else (some false)) = some r := H
  have A6 := Aside0.mk A60
  clear A60
  by_cases c7 : t185 = true
  rotate_left
  ·
   replace c7 := Bool.eq_false_iff.mpr c7
   subst c7
   have H1 : (some false) = some r := by rw [if_neg (show ¬ (false = true) by decide)] at H; exact H
   clear H
   have H := H1
   clear H1
   obtain rfl := Option.some.inj H
   go_enter Try.func9, Try.ntmps9
   try go_wp2_with (first | ((with_reducible refine gate_dst (N := 5) rfl ?_); (try (refine gate_guard (by rfl) ?_; dsimp only)); refine Kd.R_lit (Kd.int .i32) _ 21 ?hg (N := 5) ?hd (xs := ([97] : List Int)) (inner := [.int .i32 97]) (ok := fun _ => True) (okp := fun _ => True) ?hr ?hp (fun _ hk => hk) trivial (Below.refl _ _) (Nat.le_refl _) (by simp) ?_; (case hd => rfl); (case hg => rfl); (case hr => first | (go_simp; done) | (go_simp; rfl)); (case hp => exact (Reps.one (show Kd.M (Kd.int .i32) _ _ _ 97 [.int .i32 97] from rfl) (Reps.none _ _))); intro v158 w36 ho37 hb hg_ hnew_; clear hg_ hnew_; (first | rw [← Ny157.out] at ho37 | (simp only [Int.reduceToNat] at ho37; rw [← Ny157.out] at ho37)); have HO159 := Aside0.mk (Kd.R_lower ho37 (below_size (by repeat (first | (with_reducible first | exact HB.out | apply below_alloc | apply pw_below_drewN | apply below_drew1) | exact HB.out)))); replace HB := Aside0.mk (below_step (by repeat (first | (with_reducible first | exact HB.out | apply below_alloc | apply pw_below_drewN | apply below_drew1) | exact HB.out)) hb); clear hb ho37) | ((with_reducible refine gate_dst (N := 7) rfl ?_); (try (refine gate_guard (by rfl) ?_; dsimp only)); refine Kd.R_lit k39 _ 39 ?hg (N := 7) ?hd (xs := ([(⟨1, 1, 1⟩ : S39)] : List (S39))) (inner := [.int .i64 1, .int .i64 1, .int .i64 1]) (ok := fun _ => True) (okp := fun _ => True) ?hr ?hp (fun _ hk => hk) trivial (Below.refl _ _) (Nat.le_refl _) (by simp) ?_; (case hd => rfl); (case hg => rfl); (case hr => first | (go_simp; done) | (go_simp; rfl)); (case hp => exact (Reps.c3 (show Kd.M k39 _ _ _ (⟨1, 1, 1⟩ : S39) [.int .i64 1, .int .i64 1, .int .i64 1] from (k39_mkM _ _ _ (⟨1, 1, 1⟩ : S39) )) (Reps.none _ _))); intro v161 w38 ho39 hb hg_ hnew_; clear hg_ hnew_; (first | rw [← Ny160.out] at ho39 | (simp only [Int.reduceToNat] at ho39; rw [← Ny160.out] at ho39)); have HO162 := Aside0.mk (Kd.R_lower ho39 (below_size (by repeat (first | (with_reducible first | exact HB.out | apply below_alloc | apply pw_below_drewN | apply below_drew1) | exact HB.out)))); replace HO159 := Aside0.mk (Kd.R_below (pR HO159.out) hb); replace HB := Aside0.mk (below_step (by repeat (first | (with_reducible first | exact HB.out | apply below_alloc | apply pw_below_drewN | apply below_drew1) | exact HB.out)) hb); clear hb ho39; obtain ⟨Ao40, co40, eo40⟩ := Kd.R_slice HO162.out; subst eo40; obtain ⟨Ao41, co41, eo41⟩ := Kd.R_slice HO159.out; subst eo41) | ((with_reducible refine gate_dst (N := 9) rfl ?_); (try (refine gate_guard (by rfl) ?_; dsimp only)); refine Kd.N_lit k44 _ 44 ?hg (N' := 9) ?hd (xs := ([(⟨y157, y160⟩ : S44)] : List (S44))) (inner := [.slice Ao41 y157.length co41, .slice Ao40 y160.length co40]) (ok := (fun _ => True)) (okp := (fun _ => True)) ?hr ?hp (fun _ hk => hk) ((show ∀ k_, w38.heap.size ≤ k_ → (fun _ => True) k_ from fun k_ hk => trivial) _ (Nat.le_refl _)) (Below.refl _ _) (Nat.le_refl _) (by simp) ?_; (case hd => rfl); (case hg => rfl); (case hr => first | (go_simp; done) | (go_simp; rfl)); (case hp => exact (Reps.c2 (show Kd.FK k44 _ _ (⟨y157, y160⟩ : S44) [.slice Ao41 y157.length co41, .slice Ao40 y160.length co40] from (k44_mkF _ _ (⟨y157, y160⟩ : S44) (Kd.R_reads' (Kd.R_mono (ok' := (fun _ => True)) (HO159.out) (fun k_ hk => trivial))).2.1 (Kd.R_F (Kd.R_mono (ok' := (fun _ => True)) (HO159.out) (fun k_ hk => trivial))) (Kd.R_reads' (Kd.R_mono (ok' := (fun _ => True)) (HO162.out) (fun k_ hk => trivial))).2.1 (Kd.R_F (Kd.R_mono (ok' := (fun _ => True)) (HO162.out) (fun k_ hk => trivial))))) (Reps.none _ _))); intro v164 w42 ho43 hb hg_ hnew_; clear hg_ hnew_; (first | rw [← Ny163.out] at ho43 | (simp only [Int.reduceToNat] at ho43; rw [← Ny163.out] at ho43)); have HO165 := Aside0.mk (Kd.N_lower ho43 (below_size (by repeat (first | (with_reducible first | exact HB.out | apply below_alloc | apply pw_below_drewN | apply below_drew1) | exact HB.out)))); replace HB := Aside0.mk (below_step (by repeat (first | (with_reducible first | exact HB.out | apply below_alloc | apply pw_below_drewN | apply below_drew1) | exact HB.out)) hb); clear HO159 HO162; clear hb ho43; obtain ⟨Ao44, co44, eo44⟩ := Kd.N_slice HO165.out; subst eo44) | ((with_reducible refine gate_dst (N := 1) rfl ?_); (try (refine gate_guard (by rfl) ?_; dsimp only)); refine box_event ?hg (N := 1) ?hd (cs := #[.slice none 0 0, .slice none 0 0, .int .i64 0, .bool false]) (t := 25) ?hr ?_; (case hd => rfl); (case hg => rfl); (case hr => first | (go_simp; done) | (go_simp; rfl)); intro gb166 hg w45 hbox hb; have BK166 := Aside0.mk (hbox); have GW166 := Aside0.mk ((by rw [hg]; exact (below_size (by repeat (first | (with_reducible first | exact HB.out | apply below_alloc | apply pw_below_drewN | apply below_drew1) | exact HB.out))) : w.heap.size ≤ gb166)); have GE166 := Aside0.mk ((by rw [hg]; exact (below_size (by repeat (first | (with_reducible first | exact HB.out | apply below_alloc | apply pw_below_drewN | apply below_drew1) | exact HB.out))) : w.heap.size ≤ gb166)); replace HO165 := Aside0.mk (Kd.N_below (Kd.N_elderB (by (with_reducible repeat (first | apply Kd.N_alloc | apply Kd.N_drewN | apply Kd.N_drew)); exact HO165.out) gb166 (Nat.le_of_eq hg.symm)) hb); replace HB := Aside0.mk (below_step (by repeat (first | (with_reducible first | exact HB.out | apply below_alloc | apply pw_below_drewN | apply below_drew1) | exact HB.out)) hb); clear hb hbox hg; have hcz46_0 : w45.cell? ⟨gb166, 0, none⟩ = some (.slice none 0 0) := blk_cell BK166.out 0; have hcz46_1 : w45.cell? ⟨gb166, 1, none⟩ = some (.slice none 0 0) := blk_cell BK166.out 1; have hcz46_2 : w45.cell? ⟨gb166, 2, none⟩ = some (.int .i64 0) := blk_cell BK166.out 2; have hcz46_3 : w45.cell? ⟨gb166, 3, none⟩ = some (.bool false) := blk_cell BK166.out 3; have hfz46_0 := blk_frozen BK166.out 0; have hfz46_1 := blk_frozen BK166.out 1; have hfz46_2 := blk_frozen BK166.out 2; have hfz46_3 := blk_frozen BK166.out 3) | ((with_reducible refine gate_dst (N := 13) rfl ?_); (try (refine gate_guard (by rfl) ?_; dsimp only)); refine Kd.R_lit (Kd.int .i32) _ 21 ?hg (N := 13) ?hd (xs := ([97, 98] : List Int)) (inner := [.int .i32 97, .int .i32 98]) (ok := fun _ => True) (okp := fun _ => True) ?hr ?hp (fun _ hk => hk) trivial (Below.refl _ _) (Nat.le_refl _) (by simp) ?_; (case hd => rfl); (case hg => rfl); (case hr => first | (go_simp; done) | (go_simp; rfl)); (case hp => exact (Reps.one (show Kd.M (Kd.int .i32) _ _ _ 97 [.int .i32 97] from rfl) (Reps.one (show Kd.M (Kd.int .i32) _ _ _ 98 [.int .i32 98] from rfl) (Reps.none _ _)))); intro v168 w47 ho48 hb hg_ hnew_; clear hg_ hnew_; (first | rw [← Ny167.out] at ho48 | (simp only [Int.reduceToNat] at ho48; rw [← Ny167.out] at ho48)); have HO169 := Aside0.mk (Kd.R_lower ho48 (below_size (by repeat (first | (with_reducible first | exact HB.out | apply below_alloc | apply pw_below_drewN | apply below_drew1 | refine below_set ?_ GE166.out) | exact HB.out)))); replace HO165 := Aside0.mk (Kd.N_elder' (by (with_reducible repeat (first | apply Kd.N_alloc | apply Kd.N_drewN | apply Kd.N_drew)); exact (Kd.N_mono (Kd.N_far (p := ⟨gb166, 3, none⟩) (Kd.N_far (p := ⟨gb166, 2, none⟩) (Kd.N_far (p := ⟨gb166, 1, none⟩) (Kd.N_far (p := ⟨gb166, 0, none⟩) (Kd.N_mono HO165.out (fun k_ hk => (⟨hk, hk.2⟩ : _ ∧ k_ ≠ gb166))) (fun _ hk => hk.2) (.slice none 0 0)) (fun _ hk => hk.2) (.slice Ao44 y163.length co44)) (fun _ hk => hk.2) (.int .i64 0)) (fun _ hk => hk.2) (.bool false)) (fun _ h_ => h_.1))) (Kd.R_base ho48) hb); replace BK166 := Aside0.mk (blk_below (g := gb166) (o := .cells #[.slice none 0 0, .slice Ao44 y163.length co44, .int .i64 0, .bool false] 25 (0, 0)) (by (with_reducible repeat (first | refine blk_drewN ?_ _ | refine blk_drew ?_ | refine blk_alloc ?_ _)); refine blk_put (cs := #[.slice none 0 0, .slice Ao44 y163.length co44, .int .i64 0, .bool false]) ?_ 3 _ rfl; (with_reducible repeat (first | refine blk_drewN ?_ _ | refine blk_drew ?_ | refine blk_alloc ?_ _)); refine blk_put (cs := #[.slice none 0 0, .slice Ao44 y163.length co44, .int .i64 0, .bool false]) ?_ 2 _ rfl; (with_reducible repeat (first | refine blk_drewN ?_ _ | refine blk_drew ?_ | refine blk_alloc ?_ _)); refine blk_put (cs := #[.slice none 0 0, .slice none 0 0, .int .i64 0, .bool false]) ?_ 1 _ rfl; (with_reducible repeat (first | refine blk_drewN ?_ _ | refine blk_drew ?_ | refine blk_alloc ?_ _)); refine blk_put (cs := #[.slice none 0 0, .slice none 0 0, .int .i64 0, .bool false]) ?_ 0 _ rfl; (with_reducible repeat (first | refine blk_drewN ?_ _ | refine blk_drew ?_ | refine blk_alloc ?_ _)); exact BK166.out) hb); replace HB := Aside0.mk (below_step (by repeat (first | (with_reducible first | exact HB.out | apply below_alloc | apply pw_below_drewN | apply below_drew1 | refine below_set ?_ GE166.out) | exact HB.out)) hb); clear hb ho48; obtain ⟨Ao49, co49, eo49⟩ := Kd.R_slice HO169.out; subst eo49) | ((with_reducible refine gate_callee (f := 11) rfl ?_); refine goesL_ (some 14) rfl rfl Try.func11 (by kernel_rfl) rfl #[.agg #[.slice none 0 0, .slice Ao44 y163.length co44, .int .i64 0, .bool false], .slice Ao49 y167.length co49] rfl (by (try simp only [List.map_toArray, List.map_cons, List.map_nil]); first | done | rfl | (simp only [List.length_drop, List.length_take]; done) | (simp only [List.length_drop, List.length_take]; rfl)) ?_; (refine (weigh_Elements.calls _ _ ([] : List (S42)) _ _ y163 0 false _ _ y167 t170 t173 _ ?side1 ?side2 ?side3 ?side4 ?side5 ?side6 A1.out).mono ?_); (case side1 => exact Kd.C_nil _ _); (case side2 => exact Nat.le_refl _); (case side3 => repeat (first | exact (Kd.N_reads' HO165.out).2.2 | (with_reducible refine Kd.C_alloc ?_ _) | (with_reducible refine Kd.C_drewN ?_ _) | (with_reducible refine Kd.C_drew ?_))); (case side4 => exact (Kd.N_reads' HO165.out).2.1); (case side5 => repeat (first | exact (Kd.R_reads' HO169.out).2.2 | (with_reducible refine Kd.C_alloc ?_ _) | (with_reducible refine Kd.C_drewN ?_ _) | (with_reducible refine Kd.C_drew ?_))); (case side6 => exact (Kd.R_reads' HO169.out).2.1); rintro e w50 ⟨v171, rfl, ho0, hb⟩; refine ⟨_, rfl, ?_⟩; have HO172 := Aside0.mk (Kd.R_lower ho0 (below_size (by repeat (first | (with_reducible first | exact HB.out | apply below_alloc | apply pw_below_drewN | apply below_drew1 | refine below_set ?_ GE166.out) | exact HB.out)))); replace HO165 := Aside0.mk (Kd.N_elder' (by (with_reducible repeat (first | apply Kd.N_alloc | apply Kd.N_drewN | apply Kd.N_drew)); exact HO165.out) (Kd.R_base ho0) hb); replace HO169 := Aside0.mk (Kd.R_below (pR HO169.out) hb); replace BK166 := Aside0.mk (blk_below (pb BK166.out) hb); replace HB := Aside0.mk (below_step (by repeat (first | (with_reducible first | exact HB.out | apply below_alloc | apply pw_below_drewN | apply below_drew1 | refine below_set ?_ GE166.out) | exact HB.out)) hb); (try clear hb); (try clear hb2); (try clear hk); (try clear hi); (try clear ho0)) | ((with_reducible refine gate_callee (f := 18) rfl ?_); refine goesL_ (some 17) rfl rfl Try.func18 (by kernel_rfl) rfl #[.int .i32 98] rfl (by (try simp only [List.map_toArray, List.map_cons, List.map_nil]); first | done | rfl | (simp only [List.length_drop, List.length_take]; done) | (simp only [List.length_drop, List.length_take]; rfl)) ?_; (with_reducible refine (weigh_Implied.calls 98 t174 t175 t176 t177 t178 t179 _ A2.out).mono ?_); rintro e w51 ⟨rfl, hb⟩; refine ⟨_, rfl, ?_⟩; replace HO165 := Aside0.mk (Kd.N_below (by (with_reducible repeat (first | apply Kd.N_alloc | apply Kd.N_drewN | apply Kd.N_drew)); exact HO165.out) hb); replace HO169 := Aside0.mk (Kd.R_below (pR HO169.out) hb); replace HO172 := Aside0.mk (Kd.R_below (pR HO172.out) hb); replace BK166 := Aside0.mk (blk_below (pb BK166.out) hb); replace HB := Aside0.mk (below_step (by repeat (first | (with_reducible first | exact HB.out | apply below_alloc | apply pw_below_drewN | apply below_drew1 | refine below_set ?_ GE166.out) | exact HB.out)) hb); (try clear hb); (try clear hb2); (try clear hk); (try clear hi)) | ((with_reducible refine gate_dst (N := 4) rfl ?_); (try (refine gate_guard (by rfl) ?_; dsimp only)); refine box_event ?hg (N := 4) ?hd (cs := #[.int .i64 0, .int .i64 0, .int .i64 0, .int .i64 0, .int .i64 0, .int .i64 0]) (t := 46) ?hr ?_; (case hd => rfl); (case hg => rfl); (case hr => first | (go_simp; done) | (go_simp; rfl)); intro gb180 hg w52 hbox hb; have BK180 := Aside0.mk (hbox); have GW180 := Aside0.mk ((by rw [hg]; exact (below_size (by repeat (first | (with_reducible first | exact HB.out | apply below_alloc | apply pw_below_drewN | apply below_drew1 | refine below_set ?_ GE166.out) | exact HB.out))) : w.heap.size ≤ gb180)); have GE180 := Aside0.mk ((by rw [hg]; exact (below_size (by repeat (first | (with_reducible first | exact HB.out | apply below_alloc | apply pw_below_drewN | apply below_drew1 | refine below_set ?_ GE166.out) | exact HB.out))) : w.heap.size ≤ gb180)); have NB166_180 := neL hg BK166.out; have NB180_166 := neG hg BK166.out; replace HO165 := Aside0.mk (Kd.N_below (Kd.N_elderB (by (with_reducible repeat (first | apply Kd.N_alloc | apply Kd.N_drewN | apply Kd.N_drew)); exact HO165.out) gb180 (Nat.le_of_eq hg.symm)) hb); replace HO169 := Aside0.mk (Kd.R_below (pR HO169.out) hb); replace HO172 := Aside0.mk (Kd.R_below (pR HO172.out) hb); replace BK166 := Aside0.mk (blk_below (pb BK166.out) hb); replace HB := Aside0.mk (below_step (by repeat (first | (with_reducible first | exact HB.out | apply below_alloc | apply pw_below_drewN | apply below_drew1 | refine below_set ?_ GE166.out) | exact HB.out)) hb); clear hb hbox hg; have hnb53 := NB180_166.out; have hnc53 := NB166_180.out; have hcz54_0 : w52.cell? ⟨gb180, 0, none⟩ = some (.int .i64 0) := blk_cell BK180.out 0; have hcz54_1 : w52.cell? ⟨gb180, 1, none⟩ = some (.int .i64 0) := blk_cell BK180.out 1; have hcz54_2 : w52.cell? ⟨gb180, 2, none⟩ = some (.int .i64 0) := blk_cell BK180.out 2; have hcz54_3 : w52.cell? ⟨gb180, 3, none⟩ = some (.int .i64 0) := blk_cell BK180.out 3; have hcz54_4 : w52.cell? ⟨gb180, 4, none⟩ = some (.int .i64 0) := blk_cell BK180.out 4; have hcz54_5 : w52.cell? ⟨gb180, 5, none⟩ = some (.int .i64 0) := blk_cell BK180.out 5; have hfz54_0 := blk_frozen BK180.out 0; have hfz54_1 := blk_frozen BK180.out 1; have hfz54_2 := blk_frozen BK180.out 2; have hfz54_3 := blk_frozen BK180.out 3; have hfz54_4 := blk_frozen BK180.out 4; have hfz54_5 := blk_frozen BK180.out 5))
   have n0_ : Aside0 (Kd.N k44 44 ((((((w52.setCell ⟨gb180, 0, none⟩ (.int .i64 t174)).setCell ⟨gb180, 1, none⟩ (.int .i64 t175)).setCell ⟨gb180, 2, none⟩ (.int .i64 t176)).setCell ⟨gb180, 3, none⟩ (.int .i64 t177)).setCell ⟨gb180, 4, none⟩ (.int .i64 t178)).setCell ⟨gb180, 5, none⟩ (.int .i64 t179)) w.heap.size (fun k_ => some k_ ≠ (.slice Ao49 y167.length co49 : Value).ownBlock ∧ some k_ ≠ (v171 : Value).ownBlock ∧ k_ ≠ gb166 ∧ k_ ≠ gb180) (.slice Ao44 y163.length co44) y163) := ⟨by (with_reducible repeat (first | apply Kd.N_alloc | apply Kd.N_drewN | apply Kd.N_drew)); exact Kd.N_mono (Kd.N_far (p := ⟨gb180, 5, none⟩) (Kd.N_far (p := ⟨gb180, 4, none⟩) (Kd.N_far (p := ⟨gb180, 3, none⟩) (Kd.N_far (p := ⟨gb180, 2, none⟩) (Kd.N_far (p := ⟨gb180, 1, none⟩) (Kd.N_far (p := ⟨gb180, 0, none⟩) (Kd.N_mono HO165.out (fun k_ hk => (⟨hk, hk.2⟩ : _ ∧ k_ ≠ gb180))) (fun _ hk => hk.2) (.int .i64 t174)) (fun _ hk => hk.2) (.int .i64 t175)) (fun _ hk => hk.2) (.int .i64 t176)) (fun _ hk => hk.2) (.int .i64 t177)) (fun _ hk => hk.2) (.int .i64 t178)) (fun _ hk => hk.2) (.int .i64 t179)) (fun _ hk => by first | exact ⟨hk.1.1.1.2, ⟨hk.1.1.2, ⟨hk.1.1.1.1.2, hk.1.2⟩⟩⟩ | omega)⟩
   have n1_ : Aside0 (Kd.R (Kd.int .i32) 21 ((((((w52.setCell ⟨gb180, 0, none⟩ (.int .i64 t174)).setCell ⟨gb180, 1, none⟩ (.int .i64 t175)).setCell ⟨gb180, 2, none⟩ (.int .i64 t176)).setCell ⟨gb180, 3, none⟩ (.int .i64 t177)).setCell ⟨gb180, 4, none⟩ (.int .i64 t178)).setCell ⟨gb180, 5, none⟩ (.int .i64 t179)) w.heap.size (fun _ => True) (.slice Ao49 y167.length co49) y167) := ⟨by (with_reducible repeat (first | apply Kd.R_alloc | apply Kd.R_drewN | apply Kd.R_drew)); exact Kd.R_mono (Kd.R_far (p := ⟨gb180, 5, none⟩) (Kd.R_far (p := ⟨gb180, 4, none⟩) (Kd.R_far (p := ⟨gb180, 3, none⟩) (Kd.R_far (p := ⟨gb180, 2, none⟩) (Kd.R_far (p := ⟨gb180, 1, none⟩) (Kd.R_far (p := ⟨gb180, 0, none⟩) (Kd.R_types HO169.out BK180.out (by decide)) (fun _ hk => hk.2) (.int .i64 t174)) (fun _ hk => hk.2) (.int .i64 t175)) (fun _ hk => hk.2) (.int .i64 t176)) (fun _ hk => hk.2) (.int .i64 t177)) (fun _ hk => hk.2) (.int .i64 t178)) (fun _ hk => hk.2) (.int .i64 t179)) (fun _ hk => trivial)⟩
   have n2_ : Aside0 (Kd.R k39 39 ((((((w52.setCell ⟨gb180, 0, none⟩ (.int .i64 t174)).setCell ⟨gb180, 1, none⟩ (.int .i64 t175)).setCell ⟨gb180, 2, none⟩ (.int .i64 t176)).setCell ⟨gb180, 3, none⟩ (.int .i64 t177)).setCell ⟨gb180, 4, none⟩ (.int .i64 t178)).setCell ⟨gb180, 5, none⟩ (.int .i64 t179)) w.heap.size (fun _ => True) v171 t170) := ⟨by (with_reducible repeat (first | apply Kd.R_alloc | apply Kd.R_drewN | apply Kd.R_drew)); exact Kd.R_mono (Kd.R_far (p := ⟨gb180, 5, none⟩) (Kd.R_far (p := ⟨gb180, 4, none⟩) (Kd.R_far (p := ⟨gb180, 3, none⟩) (Kd.R_far (p := ⟨gb180, 2, none⟩) (Kd.R_far (p := ⟨gb180, 1, none⟩) (Kd.R_far (p := ⟨gb180, 0, none⟩) (Kd.R_types HO172.out BK180.out (by decide)) (fun _ hk => hk.2) (.int .i64 t174)) (fun _ hk => hk.2) (.int .i64 t175)) (fun _ hk => hk.2) (.int .i64 t176)) (fun _ hk => hk.2) (.int .i64 t177)) (fun _ hk => hk.2) (.int .i64 t178)) (fun _ hk => hk.2) (.int .i64 t179)) (fun _ hk => trivial)⟩
   have n3_ : Aside0 (((((((w52.setCell ⟨gb180, 0, none⟩ (.int .i64 t174)).setCell ⟨gb180, 1, none⟩ (.int .i64 t175)).setCell ⟨gb180, 2, none⟩ (.int .i64 t176)).setCell ⟨gb180, 3, none⟩ (.int .i64 t177)).setCell ⟨gb180, 4, none⟩ (.int .i64 t178)).setCell ⟨gb180, 5, none⟩ (.int .i64 t179)).heap[gb166]? = some (.cells #[.slice none 0 0, .slice Ao44 y163.length co44, .int .i64 0, .bool false] 25 (0, 0))) := ⟨by (with_reducible repeat (first | refine blk_drewN ?_ _ | refine blk_drew ?_ | refine blk_alloc ?_ _)); refine blk_far ?_ NB166_180.out _; (with_reducible repeat (first | refine blk_drewN ?_ _ | refine blk_drew ?_ | refine blk_alloc ?_ _)); refine blk_far ?_ NB166_180.out _; (with_reducible repeat (first | refine blk_drewN ?_ _ | refine blk_drew ?_ | refine blk_alloc ?_ _)); refine blk_far ?_ NB166_180.out _; (with_reducible repeat (first | refine blk_drewN ?_ _ | refine blk_drew ?_ | refine blk_alloc ?_ _)); refine blk_far ?_ NB166_180.out _; (with_reducible repeat (first | refine blk_drewN ?_ _ | refine blk_drew ?_ | refine blk_alloc ?_ _)); refine blk_far ?_ NB166_180.out _; (with_reducible repeat (first | refine blk_drewN ?_ _ | refine blk_drew ?_ | refine blk_alloc ?_ _)); refine blk_far ?_ NB166_180.out _; (with_reducible repeat (first | refine blk_drewN ?_ _ | refine blk_drew ?_ | refine blk_alloc ?_ _)); exact BK166.out⟩
   have n4_ : Aside0 (((((((w52.setCell ⟨gb180, 0, none⟩ (.int .i64 t174)).setCell ⟨gb180, 1, none⟩ (.int .i64 t175)).setCell ⟨gb180, 2, none⟩ (.int .i64 t176)).setCell ⟨gb180, 3, none⟩ (.int .i64 t177)).setCell ⟨gb180, 4, none⟩ (.int .i64 t178)).setCell ⟨gb180, 5, none⟩ (.int .i64 t179)).heap[gb180]? = some (.cells #[.int .i64 t174, .int .i64 t175, .int .i64 t176, .int .i64 t177, .int .i64 t178, .int .i64 t179] 46 (0, 0))) := ⟨by (with_reducible repeat (first | refine blk_drewN ?_ _ | refine blk_drew ?_ | refine blk_alloc ?_ _)); refine blk_put (cs := #[.int .i64 t174, .int .i64 t175, .int .i64 t176, .int .i64 t177, .int .i64 t178, .int .i64 0]) ?_ 5 _ rfl; (with_reducible repeat (first | refine blk_drewN ?_ _ | refine blk_drew ?_ | refine blk_alloc ?_ _)); refine blk_put (cs := #[.int .i64 t174, .int .i64 t175, .int .i64 t176, .int .i64 t177, .int .i64 0, .int .i64 0]) ?_ 4 _ rfl; (with_reducible repeat (first | refine blk_drewN ?_ _ | refine blk_drew ?_ | refine blk_alloc ?_ _)); refine blk_put (cs := #[.int .i64 t174, .int .i64 t175, .int .i64 t176, .int .i64 0, .int .i64 0, .int .i64 0]) ?_ 3 _ rfl; (with_reducible repeat (first | refine blk_drewN ?_ _ | refine blk_drew ?_ | refine blk_alloc ?_ _)); refine blk_put (cs := #[.int .i64 t174, .int .i64 t175, .int .i64 0, .int .i64 0, .int .i64 0, .int .i64 0]) ?_ 2 _ rfl; (with_reducible repeat (first | refine blk_drewN ?_ _ | refine blk_drew ?_ | refine blk_alloc ?_ _)); refine blk_put (cs := #[.int .i64 t174, .int .i64 0, .int .i64 0, .int .i64 0, .int .i64 0, .int .i64 0]) ?_ 1 _ rfl; (with_reducible repeat (first | refine blk_drewN ?_ _ | refine blk_drew ?_ | refine blk_alloc ?_ _)); refine blk_put (cs := #[.int .i64 0, .int .i64 0, .int .i64 0, .int .i64 0, .int .i64 0, .int .i64 0]) ?_ 0 _ rfl; (with_reducible repeat (first | refine blk_drewN ?_ _ | refine blk_drew ?_ | refine blk_alloc ?_ _)); exact BK180.out⟩
   have n5_ : Aside0 (Below w.heap.size w ((((((w52.setCell ⟨gb180, 0, none⟩ (.int .i64 t174)).setCell ⟨gb180, 1, none⟩ (.int .i64 t175)).setCell ⟨gb180, 2, none⟩ (.int .i64 t176)).setCell ⟨gb180, 3, none⟩ (.int .i64 t177)).setCell ⟨gb180, 4, none⟩ (.int .i64 t178)).setCell ⟨gb180, 5, none⟩ (.int .i64 t179))) := ⟨by repeat (first | (with_reducible first | exact HB.out | apply below_alloc | apply pw_below_drewN | apply below_drew1 | refine below_set ?_ GE166.out | refine below_set ?_ GE180.out) | exact HB.out)⟩
   (try clear HO165)
   (try clear HO169)
   (try clear HO172)
   (try clear BK166)
   (try clear BK180)
   (try clear HB)
   generalize ((((((w52.setCell ⟨gb180, 0, none⟩ (.int .i64 t174)).setCell ⟨gb180, 1, none⟩ (.int .i64 t175)).setCell ⟨gb180, 2, none⟩ (.int .i64 t176)).setCell ⟨gb180, 3, none⟩ (.int .i64 t177)).setCell ⟨gb180, 4, none⟩ (.int .i64 t178)).setCell ⟨gb180, 5, none⟩ (.int .i64 t179)) = w55 at n0_ n1_ n2_ n3_ n4_ n5_ ⊢
   have HO165 := n0_
   have HO169 := n1_
   have HO172 := n2_
   have BK166 := n3_
   have BK180 := n4_
   have HB := n5_
   clear n0_ n1_ n2_ n3_ n4_ n5_
   replace HO165 := Aside0.mk (Kd.N_drew HO165.out)
   replace HO169 := Aside0.mk (Kd.R_drew HO169.out)
   replace HO172 := Aside0.mk (Kd.R_drew HO172.out)
   replace BK166 := Aside0.mk (blk_drew BK166.out)
   replace BK180 := Aside0.mk (blk_drew BK180.out)
   replace HB := Aside0.mk (below_drew1 HB.out)
   refine start_ (n := 22) (S := fun w' => w'.cell? ⟨gb166, 0, none⟩ = some (.slice none 0 0) ∧ w'.cell? ⟨gb166, 1, none⟩ = some (.slice Ao44 y163.length co44) ∧ w'.cell? ⟨gb166, 2, none⟩ = some (.int .i64 0) ∧ w'.cell? ⟨gb166, 3, none⟩ = some (.bool false) ∧ w'.cell? ⟨gb180, 0, none⟩ = some (.int .i64 t174) ∧ w'.cell? ⟨gb180, 1, none⟩ = some (.int .i64 t175) ∧ w'.cell? ⟨gb180, 2, none⟩ = some (.int .i64 t176) ∧ w'.cell? ⟨gb180, 3, none⟩ = some (.int .i64 t177) ∧ w'.cell? ⟨gb180, 4, none⟩ = some (.int .i64 t178) ∧ w'.cell? ⟨gb180, 5, none⟩ = some (.int .i64 t179)) (ds := []) (fl 0 22) (by kernel_rfl) rfl rfl ⟨blk_cell BK166.out 0, blk_cell BK166.out 1, blk_cell BK166.out 2, blk_cell BK166.out 3, blk_cell BK180.out 0, blk_cell BK180.out 1, blk_cell BK180.out 2, blk_cell BK180.out 3, blk_cell BK180.out 4, blk_cell BK180.out 5⟩ (fun hHeld => ?_); refine with_tabW gazetteerlaw3_awake.tab4 gazetteerlaw3_awake.bits4 (fun HT_ HW_ => ?_)
   generalize w55.drew = w56 at HO165 HO169 HO172 BK166 BK180 HB hHeld ⊢
   refine pure_ (i := 0) (N := some 18) (v := ?_) (a' := ?_) (fl 1 21) rfl rfl (any_of HT_.out (by kernel_rfl)) (fun _ _ _ h => h) (Or.inl ⟨by rfl, ?_⟩) ?_ ?_
   rotate_left
   · intro w'
     go_simp
     with_reducible rfl
   rotate_left
   · simp only [Act.put, List.setIfInBounds_toArray, List.set_cons_zero, List.set_cons_succ, i64_w, i32_w]; rfl
   refine pure_ (i := 1) (N := some 19) (v := ?_) (a' := ?_) (fl 2 20) rfl rfl (any_of HT_.out (by kernel_rfl)) (fun _ _ _ h => h) (Or.inl ⟨by rfl, ?_⟩) ?_ ?_
   rotate_left
   · intro w'
     go_simp
     with_reducible rfl
   rotate_left
   · simp only [Act.put, List.setIfInBounds_toArray, List.set_cons_zero, List.set_cons_succ, i64_w, i32_w]; rfl
   refine pure_ (i := 2) (N := some 20) (v := ?_) (a' := ?_) (fl 3 19) rfl rfl (any_of HT_.out (by kernel_rfl)) (fun _ _ _ h => h) (Or.inl ⟨by rfl, ?_⟩) ?_ ?_
   rotate_left
   · intro w'
     go_simp
     with_reducible rfl
   rotate_left
   · simp only [Act.put, List.setIfInBounds_toArray, List.set_cons_zero, List.set_cons_succ, i64_w, i32_w]; rfl
   refine take_ (i := 3) (N := some 21) (v := ?_) (a' := ?_) (fl 4 18) rfl rfl (take_ofW HT_.out HW_.out (by kernel_rfl)) (fun _ _ _ h => h) (Or.inl ⟨by rfl, ?_⟩) hHeld ?_ ?_
   rotate_left
   · rintro w' ⟨s0, s1, s2, s3, s4, s5, s6, s7, s8, s9⟩; go_simp; with_reducible rfl
   rotate_left
   · simp only [Act.put, List.setIfInBounds_toArray, List.set_cons_zero, List.set_cons_succ, i64_w, i32_w]; rfl
   refine one_ (i := 4) (N := some 22) (fl 5 17) rfl rfl (one_of HT_.out (by kernel_rfl)) (by decide) (fun K hK => ?_)
   refine goes_ Try.func14 (by kernel_rfl) rfl #[.agg #[.slice none 0 0, .slice Ao44 y163.length co44, .int .i64 0, .bool false]] (by rfl) rfl rfl (by (try simp only [List.map_toArray, List.map_cons, List.map_nil]); first | done | rfl | (simp only [List.length_drop, List.length_take]; done) | (simp only [List.length_drop, List.length_take]; rfl)) ?_
   refine (weigh_May.calls _ _ ([] : List (S42)) _ _ y163 0 false true _ ?side1 ?side2 ?side3 ?side4 A4.out).mono ?_
   (case side1 => exact Kd.C_nil _ _)
   (case side2 => exact Nat.le_refl _)
   (case side3 => repeat (first | exact (Kd.N_reads' HO165.out).2.2 | (with_reducible refine Kd.C_alloc ?_ _) | (with_reducible refine Kd.C_drewN ?_ _) | (with_reducible refine Kd.C_drew ?_)))
   (case side4 => exact (Kd.N_reads' HO165.out).2.1)
   rintro e w57 ⟨rfl, hb⟩
   refine ⟨_, rfl, ?_⟩
   replace HO165 := Aside0.mk (Kd.N_below (by (with_reducible repeat (first | apply Kd.N_alloc | apply Kd.N_drewN | apply Kd.N_drew)); exact HO165.out) hb)
   replace HO169 := Aside0.mk (Kd.R_below (pR HO169.out) hb)
   replace HO172 := Aside0.mk (Kd.R_below (pR HO172.out) hb)
   replace BK166 := Aside0.mk (blk_below (pb BK166.out) hb)
   replace BK180 := Aside0.mk (blk_below (pb BK180.out) hb)
   replace HB := Aside0.mk (below_step (pB HB.out) hb)
   (try clear hb)
   (try clear hb2)
   (try clear hk)
   (try clear hi)
   refine hK.out _ _ ⟨blk_cell BK166.out 0, blk_cell BK166.out 1, blk_cell BK166.out 2, blk_cell BK166.out 3, blk_cell BK180.out 0, blk_cell BK180.out 1, blk_cell BK180.out 2, blk_cell BK180.out 3, blk_cell BK180.out 4, blk_cell BK180.out 5⟩ (fun hHeld => ?_)
   clear hK K
   refine norm_ (a' := ?_) ?_ ?_
   rotate_left
   · show Act.put _ (some 22) _ = _; simp only [Act.put, List.setIfInBounds_toArray, List.set_cons_zero, List.set_cons_succ, i64_w, i32_w]; rfl
   refine pure_ (i := 5) (N := some 23) (v := ?_) (a' := ?_) (fl 6 16) rfl rfl (any_of HT_.out (by kernel_rfl)) (fun _ _ _ h => h) (Or.inl ⟨by rfl, ?_⟩) ?_ ?_
   rotate_left
   · intro w'
     go_simp
     with_reducible rfl
   rotate_left
   · simp only [Act.put, List.setIfInBounds_toArray, List.set_cons_zero, List.set_cons_succ, i64_w, i32_w]; rfl
   refine pure_ (i := 6) (N := some 24) (v := ?_) (a' := ?_) (fl 7 15) rfl rfl (any_of HT_.out (by kernel_rfl)) (fun _ _ _ h => h) (Or.inl ⟨by rfl, ?_⟩) ?_ ?_
   rotate_left
   · intro w'
     go_simp
     with_reducible rfl
   rotate_left
   · simp only [Act.put, List.setIfInBounds_toArray, List.set_cons_zero, List.set_cons_succ, i64_w, i32_w]; rfl
   refine pure_ (i := 7) (N := some 25) (v := ?_) (a' := ?_) (fl 8 14) rfl rfl (any_of HT_.out (by kernel_rfl)) (fun _ _ _ h => h) (Or.inl ⟨by rfl, ?_⟩) ?_ ?_
   rotate_left
   · intro w'
     go_simp
     with_reducible rfl
   rotate_left
   · simp only [Act.put, List.setIfInBounds_toArray, List.set_cons_zero, List.set_cons_succ, i64_w, i32_w]; rfl
   refine pure_ (i := 8) (N := some 26) (v := ?_) (a' := ?_) (fl 9 13) rfl rfl (any_of HT_.out (by kernel_rfl)) (fun _ _ _ h => h) (Or.inl ⟨by rfl, ?_⟩) ?_ ?_
   rotate_left
   · intro w'
     go_simp
     with_reducible rfl
   rotate_left
   · simp only [Act.put, List.setIfInBounds_toArray, List.set_cons_zero, List.set_cons_succ, i64_w, i32_w]; rfl
   refine pure_ (i := 9) (N := some 27) (v := ?_) (a' := ?_) (fl 10 12) rfl rfl (any_of HT_.out (by kernel_rfl)) (fun _ _ _ h => h) (Or.inl ⟨by rfl, ?_⟩) ?_ ?_
   rotate_left
   · intro w'
     go_simp
     with_reducible rfl
   rotate_left
   · simp only [Act.put, List.setIfInBounds_toArray, List.set_cons_zero, List.set_cons_succ, i64_w, i32_w]; rfl
   refine pure_ (i := 11) (N := some 29) (v := ?_) (a' := ?_) #[true, true, true, true, true, true, true, true, true, true, false, true, false, false, false, false, false, false, false, false, false, false] rfl rfl (any_of HT_.out (by kernel_rfl)) (fun _ _ _ h => h) (Or.inl ⟨by rfl, ?_⟩) ?_ ?_
   rotate_left
   · intro w'
     go_simp
     with_reducible rfl
   rotate_left
   · simp only [Act.put, List.setIfInBounds_toArray, List.set_cons_zero, List.set_cons_succ, i64_w, i32_w]; rfl
   refine take_ (i := 10) (N := some 28) (v := ?_) (a' := ?_) (fl 12 10) rfl rfl (take_ofW HT_.out HW_.out (by kernel_rfl)) (fun _ _ _ h => h) (Or.inl ⟨by rfl, ?_⟩) hHeld ?_ ?_
   rotate_left
   · rintro w' ⟨s0, s1, s2, s3, s4, s5, s6, s7, s8, s9⟩; go_simp; with_reducible rfl
   rotate_left
   · simp only [Act.put, List.setIfInBounds_toArray, List.set_cons_zero, List.set_cons_succ, i64_w, i32_w]; rfl
   refine take_ (i := 12) (N := some 30) (v := ?_) (a' := ?_) (fl 13 9) rfl rfl (take_ofW HT_.out HW_.out (by kernel_rfl)) (fun _ _ _ h => h) (Or.inl ⟨by rfl, ?_⟩) hHeld ?_ ?_
   rotate_left
   · rintro w' ⟨s0, s1, s2, s3, s4, s5, s6, s7, s8, s9⟩; go_simp; with_reducible rfl
   rotate_left
   · simp only [Act.put, List.setIfInBounds_toArray, List.set_cons_zero, List.set_cons_succ, i64_w, i32_w]; rfl
   refine one_ (i := 13) (N := some 31) (fl 14 8) rfl rfl (one_of HT_.out (by kernel_rfl)) (by decide) (fun K hK => ?_)
   refine Kd.R_lit_step k39 _ 39 ?hg (N := 31) ?hd (xs := ([(⟨1, 1, 1⟩ : S39), (⟨t174, t175, t176⟩ : S39), (⟨t177, t178, t179⟩ : S39)] : List (S39))) (inner := [.int .i64 1, .int .i64 1, .int .i64 1, .int .i64 t174, .int .i64 t175, .int .i64 t176, .int .i64 t177, .int .i64 t178, .int .i64 t179]) (ok := fun _ => True) (okp := fun _ => True) ?hr ?hp (fun _ hk => hk) trivial (Below.refl _ _) (Nat.le_refl _) (by simp) ?_; (case hd => rfl); (case hg => rfl); (case hr => first | (go_simp; done) | (go_simp; rfl)); (case hp => exact (Reps.c3 (show Kd.M k39 _ _ _ (⟨1, 1, 1⟩ : S39) [.int .i64 1, .int .i64 1, .int .i64 1] from (k39_mkM _ _ _ (⟨1, 1, 1⟩ : S39) )) (Reps.c3 (show Kd.M k39 _ _ _ (⟨t174, t175, t176⟩ : S39) [.int .i64 t174, .int .i64 t175, .int .i64 t176] from (k39_mkM _ _ _ (⟨t174, t175, t176⟩ : S39) )) (Reps.c3 (show Kd.M k39 _ _ _ (⟨t177, t178, t179⟩ : S39) [.int .i64 t177, .int .i64 t178, .int .i64 t179] from (k39_mkM _ _ _ (⟨t177, t178, t179⟩ : S39) )) (Reps.none _ _)))))
   intro v183 w58 ho59 hb hg_ hnew_
   clear hg_ hnew_
   (first | rw [← Ny182.out] at ho59 | (simp only [Int.reduceToNat] at ho59; rw [← Ny182.out] at ho59))
   have HO184 := Aside0.mk (Kd.R_lower (Kd.R_new' ho59 (Kd.R_lt (pR HO172.out))) (below_size (pB HB.out)))
   replace HO165 := Aside0.mk (Kd.N_elder' (by (with_reducible repeat (first | apply Kd.N_alloc | apply Kd.N_drewN | apply Kd.N_drew)); exact HO165.out) (Kd.R_base ho59) hb)
   replace HO169 := Aside0.mk (Kd.R_below (pR HO169.out) hb)
   replace HO172 := Aside0.mk (Kd.R_elder' (pR HO172.out) (Kd.R_base ho59) hb)
   replace BK166 := Aside0.mk (blk_below (pb BK166.out) hb)
   replace BK180 := Aside0.mk (blk_below (pb BK180.out) hb)
   replace HB := Aside0.mk (below_step (pB HB.out) hb)
   clear hb ho59
   obtain ⟨Ao60, co60, eo60⟩ := Kd.R_slice HO172.out
   (first | subst eo60 | (injection eo60 with f1_ f2_ f3_; have f4_ := f1_.symm; have f5_ := f3_.symm; clear f1_ f2_ f3_; subst f4_; subst f5_))
   obtain ⟨Ao61, co61, eo61⟩ := Kd.R_slice HO184.out
   (first | subst eo61 | (injection eo61 with f1_ f2_ f3_; have f4_ := f1_.symm; have f5_ := f3_.symm; clear f1_ f2_ f3_; subst f4_; subst f5_))
   refine hK.out _ _ ⟨blk_cell BK166.out 0, blk_cell BK166.out 1, blk_cell BK166.out 2, blk_cell BK166.out 3, blk_cell BK180.out 0, blk_cell BK180.out 1, blk_cell BK180.out 2, blk_cell BK180.out 3, blk_cell BK180.out 4, blk_cell BK180.out 5⟩ (fun hHeld => ?_)
   clear hK K
   refine norm_ (a' := ?_) ?_ ?_
   rotate_left
   · show Act.put _ (some 31) _ = _; simp only [Act.put, List.setIfInBounds_toArray, List.set_cons_zero, List.set_cons_succ, i64_w, i32_w]; rfl
   refine one_ (i := 14) (N := some 32) (fl 15 7) rfl rfl (one_of HT_.out (by kernel_rfl)) (by decide) (fun K hK => ?_)
   refine goes_ Try.func13 (by kernel_rfl) rfl #[.slice Ao60 t170.length co60, .slice Ao61 y182.length co61] (by rfl) rfl rfl (by (try simp only [List.map_toArray, List.map_cons, List.map_nil]); first | done | rfl | (simp only [List.length_drop, List.length_take]; done) | (simp only [List.length_drop, List.length_take]; rfl)) ?_
   with_reducible refine (gazetteerlaw3_Same.calls k _ _ t170 _ _ y182 false _ ?side1 ?side2 ?side3 ?side4 A6.out).mono ?_
   (case side1 => repeat (first | exact (Kd.R_reads' HO172.out).2.2 | (with_reducible refine Kd.C_alloc ?_ _) | (with_reducible refine Kd.C_drewN ?_ _) | (with_reducible refine Kd.C_drew ?_)))
   (case side2 => exact (Kd.R_reads' HO172.out).2.1)
   (case side3 => repeat (first | exact (Kd.R_reads' HO184.out).2.2 | (with_reducible refine Kd.C_alloc ?_ _) | (with_reducible refine Kd.C_drewN ?_ _) | (with_reducible refine Kd.C_drew ?_)))
   (case side4 => exact (Kd.R_reads' HO184.out).2.1)
   rintro e w' ⟨rfl, ⟨nd, rfl⟩⟩
   refine ⟨_, rfl, ?_⟩
   refine hK.out _ _ ⟨blk_cell BK166.out 0, blk_cell BK166.out 1, blk_cell BK166.out 2, blk_cell BK166.out 3, blk_cell BK180.out 0, blk_cell BK180.out 1, blk_cell BK180.out 2, blk_cell BK180.out 3, blk_cell BK180.out 4, blk_cell BK180.out 5⟩ (fun hHeld => ?_)
   clear hK K
   refine norm_ (a' := ?_) ?_ ?_
   rotate_left
   · show Act.put _ (some 32) _ = _; simp only [Act.put, List.setIfInBounds_toArray, List.set_cons_zero, List.set_cons_succ, i64_w, i32_w]; rfl
   refine pure_ (i := 15) (N := some 33) (v := ?_) (a' := ?_) (fl 16 6) rfl rfl (any_of HT_.out (by kernel_rfl)) (fun _ _ _ h => h) (Or.inl ⟨by rfl, ?_⟩) ?_ ?_
   rotate_left
   · intro w'
     go_simp
     with_reducible rfl
   rotate_left
   · simp only [Act.put, List.setIfInBounds_toArray, List.set_cons_zero, List.set_cons_succ, i64_w, i32_w]; rfl
   refine pure_ (i := 16) (N := some 34) (v := ?_) (a' := ?_) (fl 17 5) rfl rfl (any_of HT_.out (by kernel_rfl)) (fun _ _ _ h => h) (Or.inl ⟨by rfl, ?_⟩) ?_ ?_
   rotate_left
   · intro w'
     go_simp
     with_reducible rfl
   rotate_left
   · simp only [Act.put, List.setIfInBounds_toArray, List.set_cons_zero, List.set_cons_succ, i64_w, i32_w]; rfl
   refine pure_ (i := 17) (N := some 35) (v := undef) (a' := ?_) (fl 18 4) rfl rfl (any_of HT_.out (by kernel_rfl)) (fun _ _ _ h => h) (Or.inr ⟨by rfl, rfl⟩) ?_ ?_
   rotate_left
   · simp only [Act.put, List.setIfInBounds_toArray, List.set_cons_zero, List.set_cons_succ, i64_w, i32_w]; rfl
   refine pure_ (i := 18) (N := some 36) (v := undef) (a' := ?_) (fl 19 3) rfl rfl (any_of HT_.out (by kernel_rfl)) (fun _ _ _ h => h) (Or.inr ⟨by rfl, rfl⟩) ?_ ?_
   rotate_left
   · simp only [Act.put, List.setIfInBounds_toArray, List.set_cons_zero, List.set_cons_succ, i64_w, i32_w]; rfl
   refine pure_ (i := 19) (N := some 37) (v := undef) (a' := ?_) (fl 20 2) rfl rfl (any_of HT_.out (by kernel_rfl)) (fun _ _ _ h => h) (Or.inr ⟨by rfl, rfl⟩) ?_ ?_
   rotate_left
   · simp only [Act.put, List.setIfInBounds_toArray, List.set_cons_zero, List.set_cons_succ, i64_w, i32_w]; rfl
   refine pure_ (i := 20) (N := some 38) (v := ?_) (a' := ?_) (fl 21 1) rfl rfl (any_of HT_.out (by kernel_rfl)) (fun _ _ _ h => h) (Or.inl ⟨by rfl, ?_⟩) ?_ ?_
   rotate_left
   · intro w'
     go_simp
     with_reducible rfl
   rotate_left
   · simp only [Act.put, List.setIfInBounds_toArray, List.set_cons_zero, List.set_cons_succ, i64_w, i32_w]; rfl
   refine pure_ (i := 21) (N := some 0) (v := ?_) (a' := ?_) (fl 22 0) rfl rfl (any_of HT_.out (by kernel_rfl)) (fun _ _ _ h => h) (Or.inl ⟨by rfl, ?_⟩) ?_ ?_
   rotate_left
   · intro w'
     go_simp
     with_reducible rfl
   rotate_left
   · simp only [Act.put, List.setIfInBounds_toArray, List.set_cons_zero, List.set_cons_succ, i64_w, i32_w]; rfl
   refine done_ (done_of HT_.out (by kernel_rfl)) ?_
   try go_wp2
   go_ret
   exact ⟨by first | rfl | (simp [errW_none, errW_some] <;> rfl) | (simp [*, errW_none, errW_some] <;> rfl), by repeat (first | (with_reducible first | exact HB.out | apply below_alloc | apply pw_below_drewN | apply below_drew1 | refine below_set ?_ GE166.out | refine below_set ?_ GE180.out) | exact HB.out)⟩
  subst c7
  have H1 : ((gazetteerref1_Implied.f 98).bind fun bt186 => (some ((t174 == bt186.1 && (t175 == bt186.2.1 && (t176 == bt186.2.2.1))) && ((t177 == bt186.2.2.2.1 && (t178 == bt186.2.2.2.2.1 && (t179 == bt186.2.2.2.2.2))))))) = some r := by rw [if_pos rfl] at H; exact H
  clear H
  have H := H1
  clear H1
  replace H := Option.bind_eq_some_iff.mp H
  obtain ⟨⟨t186, t187, t188, t189, t190, t191⟩, A80, H⟩ := H
  replace H : (some ((t174 == t186 && (t175 == t187 && (t176 == t188))) && ((t177 == t189 && (t178 == t190 && (t179 == t191)))))) = some r := H
  have A8 := Aside0.mk A80
  clear A80
  obtain rfl := Option.some.inj H
  go_enter Try.func9, Try.ntmps9
  try go_wp2_with (first | ((with_reducible refine gate_dst (N := 5) rfl ?_); (try (refine gate_guard (by rfl) ?_; dsimp only)); refine Kd.R_lit (Kd.int .i32) _ 21 ?hg (N := 5) ?hd (xs := ([97] : List Int)) (inner := [.int .i32 97]) (ok := fun _ => True) (okp := fun _ => True) ?hr ?hp (fun _ hk => hk) trivial (Below.refl _ _) (Nat.le_refl _) (by simp) ?_; (case hd => rfl); (case hg => rfl); (case hr => first | (go_simp; done) | (go_simp; rfl)); (case hp => exact (Reps.one (show Kd.M (Kd.int .i32) _ _ _ 97 [.int .i32 97] from rfl) (Reps.none _ _))); intro v158 w9 ho10 hb hg_ hnew_; clear hg_ hnew_; (first | rw [← Ny157.out] at ho10 | (simp only [Int.reduceToNat] at ho10; rw [← Ny157.out] at ho10)); have HO159 := Aside0.mk (Kd.R_lower ho10 (below_size (by repeat (first | (with_reducible first | exact HB.out | apply below_alloc | apply pw_below_drewN | apply below_drew1) | exact HB.out)))); replace HB := Aside0.mk (below_step (by repeat (first | (with_reducible first | exact HB.out | apply below_alloc | apply pw_below_drewN | apply below_drew1) | exact HB.out)) hb); clear hb ho10) | ((with_reducible refine gate_dst (N := 7) rfl ?_); (try (refine gate_guard (by rfl) ?_; dsimp only)); refine Kd.R_lit k39 _ 39 ?hg (N := 7) ?hd (xs := ([(⟨1, 1, 1⟩ : S39)] : List (S39))) (inner := [.int .i64 1, .int .i64 1, .int .i64 1]) (ok := fun _ => True) (okp := fun _ => True) ?hr ?hp (fun _ hk => hk) trivial (Below.refl _ _) (Nat.le_refl _) (by simp) ?_; (case hd => rfl); (case hg => rfl); (case hr => first | (go_simp; done) | (go_simp; rfl)); (case hp => exact (Reps.c3 (show Kd.M k39 _ _ _ (⟨1, 1, 1⟩ : S39) [.int .i64 1, .int .i64 1, .int .i64 1] from (k39_mkM _ _ _ (⟨1, 1, 1⟩ : S39) )) (Reps.none _ _))); intro v161 w11 ho12 hb hg_ hnew_; clear hg_ hnew_; (first | rw [← Ny160.out] at ho12 | (simp only [Int.reduceToNat] at ho12; rw [← Ny160.out] at ho12)); have HO162 := Aside0.mk (Kd.R_lower ho12 (below_size (by repeat (first | (with_reducible first | exact HB.out | apply below_alloc | apply pw_below_drewN | apply below_drew1) | exact HB.out)))); replace HO159 := Aside0.mk (Kd.R_below (pR HO159.out) hb); replace HB := Aside0.mk (below_step (by repeat (first | (with_reducible first | exact HB.out | apply below_alloc | apply pw_below_drewN | apply below_drew1) | exact HB.out)) hb); clear hb ho12; obtain ⟨Ao13, co13, eo13⟩ := Kd.R_slice HO162.out; subst eo13; obtain ⟨Ao14, co14, eo14⟩ := Kd.R_slice HO159.out; subst eo14) | ((with_reducible refine gate_dst (N := 9) rfl ?_); (try (refine gate_guard (by rfl) ?_; dsimp only)); refine Kd.N_lit k44 _ 44 ?hg (N' := 9) ?hd (xs := ([(⟨y157, y160⟩ : S44)] : List (S44))) (inner := [.slice Ao14 y157.length co14, .slice Ao13 y160.length co13]) (ok := (fun _ => True)) (okp := (fun _ => True)) ?hr ?hp (fun _ hk => hk) ((show ∀ k_, w11.heap.size ≤ k_ → (fun _ => True) k_ from fun k_ hk => trivial) _ (Nat.le_refl _)) (Below.refl _ _) (Nat.le_refl _) (by simp) ?_; (case hd => rfl); (case hg => rfl); (case hr => first | (go_simp; done) | (go_simp; rfl)); (case hp => exact (Reps.c2 (show Kd.FK k44 _ _ (⟨y157, y160⟩ : S44) [.slice Ao14 y157.length co14, .slice Ao13 y160.length co13] from (k44_mkF _ _ (⟨y157, y160⟩ : S44) (Kd.R_reads' (Kd.R_mono (ok' := (fun _ => True)) (HO159.out) (fun k_ hk => trivial))).2.1 (Kd.R_F (Kd.R_mono (ok' := (fun _ => True)) (HO159.out) (fun k_ hk => trivial))) (Kd.R_reads' (Kd.R_mono (ok' := (fun _ => True)) (HO162.out) (fun k_ hk => trivial))).2.1 (Kd.R_F (Kd.R_mono (ok' := (fun _ => True)) (HO162.out) (fun k_ hk => trivial))))) (Reps.none _ _))); intro v164 w15 ho16 hb hg_ hnew_; clear hg_ hnew_; (first | rw [← Ny163.out] at ho16 | (simp only [Int.reduceToNat] at ho16; rw [← Ny163.out] at ho16)); have HO165 := Aside0.mk (Kd.N_lower ho16 (below_size (by repeat (first | (with_reducible first | exact HB.out | apply below_alloc | apply pw_below_drewN | apply below_drew1) | exact HB.out)))); replace HB := Aside0.mk (below_step (by repeat (first | (with_reducible first | exact HB.out | apply below_alloc | apply pw_below_drewN | apply below_drew1) | exact HB.out)) hb); clear HO159 HO162; clear hb ho16; obtain ⟨Ao17, co17, eo17⟩ := Kd.N_slice HO165.out; subst eo17) | ((with_reducible refine gate_dst (N := 1) rfl ?_); (try (refine gate_guard (by rfl) ?_; dsimp only)); refine box_event ?hg (N := 1) ?hd (cs := #[.slice none 0 0, .slice none 0 0, .int .i64 0, .bool false]) (t := 25) ?hr ?_; (case hd => rfl); (case hg => rfl); (case hr => first | (go_simp; done) | (go_simp; rfl)); intro gb166 hg w18 hbox hb; have BK166 := Aside0.mk (hbox); have GW166 := Aside0.mk ((by rw [hg]; exact (below_size (by repeat (first | (with_reducible first | exact HB.out | apply below_alloc | apply pw_below_drewN | apply below_drew1) | exact HB.out))) : w.heap.size ≤ gb166)); have GE166 := Aside0.mk ((by rw [hg]; exact (below_size (by repeat (first | (with_reducible first | exact HB.out | apply below_alloc | apply pw_below_drewN | apply below_drew1) | exact HB.out))) : w.heap.size ≤ gb166)); replace HO165 := Aside0.mk (Kd.N_below (Kd.N_elderB (by (with_reducible repeat (first | apply Kd.N_alloc | apply Kd.N_drewN | apply Kd.N_drew)); exact HO165.out) gb166 (Nat.le_of_eq hg.symm)) hb); replace HB := Aside0.mk (below_step (by repeat (first | (with_reducible first | exact HB.out | apply below_alloc | apply pw_below_drewN | apply below_drew1) | exact HB.out)) hb); clear hb hbox hg; have hcz19_0 : w18.cell? ⟨gb166, 0, none⟩ = some (.slice none 0 0) := blk_cell BK166.out 0; have hcz19_1 : w18.cell? ⟨gb166, 1, none⟩ = some (.slice none 0 0) := blk_cell BK166.out 1; have hcz19_2 : w18.cell? ⟨gb166, 2, none⟩ = some (.int .i64 0) := blk_cell BK166.out 2; have hcz19_3 : w18.cell? ⟨gb166, 3, none⟩ = some (.bool false) := blk_cell BK166.out 3; have hfz19_0 := blk_frozen BK166.out 0; have hfz19_1 := blk_frozen BK166.out 1; have hfz19_2 := blk_frozen BK166.out 2; have hfz19_3 := blk_frozen BK166.out 3) | ((with_reducible refine gate_dst (N := 13) rfl ?_); (try (refine gate_guard (by rfl) ?_; dsimp only)); refine Kd.R_lit (Kd.int .i32) _ 21 ?hg (N := 13) ?hd (xs := ([97, 98] : List Int)) (inner := [.int .i32 97, .int .i32 98]) (ok := fun _ => True) (okp := fun _ => True) ?hr ?hp (fun _ hk => hk) trivial (Below.refl _ _) (Nat.le_refl _) (by simp) ?_; (case hd => rfl); (case hg => rfl); (case hr => first | (go_simp; done) | (go_simp; rfl)); (case hp => exact (Reps.one (show Kd.M (Kd.int .i32) _ _ _ 97 [.int .i32 97] from rfl) (Reps.one (show Kd.M (Kd.int .i32) _ _ _ 98 [.int .i32 98] from rfl) (Reps.none _ _)))); intro v168 w20 ho21 hb hg_ hnew_; clear hg_ hnew_; (first | rw [← Ny167.out] at ho21 | (simp only [Int.reduceToNat] at ho21; rw [← Ny167.out] at ho21)); have HO169 := Aside0.mk (Kd.R_lower ho21 (below_size (by repeat (first | (with_reducible first | exact HB.out | apply below_alloc | apply pw_below_drewN | apply below_drew1 | refine below_set ?_ GE166.out) | exact HB.out)))); replace HO165 := Aside0.mk (Kd.N_elder' (by (with_reducible repeat (first | apply Kd.N_alloc | apply Kd.N_drewN | apply Kd.N_drew)); exact (Kd.N_mono (Kd.N_far (p := ⟨gb166, 3, none⟩) (Kd.N_far (p := ⟨gb166, 2, none⟩) (Kd.N_far (p := ⟨gb166, 1, none⟩) (Kd.N_far (p := ⟨gb166, 0, none⟩) (Kd.N_mono HO165.out (fun k_ hk => (⟨hk, hk.2⟩ : _ ∧ k_ ≠ gb166))) (fun _ hk => hk.2) (.slice none 0 0)) (fun _ hk => hk.2) (.slice Ao17 y163.length co17)) (fun _ hk => hk.2) (.int .i64 0)) (fun _ hk => hk.2) (.bool false)) (fun _ h_ => h_.1))) (Kd.R_base ho21) hb); replace BK166 := Aside0.mk (blk_below (g := gb166) (o := .cells #[.slice none 0 0, .slice Ao17 y163.length co17, .int .i64 0, .bool false] 25 (0, 0)) (by (with_reducible repeat (first | refine blk_drewN ?_ _ | refine blk_drew ?_ | refine blk_alloc ?_ _)); refine blk_put (cs := #[.slice none 0 0, .slice Ao17 y163.length co17, .int .i64 0, .bool false]) ?_ 3 _ rfl; (with_reducible repeat (first | refine blk_drewN ?_ _ | refine blk_drew ?_ | refine blk_alloc ?_ _)); refine blk_put (cs := #[.slice none 0 0, .slice Ao17 y163.length co17, .int .i64 0, .bool false]) ?_ 2 _ rfl; (with_reducible repeat (first | refine blk_drewN ?_ _ | refine blk_drew ?_ | refine blk_alloc ?_ _)); refine blk_put (cs := #[.slice none 0 0, .slice none 0 0, .int .i64 0, .bool false]) ?_ 1 _ rfl; (with_reducible repeat (first | refine blk_drewN ?_ _ | refine blk_drew ?_ | refine blk_alloc ?_ _)); refine blk_put (cs := #[.slice none 0 0, .slice none 0 0, .int .i64 0, .bool false]) ?_ 0 _ rfl; (with_reducible repeat (first | refine blk_drewN ?_ _ | refine blk_drew ?_ | refine blk_alloc ?_ _)); exact BK166.out) hb); replace HB := Aside0.mk (below_step (by repeat (first | (with_reducible first | exact HB.out | apply below_alloc | apply pw_below_drewN | apply below_drew1 | refine below_set ?_ GE166.out) | exact HB.out)) hb); clear hb ho21; obtain ⟨Ao22, co22, eo22⟩ := Kd.R_slice HO169.out; subst eo22) | ((with_reducible refine gate_callee (f := 11) rfl ?_); refine goesL_ (some 14) rfl rfl Try.func11 (by kernel_rfl) rfl #[.agg #[.slice none 0 0, .slice Ao17 y163.length co17, .int .i64 0, .bool false], .slice Ao22 y167.length co22] rfl (by (try simp only [List.map_toArray, List.map_cons, List.map_nil]); first | done | rfl | (simp only [List.length_drop, List.length_take]; done) | (simp only [List.length_drop, List.length_take]; rfl)) ?_; (refine (weigh_Elements.calls _ _ ([] : List (S42)) _ _ y163 0 false _ _ y167 t170 t173 _ ?side1 ?side2 ?side3 ?side4 ?side5 ?side6 A1.out).mono ?_); (case side1 => exact Kd.C_nil _ _); (case side2 => exact Nat.le_refl _); (case side3 => repeat (first | exact (Kd.N_reads' HO165.out).2.2 | (with_reducible refine Kd.C_alloc ?_ _) | (with_reducible refine Kd.C_drewN ?_ _) | (with_reducible refine Kd.C_drew ?_))); (case side4 => exact (Kd.N_reads' HO165.out).2.1); (case side5 => repeat (first | exact (Kd.R_reads' HO169.out).2.2 | (with_reducible refine Kd.C_alloc ?_ _) | (with_reducible refine Kd.C_drewN ?_ _) | (with_reducible refine Kd.C_drew ?_))); (case side6 => exact (Kd.R_reads' HO169.out).2.1); rintro e w23 ⟨v171, rfl, ho0, hb⟩; refine ⟨_, rfl, ?_⟩; have HO172 := Aside0.mk (Kd.R_lower ho0 (below_size (by repeat (first | (with_reducible first | exact HB.out | apply below_alloc | apply pw_below_drewN | apply below_drew1 | refine below_set ?_ GE166.out) | exact HB.out)))); replace HO165 := Aside0.mk (Kd.N_elder' (by (with_reducible repeat (first | apply Kd.N_alloc | apply Kd.N_drewN | apply Kd.N_drew)); exact HO165.out) (Kd.R_base ho0) hb); replace HO169 := Aside0.mk (Kd.R_below (pR HO169.out) hb); replace BK166 := Aside0.mk (blk_below (pb BK166.out) hb); replace HB := Aside0.mk (below_step (by repeat (first | (with_reducible first | exact HB.out | apply below_alloc | apply pw_below_drewN | apply below_drew1 | refine below_set ?_ GE166.out) | exact HB.out)) hb); (try clear hb); (try clear hb2); (try clear hk); (try clear hi); (try clear ho0)) | ((with_reducible refine gate_callee (f := 18) rfl ?_); refine goesL_ (some 17) rfl rfl Try.func18 (by kernel_rfl) rfl #[.int .i32 98] rfl (by (try simp only [List.map_toArray, List.map_cons, List.map_nil]); first | done | rfl | (simp only [List.length_drop, List.length_take]; done) | (simp only [List.length_drop, List.length_take]; rfl)) ?_; (with_reducible refine (weigh_Implied.calls 98 t174 t175 t176 t177 t178 t179 _ A2.out).mono ?_); rintro e w24 ⟨rfl, hb⟩; refine ⟨_, rfl, ?_⟩; replace HO165 := Aside0.mk (Kd.N_below (by (with_reducible repeat (first | apply Kd.N_alloc | apply Kd.N_drewN | apply Kd.N_drew)); exact HO165.out) hb); replace HO169 := Aside0.mk (Kd.R_below (pR HO169.out) hb); replace HO172 := Aside0.mk (Kd.R_below (pR HO172.out) hb); replace BK166 := Aside0.mk (blk_below (pb BK166.out) hb); replace HB := Aside0.mk (below_step (by repeat (first | (with_reducible first | exact HB.out | apply below_alloc | apply pw_below_drewN | apply below_drew1 | refine below_set ?_ GE166.out) | exact HB.out)) hb); (try clear hb); (try clear hb2); (try clear hk); (try clear hi)) | ((with_reducible refine gate_dst (N := 4) rfl ?_); (try (refine gate_guard (by rfl) ?_; dsimp only)); refine box_event ?hg (N := 4) ?hd (cs := #[.int .i64 0, .int .i64 0, .int .i64 0, .int .i64 0, .int .i64 0, .int .i64 0]) (t := 46) ?hr ?_; (case hd => rfl); (case hg => rfl); (case hr => first | (go_simp; done) | (go_simp; rfl)); intro gb180 hg w25 hbox hb; have BK180 := Aside0.mk (hbox); have GW180 := Aside0.mk ((by rw [hg]; exact (below_size (by repeat (first | (with_reducible first | exact HB.out | apply below_alloc | apply pw_below_drewN | apply below_drew1 | refine below_set ?_ GE166.out) | exact HB.out))) : w.heap.size ≤ gb180)); have GE180 := Aside0.mk ((by rw [hg]; exact (below_size (by repeat (first | (with_reducible first | exact HB.out | apply below_alloc | apply pw_below_drewN | apply below_drew1 | refine below_set ?_ GE166.out) | exact HB.out))) : w.heap.size ≤ gb180)); have NB166_180 := neL hg BK166.out; have NB180_166 := neG hg BK166.out; replace HO165 := Aside0.mk (Kd.N_below (Kd.N_elderB (by (with_reducible repeat (first | apply Kd.N_alloc | apply Kd.N_drewN | apply Kd.N_drew)); exact HO165.out) gb180 (Nat.le_of_eq hg.symm)) hb); replace HO169 := Aside0.mk (Kd.R_below (pR HO169.out) hb); replace HO172 := Aside0.mk (Kd.R_below (pR HO172.out) hb); replace BK166 := Aside0.mk (blk_below (pb BK166.out) hb); replace HB := Aside0.mk (below_step (by repeat (first | (with_reducible first | exact HB.out | apply below_alloc | apply pw_below_drewN | apply below_drew1 | refine below_set ?_ GE166.out) | exact HB.out)) hb); clear hb hbox hg; have hnb26 := NB180_166.out; have hnc26 := NB166_180.out; have hcz27_0 : w25.cell? ⟨gb180, 0, none⟩ = some (.int .i64 0) := blk_cell BK180.out 0; have hcz27_1 : w25.cell? ⟨gb180, 1, none⟩ = some (.int .i64 0) := blk_cell BK180.out 1; have hcz27_2 : w25.cell? ⟨gb180, 2, none⟩ = some (.int .i64 0) := blk_cell BK180.out 2; have hcz27_3 : w25.cell? ⟨gb180, 3, none⟩ = some (.int .i64 0) := blk_cell BK180.out 3; have hcz27_4 : w25.cell? ⟨gb180, 4, none⟩ = some (.int .i64 0) := blk_cell BK180.out 4; have hcz27_5 : w25.cell? ⟨gb180, 5, none⟩ = some (.int .i64 0) := blk_cell BK180.out 5; have hfz27_0 := blk_frozen BK180.out 0; have hfz27_1 := blk_frozen BK180.out 1; have hfz27_2 := blk_frozen BK180.out 2; have hfz27_3 := blk_frozen BK180.out 3; have hfz27_4 := blk_frozen BK180.out 4; have hfz27_5 := blk_frozen BK180.out 5))
  have n0_ : Aside0 (Kd.N k44 44 ((((((w25.setCell ⟨gb180, 0, none⟩ (.int .i64 t174)).setCell ⟨gb180, 1, none⟩ (.int .i64 t175)).setCell ⟨gb180, 2, none⟩ (.int .i64 t176)).setCell ⟨gb180, 3, none⟩ (.int .i64 t177)).setCell ⟨gb180, 4, none⟩ (.int .i64 t178)).setCell ⟨gb180, 5, none⟩ (.int .i64 t179)) w.heap.size (fun k_ => some k_ ≠ (.slice Ao22 y167.length co22 : Value).ownBlock ∧ some k_ ≠ (v171 : Value).ownBlock ∧ k_ ≠ gb166 ∧ k_ ≠ gb180) (.slice Ao17 y163.length co17) y163) := ⟨by (with_reducible repeat (first | apply Kd.N_alloc | apply Kd.N_drewN | apply Kd.N_drew)); exact Kd.N_mono (Kd.N_far (p := ⟨gb180, 5, none⟩) (Kd.N_far (p := ⟨gb180, 4, none⟩) (Kd.N_far (p := ⟨gb180, 3, none⟩) (Kd.N_far (p := ⟨gb180, 2, none⟩) (Kd.N_far (p := ⟨gb180, 1, none⟩) (Kd.N_far (p := ⟨gb180, 0, none⟩) (Kd.N_mono HO165.out (fun k_ hk => (⟨hk, hk.2⟩ : _ ∧ k_ ≠ gb180))) (fun _ hk => hk.2) (.int .i64 t174)) (fun _ hk => hk.2) (.int .i64 t175)) (fun _ hk => hk.2) (.int .i64 t176)) (fun _ hk => hk.2) (.int .i64 t177)) (fun _ hk => hk.2) (.int .i64 t178)) (fun _ hk => hk.2) (.int .i64 t179)) (fun _ hk => by first | exact ⟨hk.1.1.1.2, ⟨hk.1.1.2, ⟨hk.1.1.1.1.2, hk.1.2⟩⟩⟩ | omega)⟩
  have n1_ : Aside0 (Kd.R (Kd.int .i32) 21 ((((((w25.setCell ⟨gb180, 0, none⟩ (.int .i64 t174)).setCell ⟨gb180, 1, none⟩ (.int .i64 t175)).setCell ⟨gb180, 2, none⟩ (.int .i64 t176)).setCell ⟨gb180, 3, none⟩ (.int .i64 t177)).setCell ⟨gb180, 4, none⟩ (.int .i64 t178)).setCell ⟨gb180, 5, none⟩ (.int .i64 t179)) w.heap.size (fun _ => True) (.slice Ao22 y167.length co22) y167) := ⟨by (with_reducible repeat (first | apply Kd.R_alloc | apply Kd.R_drewN | apply Kd.R_drew)); exact Kd.R_mono (Kd.R_far (p := ⟨gb180, 5, none⟩) (Kd.R_far (p := ⟨gb180, 4, none⟩) (Kd.R_far (p := ⟨gb180, 3, none⟩) (Kd.R_far (p := ⟨gb180, 2, none⟩) (Kd.R_far (p := ⟨gb180, 1, none⟩) (Kd.R_far (p := ⟨gb180, 0, none⟩) (Kd.R_types HO169.out BK180.out (by decide)) (fun _ hk => hk.2) (.int .i64 t174)) (fun _ hk => hk.2) (.int .i64 t175)) (fun _ hk => hk.2) (.int .i64 t176)) (fun _ hk => hk.2) (.int .i64 t177)) (fun _ hk => hk.2) (.int .i64 t178)) (fun _ hk => hk.2) (.int .i64 t179)) (fun _ hk => trivial)⟩
  have n2_ : Aside0 (Kd.R k39 39 ((((((w25.setCell ⟨gb180, 0, none⟩ (.int .i64 t174)).setCell ⟨gb180, 1, none⟩ (.int .i64 t175)).setCell ⟨gb180, 2, none⟩ (.int .i64 t176)).setCell ⟨gb180, 3, none⟩ (.int .i64 t177)).setCell ⟨gb180, 4, none⟩ (.int .i64 t178)).setCell ⟨gb180, 5, none⟩ (.int .i64 t179)) w.heap.size (fun _ => True) v171 t170) := ⟨by (with_reducible repeat (first | apply Kd.R_alloc | apply Kd.R_drewN | apply Kd.R_drew)); exact Kd.R_mono (Kd.R_far (p := ⟨gb180, 5, none⟩) (Kd.R_far (p := ⟨gb180, 4, none⟩) (Kd.R_far (p := ⟨gb180, 3, none⟩) (Kd.R_far (p := ⟨gb180, 2, none⟩) (Kd.R_far (p := ⟨gb180, 1, none⟩) (Kd.R_far (p := ⟨gb180, 0, none⟩) (Kd.R_types HO172.out BK180.out (by decide)) (fun _ hk => hk.2) (.int .i64 t174)) (fun _ hk => hk.2) (.int .i64 t175)) (fun _ hk => hk.2) (.int .i64 t176)) (fun _ hk => hk.2) (.int .i64 t177)) (fun _ hk => hk.2) (.int .i64 t178)) (fun _ hk => hk.2) (.int .i64 t179)) (fun _ hk => trivial)⟩
  have n3_ : Aside0 (((((((w25.setCell ⟨gb180, 0, none⟩ (.int .i64 t174)).setCell ⟨gb180, 1, none⟩ (.int .i64 t175)).setCell ⟨gb180, 2, none⟩ (.int .i64 t176)).setCell ⟨gb180, 3, none⟩ (.int .i64 t177)).setCell ⟨gb180, 4, none⟩ (.int .i64 t178)).setCell ⟨gb180, 5, none⟩ (.int .i64 t179)).heap[gb166]? = some (.cells #[.slice none 0 0, .slice Ao17 y163.length co17, .int .i64 0, .bool false] 25 (0, 0))) := ⟨by (with_reducible repeat (first | refine blk_drewN ?_ _ | refine blk_drew ?_ | refine blk_alloc ?_ _)); refine blk_far ?_ NB166_180.out _; (with_reducible repeat (first | refine blk_drewN ?_ _ | refine blk_drew ?_ | refine blk_alloc ?_ _)); refine blk_far ?_ NB166_180.out _; (with_reducible repeat (first | refine blk_drewN ?_ _ | refine blk_drew ?_ | refine blk_alloc ?_ _)); refine blk_far ?_ NB166_180.out _; (with_reducible repeat (first | refine blk_drewN ?_ _ | refine blk_drew ?_ | refine blk_alloc ?_ _)); refine blk_far ?_ NB166_180.out _; (with_reducible repeat (first | refine blk_drewN ?_ _ | refine blk_drew ?_ | refine blk_alloc ?_ _)); refine blk_far ?_ NB166_180.out _; (with_reducible repeat (first | refine blk_drewN ?_ _ | refine blk_drew ?_ | refine blk_alloc ?_ _)); refine blk_far ?_ NB166_180.out _; (with_reducible repeat (first | refine blk_drewN ?_ _ | refine blk_drew ?_ | refine blk_alloc ?_ _)); exact BK166.out⟩
  have n4_ : Aside0 (((((((w25.setCell ⟨gb180, 0, none⟩ (.int .i64 t174)).setCell ⟨gb180, 1, none⟩ (.int .i64 t175)).setCell ⟨gb180, 2, none⟩ (.int .i64 t176)).setCell ⟨gb180, 3, none⟩ (.int .i64 t177)).setCell ⟨gb180, 4, none⟩ (.int .i64 t178)).setCell ⟨gb180, 5, none⟩ (.int .i64 t179)).heap[gb180]? = some (.cells #[.int .i64 t174, .int .i64 t175, .int .i64 t176, .int .i64 t177, .int .i64 t178, .int .i64 t179] 46 (0, 0))) := ⟨by (with_reducible repeat (first | refine blk_drewN ?_ _ | refine blk_drew ?_ | refine blk_alloc ?_ _)); refine blk_put (cs := #[.int .i64 t174, .int .i64 t175, .int .i64 t176, .int .i64 t177, .int .i64 t178, .int .i64 0]) ?_ 5 _ rfl; (with_reducible repeat (first | refine blk_drewN ?_ _ | refine blk_drew ?_ | refine blk_alloc ?_ _)); refine blk_put (cs := #[.int .i64 t174, .int .i64 t175, .int .i64 t176, .int .i64 t177, .int .i64 0, .int .i64 0]) ?_ 4 _ rfl; (with_reducible repeat (first | refine blk_drewN ?_ _ | refine blk_drew ?_ | refine blk_alloc ?_ _)); refine blk_put (cs := #[.int .i64 t174, .int .i64 t175, .int .i64 t176, .int .i64 0, .int .i64 0, .int .i64 0]) ?_ 3 _ rfl; (with_reducible repeat (first | refine blk_drewN ?_ _ | refine blk_drew ?_ | refine blk_alloc ?_ _)); refine blk_put (cs := #[.int .i64 t174, .int .i64 t175, .int .i64 0, .int .i64 0, .int .i64 0, .int .i64 0]) ?_ 2 _ rfl; (with_reducible repeat (first | refine blk_drewN ?_ _ | refine blk_drew ?_ | refine blk_alloc ?_ _)); refine blk_put (cs := #[.int .i64 t174, .int .i64 0, .int .i64 0, .int .i64 0, .int .i64 0, .int .i64 0]) ?_ 1 _ rfl; (with_reducible repeat (first | refine blk_drewN ?_ _ | refine blk_drew ?_ | refine blk_alloc ?_ _)); refine blk_put (cs := #[.int .i64 0, .int .i64 0, .int .i64 0, .int .i64 0, .int .i64 0, .int .i64 0]) ?_ 0 _ rfl; (with_reducible repeat (first | refine blk_drewN ?_ _ | refine blk_drew ?_ | refine blk_alloc ?_ _)); exact BK180.out⟩
  have n5_ : Aside0 (Below w.heap.size w ((((((w25.setCell ⟨gb180, 0, none⟩ (.int .i64 t174)).setCell ⟨gb180, 1, none⟩ (.int .i64 t175)).setCell ⟨gb180, 2, none⟩ (.int .i64 t176)).setCell ⟨gb180, 3, none⟩ (.int .i64 t177)).setCell ⟨gb180, 4, none⟩ (.int .i64 t178)).setCell ⟨gb180, 5, none⟩ (.int .i64 t179))) := ⟨by repeat (first | (with_reducible first | exact HB.out | apply below_alloc | apply pw_below_drewN | apply below_drew1 | refine below_set ?_ GE166.out | refine below_set ?_ GE180.out) | exact HB.out)⟩
  (try clear HO165)
  (try clear HO169)
  (try clear HO172)
  (try clear BK166)
  (try clear BK180)
  (try clear HB)
  generalize ((((((w25.setCell ⟨gb180, 0, none⟩ (.int .i64 t174)).setCell ⟨gb180, 1, none⟩ (.int .i64 t175)).setCell ⟨gb180, 2, none⟩ (.int .i64 t176)).setCell ⟨gb180, 3, none⟩ (.int .i64 t177)).setCell ⟨gb180, 4, none⟩ (.int .i64 t178)).setCell ⟨gb180, 5, none⟩ (.int .i64 t179)) = w28 at n0_ n1_ n2_ n3_ n4_ n5_ ⊢
  have HO165 := n0_
  have HO169 := n1_
  have HO172 := n2_
  have BK166 := n3_
  have BK180 := n4_
  have HB := n5_
  clear n0_ n1_ n2_ n3_ n4_ n5_
  replace HO165 := Aside0.mk (Kd.N_drew HO165.out)
  replace HO169 := Aside0.mk (Kd.R_drew HO169.out)
  replace HO172 := Aside0.mk (Kd.R_drew HO172.out)
  replace BK166 := Aside0.mk (blk_drew BK166.out)
  replace BK180 := Aside0.mk (blk_drew BK180.out)
  replace HB := Aside0.mk (below_drew1 HB.out)
  refine start_ (n := 22) (S := fun w' => w'.cell? ⟨gb166, 0, none⟩ = some (.slice none 0 0) ∧ w'.cell? ⟨gb166, 1, none⟩ = some (.slice Ao17 y163.length co17) ∧ w'.cell? ⟨gb166, 2, none⟩ = some (.int .i64 0) ∧ w'.cell? ⟨gb166, 3, none⟩ = some (.bool false) ∧ w'.cell? ⟨gb180, 0, none⟩ = some (.int .i64 t174) ∧ w'.cell? ⟨gb180, 1, none⟩ = some (.int .i64 t175) ∧ w'.cell? ⟨gb180, 2, none⟩ = some (.int .i64 t176) ∧ w'.cell? ⟨gb180, 3, none⟩ = some (.int .i64 t177) ∧ w'.cell? ⟨gb180, 4, none⟩ = some (.int .i64 t178) ∧ w'.cell? ⟨gb180, 5, none⟩ = some (.int .i64 t179)) (ds := []) (fl 0 22) (by kernel_rfl) rfl rfl ⟨blk_cell BK166.out 0, blk_cell BK166.out 1, blk_cell BK166.out 2, blk_cell BK166.out 3, blk_cell BK180.out 0, blk_cell BK180.out 1, blk_cell BK180.out 2, blk_cell BK180.out 3, blk_cell BK180.out 4, blk_cell BK180.out 5⟩ (fun hHeld => ?_); refine with_tabW gazetteerlaw3_awake.tab4 gazetteerlaw3_awake.bits4 (fun HT_ HW_ => ?_)
  generalize w28.drew = w29 at HO165 HO169 HO172 BK166 BK180 HB hHeld ⊢
  refine pure_ (i := 0) (N := some 18) (v := ?_) (a' := ?_) (fl 1 21) rfl rfl (any_of HT_.out (by kernel_rfl)) (fun _ _ _ h => h) (Or.inl ⟨by rfl, ?_⟩) ?_ ?_
  rotate_left
  · intro w'
    go_simp
    with_reducible rfl
  rotate_left
  · simp only [Act.put, List.setIfInBounds_toArray, List.set_cons_zero, List.set_cons_succ, i64_w, i32_w]; rfl
  refine pure_ (i := 1) (N := some 19) (v := ?_) (a' := ?_) (fl 2 20) rfl rfl (any_of HT_.out (by kernel_rfl)) (fun _ _ _ h => h) (Or.inl ⟨by rfl, ?_⟩) ?_ ?_
  rotate_left
  · intro w'
    go_simp
    with_reducible rfl
  rotate_left
  · simp only [Act.put, List.setIfInBounds_toArray, List.set_cons_zero, List.set_cons_succ, i64_w, i32_w]; rfl
  refine pure_ (i := 2) (N := some 20) (v := ?_) (a' := ?_) (fl 3 19) rfl rfl (any_of HT_.out (by kernel_rfl)) (fun _ _ _ h => h) (Or.inl ⟨by rfl, ?_⟩) ?_ ?_
  rotate_left
  · intro w'
    go_simp
    with_reducible rfl
  rotate_left
  · simp only [Act.put, List.setIfInBounds_toArray, List.set_cons_zero, List.set_cons_succ, i64_w, i32_w]; rfl
  refine take_ (i := 3) (N := some 21) (v := ?_) (a' := ?_) (fl 4 18) rfl rfl (take_ofW HT_.out HW_.out (by kernel_rfl)) (fun _ _ _ h => h) (Or.inl ⟨by rfl, ?_⟩) hHeld ?_ ?_
  rotate_left
  · rintro w' ⟨s0, s1, s2, s3, s4, s5, s6, s7, s8, s9⟩; go_simp; with_reducible rfl
  rotate_left
  · simp only [Act.put, List.setIfInBounds_toArray, List.set_cons_zero, List.set_cons_succ, i64_w, i32_w]; rfl
  refine one_ (i := 4) (N := some 22) (fl 5 17) rfl rfl (one_of HT_.out (by kernel_rfl)) (by decide) (fun K hK => ?_)
  refine goes_ Try.func14 (by kernel_rfl) rfl #[.agg #[.slice none 0 0, .slice Ao17 y163.length co17, .int .i64 0, .bool false]] (by rfl) rfl rfl (by (try simp only [List.map_toArray, List.map_cons, List.map_nil]); first | done | rfl | (simp only [List.length_drop, List.length_take]; done) | (simp only [List.length_drop, List.length_take]; rfl)) ?_
  refine (weigh_May.calls _ _ ([] : List (S42)) _ _ y163 0 false true _ ?side1 ?side2 ?side3 ?side4 A4.out).mono ?_
  (case side1 => exact Kd.C_nil _ _)
  (case side2 => exact Nat.le_refl _)
  (case side3 => repeat (first | exact (Kd.N_reads' HO165.out).2.2 | (with_reducible refine Kd.C_alloc ?_ _) | (with_reducible refine Kd.C_drewN ?_ _) | (with_reducible refine Kd.C_drew ?_)))
  (case side4 => exact (Kd.N_reads' HO165.out).2.1)
  rintro e w30 ⟨rfl, hb⟩
  refine ⟨_, rfl, ?_⟩
  replace HO165 := Aside0.mk (Kd.N_below (by (with_reducible repeat (first | apply Kd.N_alloc | apply Kd.N_drewN | apply Kd.N_drew)); exact HO165.out) hb)
  replace HO169 := Aside0.mk (Kd.R_below (pR HO169.out) hb)
  replace HO172 := Aside0.mk (Kd.R_below (pR HO172.out) hb)
  replace BK166 := Aside0.mk (blk_below (pb BK166.out) hb)
  replace BK180 := Aside0.mk (blk_below (pb BK180.out) hb)
  replace HB := Aside0.mk (below_step (pB HB.out) hb)
  (try clear hb)
  (try clear hb2)
  (try clear hk)
  (try clear hi)
  refine hK.out _ _ ⟨blk_cell BK166.out 0, blk_cell BK166.out 1, blk_cell BK166.out 2, blk_cell BK166.out 3, blk_cell BK180.out 0, blk_cell BK180.out 1, blk_cell BK180.out 2, blk_cell BK180.out 3, blk_cell BK180.out 4, blk_cell BK180.out 5⟩ (fun hHeld => ?_)
  clear hK K
  refine norm_ (a' := ?_) ?_ ?_
  rotate_left
  · show Act.put _ (some 22) _ = _; simp only [Act.put, List.setIfInBounds_toArray, List.set_cons_zero, List.set_cons_succ, i64_w, i32_w]; rfl
  refine pure_ (i := 5) (N := some 23) (v := ?_) (a' := ?_) (fl 6 16) rfl rfl (any_of HT_.out (by kernel_rfl)) (fun _ _ _ h => h) (Or.inl ⟨by rfl, ?_⟩) ?_ ?_
  rotate_left
  · intro w'
    go_simp
    with_reducible rfl
  rotate_left
  · simp only [Act.put, List.setIfInBounds_toArray, List.set_cons_zero, List.set_cons_succ, i64_w, i32_w]; rfl
  refine pure_ (i := 6) (N := some 24) (v := ?_) (a' := ?_) (fl 7 15) rfl rfl (any_of HT_.out (by kernel_rfl)) (fun _ _ _ h => h) (Or.inl ⟨by rfl, ?_⟩) ?_ ?_
  rotate_left
  · intro w'
    go_simp
    with_reducible rfl
  rotate_left
  · simp only [Act.put, List.setIfInBounds_toArray, List.set_cons_zero, List.set_cons_succ, i64_w, i32_w]; rfl
  refine pure_ (i := 7) (N := some 25) (v := ?_) (a' := ?_) (fl 8 14) rfl rfl (any_of HT_.out (by kernel_rfl)) (fun _ _ _ h => h) (Or.inl ⟨by rfl, ?_⟩) ?_ ?_
  rotate_left
  · intro w'
    go_simp
    with_reducible rfl
  rotate_left
  · simp only [Act.put, List.setIfInBounds_toArray, List.set_cons_zero, List.set_cons_succ, i64_w, i32_w]; rfl
  refine pure_ (i := 8) (N := some 26) (v := ?_) (a' := ?_) (fl 9 13) rfl rfl (any_of HT_.out (by kernel_rfl)) (fun _ _ _ h => h) (Or.inl ⟨by rfl, ?_⟩) ?_ ?_
  rotate_left
  · intro w'
    go_simp
    with_reducible rfl
  rotate_left
  · simp only [Act.put, List.setIfInBounds_toArray, List.set_cons_zero, List.set_cons_succ, i64_w, i32_w]; rfl
  refine pure_ (i := 9) (N := some 27) (v := ?_) (a' := ?_) (fl 10 12) rfl rfl (any_of HT_.out (by kernel_rfl)) (fun _ _ _ h => h) (Or.inl ⟨by rfl, ?_⟩) ?_ ?_
  rotate_left
  · intro w'
    go_simp
    with_reducible rfl
  rotate_left
  · simp only [Act.put, List.setIfInBounds_toArray, List.set_cons_zero, List.set_cons_succ, i64_w, i32_w]; rfl
  refine pure_ (i := 11) (N := some 29) (v := ?_) (a' := ?_) #[true, true, true, true, true, true, true, true, true, true, false, true, false, false, false, false, false, false, false, false, false, false] rfl rfl (any_of HT_.out (by kernel_rfl)) (fun _ _ _ h => h) (Or.inl ⟨by rfl, ?_⟩) ?_ ?_
  rotate_left
  · intro w'
    go_simp
    with_reducible rfl
  rotate_left
  · simp only [Act.put, List.setIfInBounds_toArray, List.set_cons_zero, List.set_cons_succ, i64_w, i32_w]; rfl
  refine take_ (i := 10) (N := some 28) (v := ?_) (a' := ?_) (fl 12 10) rfl rfl (take_ofW HT_.out HW_.out (by kernel_rfl)) (fun _ _ _ h => h) (Or.inl ⟨by rfl, ?_⟩) hHeld ?_ ?_
  rotate_left
  · rintro w' ⟨s0, s1, s2, s3, s4, s5, s6, s7, s8, s9⟩; go_simp; with_reducible rfl
  rotate_left
  · simp only [Act.put, List.setIfInBounds_toArray, List.set_cons_zero, List.set_cons_succ, i64_w, i32_w]; rfl
  refine take_ (i := 12) (N := some 30) (v := ?_) (a' := ?_) (fl 13 9) rfl rfl (take_ofW HT_.out HW_.out (by kernel_rfl)) (fun _ _ _ h => h) (Or.inl ⟨by rfl, ?_⟩) hHeld ?_ ?_
  rotate_left
  · rintro w' ⟨s0, s1, s2, s3, s4, s5, s6, s7, s8, s9⟩; go_simp; with_reducible rfl
  rotate_left
  · simp only [Act.put, List.setIfInBounds_toArray, List.set_cons_zero, List.set_cons_succ, i64_w, i32_w]; rfl
  refine one_ (i := 13) (N := some 31) (fl 14 8) rfl rfl (one_of HT_.out (by kernel_rfl)) (by decide) (fun K hK => ?_)
  refine Kd.R_lit_step k39 _ 39 ?hg (N := 31) ?hd (xs := ([(⟨1, 1, 1⟩ : S39), (⟨t174, t175, t176⟩ : S39), (⟨t177, t178, t179⟩ : S39)] : List (S39))) (inner := [.int .i64 1, .int .i64 1, .int .i64 1, .int .i64 t174, .int .i64 t175, .int .i64 t176, .int .i64 t177, .int .i64 t178, .int .i64 t179]) (ok := fun _ => True) (okp := fun _ => True) ?hr ?hp (fun _ hk => hk) trivial (Below.refl _ _) (Nat.le_refl _) (by simp) ?_; (case hd => rfl); (case hg => rfl); (case hr => first | (go_simp; done) | (go_simp; rfl)); (case hp => exact (Reps.c3 (show Kd.M k39 _ _ _ (⟨1, 1, 1⟩ : S39) [.int .i64 1, .int .i64 1, .int .i64 1] from (k39_mkM _ _ _ (⟨1, 1, 1⟩ : S39) )) (Reps.c3 (show Kd.M k39 _ _ _ (⟨t174, t175, t176⟩ : S39) [.int .i64 t174, .int .i64 t175, .int .i64 t176] from (k39_mkM _ _ _ (⟨t174, t175, t176⟩ : S39) )) (Reps.c3 (show Kd.M k39 _ _ _ (⟨t177, t178, t179⟩ : S39) [.int .i64 t177, .int .i64 t178, .int .i64 t179] from (k39_mkM _ _ _ (⟨t177, t178, t179⟩ : S39) )) (Reps.none _ _)))))
  intro v183 w31 ho32 hb hg_ hnew_
  clear hg_ hnew_
  (first | rw [← Ny182.out] at ho32 | (simp only [Int.reduceToNat] at ho32; rw [← Ny182.out] at ho32))
  have HO184 := Aside0.mk (Kd.R_lower (Kd.R_new' ho32 (Kd.R_lt (pR HO172.out))) (below_size (pB HB.out)))
  replace HO165 := Aside0.mk (Kd.N_elder' (by (with_reducible repeat (first | apply Kd.N_alloc | apply Kd.N_drewN | apply Kd.N_drew)); exact HO165.out) (Kd.R_base ho32) hb)
  replace HO169 := Aside0.mk (Kd.R_below (pR HO169.out) hb)
  replace HO172 := Aside0.mk (Kd.R_elder' (pR HO172.out) (Kd.R_base ho32) hb)
  replace BK166 := Aside0.mk (blk_below (pb BK166.out) hb)
  replace BK180 := Aside0.mk (blk_below (pb BK180.out) hb)
  replace HB := Aside0.mk (below_step (pB HB.out) hb)
  clear hb ho32
  obtain ⟨Ao33, co33, eo33⟩ := Kd.R_slice HO172.out
  (first | subst eo33 | (injection eo33 with f1_ f2_ f3_; have f4_ := f1_.symm; have f5_ := f3_.symm; clear f1_ f2_ f3_; subst f4_; subst f5_))
  obtain ⟨Ao34, co34, eo34⟩ := Kd.R_slice HO184.out
  (first | subst eo34 | (injection eo34 with f1_ f2_ f3_; have f4_ := f1_.symm; have f5_ := f3_.symm; clear f1_ f2_ f3_; subst f4_; subst f5_))
  refine hK.out _ _ ⟨blk_cell BK166.out 0, blk_cell BK166.out 1, blk_cell BK166.out 2, blk_cell BK166.out 3, blk_cell BK180.out 0, blk_cell BK180.out 1, blk_cell BK180.out 2, blk_cell BK180.out 3, blk_cell BK180.out 4, blk_cell BK180.out 5⟩ (fun hHeld => ?_)
  clear hK K
  refine norm_ (a' := ?_) ?_ ?_
  rotate_left
  · show Act.put _ (some 31) _ = _; simp only [Act.put, List.setIfInBounds_toArray, List.set_cons_zero, List.set_cons_succ, i64_w, i32_w]; rfl
  refine one_ (i := 14) (N := some 32) (fl 15 7) rfl rfl (one_of HT_.out (by kernel_rfl)) (by decide) (fun K hK => ?_)
  refine goes_ Try.func13 (by kernel_rfl) rfl #[.slice Ao33 t170.length co33, .slice Ao34 y182.length co34] (by rfl) rfl rfl (by (try simp only [List.map_toArray, List.map_cons, List.map_nil]); first | done | rfl | (simp only [List.length_drop, List.length_take]; done) | (simp only [List.length_drop, List.length_take]; rfl)) ?_
  with_reducible refine (gazetteerlaw3_Same.calls k _ _ t170 _ _ y182 true _ ?side1 ?side2 ?side3 ?side4 A6.out).mono ?_
  (case side1 => repeat (first | exact (Kd.R_reads' HO172.out).2.2 | (with_reducible refine Kd.C_alloc ?_ _) | (with_reducible refine Kd.C_drewN ?_ _) | (with_reducible refine Kd.C_drew ?_)))
  (case side2 => exact (Kd.R_reads' HO172.out).2.1)
  (case side3 => repeat (first | exact (Kd.R_reads' HO184.out).2.2 | (with_reducible refine Kd.C_alloc ?_ _) | (with_reducible refine Kd.C_drewN ?_ _) | (with_reducible refine Kd.C_drew ?_)))
  (case side4 => exact (Kd.R_reads' HO184.out).2.1)
  rintro e w' ⟨rfl, ⟨nd, rfl⟩⟩
  refine ⟨_, rfl, ?_⟩
  refine hK.out _ _ ⟨blk_cell BK166.out 0, blk_cell BK166.out 1, blk_cell BK166.out 2, blk_cell BK166.out 3, blk_cell BK180.out 0, blk_cell BK180.out 1, blk_cell BK180.out 2, blk_cell BK180.out 3, blk_cell BK180.out 4, blk_cell BK180.out 5⟩ (fun hHeld => ?_)
  clear hK K
  refine norm_ (a' := ?_) ?_ ?_
  rotate_left
  · show Act.put _ (some 32) _ = _; simp only [Act.put, List.setIfInBounds_toArray, List.set_cons_zero, List.set_cons_succ, i64_w, i32_w]; rfl
  refine pure_ (i := 15) (N := some 33) (v := ?_) (a' := ?_) (fl 16 6) rfl rfl (any_of HT_.out (by kernel_rfl)) (fun _ _ _ h => h) (Or.inl ⟨by rfl, ?_⟩) ?_ ?_
  rotate_left
  · intro w'
    go_simp
    with_reducible rfl
  rotate_left
  · simp only [Act.put, List.setIfInBounds_toArray, List.set_cons_zero, List.set_cons_succ, i64_w, i32_w]; rfl
  refine pure_ (i := 16) (N := some 34) (v := ?_) (a' := ?_) (fl 17 5) rfl rfl (any_of HT_.out (by kernel_rfl)) (fun _ _ _ h => h) (Or.inl ⟨by rfl, ?_⟩) ?_ ?_
  rotate_left
  · intro w'
    go_simp
    with_reducible rfl
  rotate_left
  · simp only [Act.put, List.setIfInBounds_toArray, List.set_cons_zero, List.set_cons_succ, i64_w, i32_w]; rfl
  refine take_ (i := 17) (N := some 35) (v := ?_) (a' := ?_) (fl 18 4) rfl rfl (take_ofW HT_.out HW_.out (by kernel_rfl)) (fun _ _ _ h => h) (Or.inl ⟨by rfl, ?_⟩) hHeld ?_ ?_
  rotate_left
  · rintro w' ⟨s0, s1, s2, s3, s4, s5, s6, s7, s8, s9⟩; go_simp; with_reducible rfl
  rotate_left
  · simp only [Act.put, List.setIfInBounds_toArray, List.set_cons_zero, List.set_cons_succ, i64_w, i32_w]; rfl
  refine one_ (i := 18) (N := some 36) (fl 19 3) rfl rfl (one_of HT_.out (by kernel_rfl)) (by decide) (fun K hK => ?_)
  refine goes_ Try.func21 (by kernel_rfl) rfl #[.int .i32 98] (by rfl) rfl rfl (by (try simp only [List.map_toArray, List.map_cons, List.map_nil]); first | done | rfl | (simp only [List.length_drop, List.length_take]; done) | (simp only [List.length_drop, List.length_take]; rfl)) ?_
  with_reducible refine (gazetteerref1_Implied.calls 98 t186 t187 t188 t189 t190 t191 _ A8.out).mono ?_
  rintro e w35 ⟨rfl, hb⟩
  refine ⟨_, rfl, ?_⟩
  replace HO165 := Aside0.mk (Kd.N_below (by (with_reducible repeat (first | apply Kd.N_alloc | apply Kd.N_drewN | apply Kd.N_drew)); exact HO165.out) hb)
  replace HO169 := Aside0.mk (Kd.R_below (pR HO169.out) hb)
  replace HO172 := Aside0.mk (Kd.R_below (pR HO172.out) hb)
  replace HO184 := Aside0.mk (Kd.R_below (pR HO184.out) hb)
  replace BK166 := Aside0.mk (blk_below (pb BK166.out) hb)
  replace BK180 := Aside0.mk (blk_below (pb BK180.out) hb)
  replace HB := Aside0.mk (below_step (pB HB.out) hb)
  (try clear hb)
  (try clear hb2)
  (try clear hk)
  (try clear hi)
  refine hK.out _ _ ⟨blk_cell BK166.out 0, blk_cell BK166.out 1, blk_cell BK166.out 2, blk_cell BK166.out 3, blk_cell BK180.out 0, blk_cell BK180.out 1, blk_cell BK180.out 2, blk_cell BK180.out 3, blk_cell BK180.out 4, blk_cell BK180.out 5⟩ (fun hHeld => ?_)
  clear hK K
  refine norm_ (a' := ?_) ?_ ?_
  rotate_left
  · show Act.put _ (some 36) _ = _; simp only [Act.put, List.setIfInBounds_toArray, List.set_cons_zero, List.set_cons_succ, i64_w, i32_w]; rfl
  refine pure_ (i := 19) (N := some 37) (v := ?_) (a' := ?_) (fl 20 2) rfl rfl (any_of HT_.out (by kernel_rfl)) (fun _ _ _ h => h) (Or.inl ⟨by rfl, ?_⟩) ?_ ?_
  rotate_left
  · intro w'
    go_simp
    with_reducible rfl
  rotate_left
  · simp only [Act.put, List.setIfInBounds_toArray, List.set_cons_zero, List.set_cons_succ, i64_w, i32_w]; rfl
  refine pure_ (i := 20) (N := some 38) (v := ?_) (a' := ?_) (fl 21 1) rfl rfl (any_of HT_.out (by kernel_rfl)) (fun _ _ _ h => h) (Or.inl ⟨by rfl, ?_⟩) ?_ ?_
  rotate_left
  · intro w'
    go_simp
    with_reducible rfl
  rotate_left
  · simp only [Act.put, List.setIfInBounds_toArray, List.set_cons_zero, List.set_cons_succ, i64_w, i32_w]; rfl
  refine pure_ (i := 21) (N := some 0) (v := ?_) (a' := ?_) (fl 22 0) rfl rfl (any_of HT_.out (by kernel_rfl)) (fun _ _ _ h => h) (Or.inl ⟨by rfl, ?_⟩) ?_ ?_
  rotate_left
  · intro w'
    go_simp
    with_reducible rfl
  rotate_left
  · simp only [Act.put, List.setIfInBounds_toArray, List.set_cons_zero, List.set_cons_succ, i64_w, i32_w]; rfl
  refine done_ (done_of HT_.out (by kernel_rfl)) ?_
  try go_wp2
  go_ret
  exact ⟨by first | rfl | (simp [errW_none, errW_some] <;> rfl) | (simp [*, errW_none, errW_some] <;> rfl), by repeat (first | (with_reducible first | exact HB.out | apply below_alloc | apply pw_below_drewN | apply below_drew1 | refine below_set ?_ GE166.out | refine below_set ?_ GE180.out) | exact HB.out)⟩
end Go.Proofs.Ytfagobhhhljajaa.PWeighImplied
