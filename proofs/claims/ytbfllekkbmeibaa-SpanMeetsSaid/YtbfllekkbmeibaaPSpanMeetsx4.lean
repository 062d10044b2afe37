-- printed by a program of this session (wip/tools), a turned form of the kit's print
import Derived.Test.YtbfllekkbmeibaaWPeel
import Derived.Test.YtbfllekkbmeibaaPSpanMeetsx0
import Derived.Test.YtbfllekkbmeibaaPSpanMeetsx1
import Derived.Test.YtbfllekkbmeibaaPSpanMeetsx2
import Derived.Test.YtbfllekkbmeibaaPSpanMeetsx3
namespace Go.Proofs.Ytbfllekkbmeibaa.PSpanMeets
open Go.RowKit Go.Proofs.YtbfllekkbmeibaaW.PrintWords Go.Proofs.YtbfllekkbmeibaaW.PrintLast Go.Proofs.YtbfllekkbmeibaaW.PrintMore
attribute [local go_sem] max2_int min2_int max_two min_two max_three min_three max_four min_four max2_str min2_str str_geq str_leq str_gtr   -- for this text's walks alone
set_option linter.unusedVariables false
set_option linter.unusedSimpArgs false

set_option maxHeartbeats 8000000 in
set_option maxRecDepth 100000 in
theorem gazetteerlaw5_SpanMeets.calls (k : Nat) (a0_0 : ByteArray) (a0_1 : ByteArray) (a1_0 : ByteArray) (a1_1 : ByteArray) (a2_0 : ByteArray) (a2_1 : ByteArray) (r : Bool) (w : World) (HLT0 : r = true) (h : gazetteerlaw5_SpanMeets.f k a0_0 a0_1 a1_0 a1_1 a2_0 a2_1 = some r) :
    Calls Try.prog 7 #[.agg #[.string a0_0, .string a0_1], .agg #[.string a1_0, .string a1_1], .agg #[.string a2_0, .string a2_1]] w fun e w' => e = .returned (.bool r) ∧ Below w.heap.size w w' := by
  have hu38 := Try.underlying38
  have HLT := Aside0.mk HLT0
  clear HLT0
  have HB := Aside0.mk (Below.refl w.heap.size w)
  have H : ((gazetteerlaw5_awake.f k).bind fun t130 => (if t130 = true then ((gazetteerlaw5_Few.f k (([(⟨a0_0, a0_1⟩ : S38), (⟨a1_0, a1_1⟩ : S38), (⟨a2_0, a2_1⟩ : S38)] : List (S38)))).bind fun t134 => (if t134 = true then ((span_Meet.f a0_0 a0_1 a1_0 a1_1).bind fun bt135 => ((span_Meet.f bt135.1 bt135.2 a2_0 a2_1).bind fun bt137 => ((span_Meet.f a2_0 a2_1 a1_0 a1_1).bind fun bt139 => ((span_Meet.f a0_0 a0_1 bt139.1 bt139.2).bind fun bt141 => (if a0_0.size + 1 ≤ 9223372036854775807 then (if a1_1.size + 1 ≤ 9223372036854775807 then (gazetteerlaw5_SpanMeets.l0 k (([(⟨#[]⟩ : ByteArray), a0_0, a0_1, a1_0, a1_1, a2_0, a2_1, a0_0 ++ (⟨#[0]⟩ : ByteArray), a1_1 ++ (⟨#[120]⟩ : ByteArray), (⟨#[255, 255]⟩ : ByteArray)] : List ByteArray)) 0 a0_0 a0_1 a1_0 a1_1 a2_0 a2_1 bt137.1 bt137.2 bt141.1 bt141.2) else (none)) else (none)))))) else (some true))) else (some false))) = some r := h
  clear h
  replace H := Option.bind_eq_some_iff.mp H
  obtain ⟨t130, A40, H⟩ := H
  replace H : (if t130 = true then ((gazetteerlaw5_Few.f k (([(⟨a0_0, a0_1⟩ : S38), (⟨a1_0, a1_1⟩ : S38), (⟨a2_0, a2_1⟩ : S38)] : List (S38)))).bind fun t134 => (if t134 = true then ((span_Meet.f a0_0 a0_1 a1_0 a1_1).bind fun bt135 => ((span_Meet.f bt135.1 bt135.2 a2_0 a2_1).bind fun bt137 => ((span_Meet.f a2_0 a2_1 a1_0 a1_1).bind fun bt139 => ((span_Meet.f a0_0 a0_1 bt139.1 bt139.2).bind fun bt141 => (if a0_0.size + 1 ≤ 9223372036854775807 then (if a1_1.size + 1 ≤ 9223372036854775807 then (gazetteerlaw5_SpanMeets.l0 k (([(⟨#[]⟩ : ByteArray), a0_0, a0_1, a1_0, a1_1, a2_0, a2_1, a0_0 ++ (⟨#[0]⟩ : ByteArray), a1_1 ++ (⟨#[120]⟩ : ByteArray), (⟨#[255, 255]⟩ : ByteArray)] : List ByteArray)) 0 a0_0 a0_1 a1_0 a1_1 a2_0 a2_1 bt137.1 bt137.2 bt141.1 bt141.2) else (none)) else (none)))))) else (some true))) else (some false)) = some r := H
  have A4 := Aside0.mk A40
  clear A40
  by_cases c5 : t130 = true
  rotate_left
  · replace c5 := Bool.eq_false_iff.mpr c5
    subst c5
    have H1 : (some false) = some r := by rw [if_neg (show ¬ (false = true) by decide)] at H; exact H
    clear H
    have H := H1
    clear H1
    exact absurd H (by rw [HLT.out]; repeat' first | (with_reducible exact dead_none) | (with_reducible exact dead_false) | (with_reducible refine dead_ite ?_ ?_) | (with_reducible refine dead_bind (fun _ => ?_)) | (refine dead_ite ?_ ?_) | (refine dead_bind (fun _ => ?_)) | (simp; done))
  subst c5
  have H1 : ((gazetteerlaw5_Few.f k (([(⟨a0_0, a0_1⟩ : S38), (⟨a1_0, a1_1⟩ : S38), (⟨a2_0, a2_1⟩ : S38)] : List (S38)))).bind fun t134 => (if t134 = true then ((span_Meet.f a0_0 a0_1 a1_0 a1_1).bind fun bt135 => ((span_Meet.f bt135.1 bt135.2 a2_0 a2_1).bind fun bt137 => ((span_Meet.f a2_0 a2_1 a1_0 a1_1).bind fun bt139 => ((span_Meet.f a0_0 a0_1 bt139.1 bt139.2).bind fun bt141 => (if a0_0.size + 1 ≤ 9223372036854775807 then (if a1_1.size + 1 ≤ 9223372036854775807 then (gazetteerlaw5_SpanMeets.l0 k (([(⟨#[]⟩ : ByteArray), a0_0, a0_1, a1_0, a1_1, a2_0, a2_1, a0_0 ++ (⟨#[0]⟩ : ByteArray), a1_1 ++ (⟨#[120]⟩ : ByteArray), (⟨#[255, 255]⟩ : ByteArray)] : List ByteArray)) 0 a0_0 a0_1 a1_0 a1_1 a2_0 a2_1 bt137.1 bt137.2 bt141.1 bt141.2) else (none)) else (none)))))) else (some true))) = some r := by rw [if_pos rfl] at H; exact H
  clear H
  have H := H1
  clear H1
  obtain ⟨y131, hy131⟩ : ∃ y_ : List (S38), y_ = (([(⟨a0_0, a0_1⟩ : S38), (⟨a1_0, a1_1⟩ : S38), (⟨a2_0, a2_1⟩ : S38)] : List (S38))) := ⟨_, rfl⟩
  replace H : ((gazetteerlaw5_Few.f k y131).bind fun t134 => (if t134 = true then ((span_Meet.f a0_0 a0_1 a1_0 a1_1).bind fun bt135 => ((span_Meet.f bt135.1 bt135.2 a2_0 a2_1).bind fun bt137 => ((span_Meet.f a2_0 a2_1 a1_0 a1_1).bind fun bt139 => ((span_Meet.f a0_0 a0_1 bt139.1 bt139.2).bind fun bt141 => (if a0_0.size + 1 ≤ 9223372036854775807 then (if a1_1.size + 1 ≤ 9223372036854775807 then (gazetteerlaw5_SpanMeets.l0 k (([(⟨#[]⟩ : ByteArray), a0_0, a0_1, a1_0, a1_1, a2_0, a2_1, a0_0 ++ (⟨#[0]⟩ : ByteArray), a1_1 ++ (⟨#[120]⟩ : ByteArray), (⟨#[255, 255]⟩ : ByteArray)] : List ByteArray)) 0 a0_0 a0_1 a1_0 a1_1 a2_0 a2_1 bt137.1 bt137.2 bt141.1 bt141.2) else (none)) else (none)))))) else (some true))) = some r := by first | (rw [hy131]; with_reducible exact H) | (have H2_ := (Option.bind_some _ _).symm.trans H; rw [hy131]; with_reducible exact H2_) | (have H2_ := (Option.bind_some _ _).symm.trans H; with_reducible exact H2_) | with_reducible exact H | (rw [hy131]; exact H) | exact H
  have Ny131 := Aside0.mk hy131
  clear hy131
  replace H := Option.bind_eq_some_iff.mp H
  obtain ⟨t134, A60, H⟩ := H
  replace H : (if t134 = true then ((span_Meet.f a0_0 a0_1 a1_0 a1_1).bind fun bt135 => ((span_Meet.f bt135.1 bt135.2 a2_0 a2_1).bind fun bt137 => ((span_Meet.f a2_0 a2_1 a1_0 a1_1).bind fun bt139 => ((span_Meet.f a0_0 a0_1 bt139.1 bt139.2).bind fun bt141 => (if a0_0.size + 1 ≤ 9223372036854775807 then (if a1_1.size + 1 ≤ 9223372036854775807 then (gazetteerlaw5_SpanMeets.l0 k (([(⟨#[]⟩ : ByteArray), a0_0, a0_1, a1_0, a1_1, a2_0, a2_1, a0_0 ++ (⟨#[0]⟩ : ByteArray), a1_1 ++ (⟨#[120]⟩ : ByteArray), (⟨#[255, 255]⟩ : ByteArray)] : List ByteArray)) 0 a0_0 a0_1 a1_0 a1_1 a2_0 a2_1 bt137.1 bt137.2 bt141.1 bt141.2) else (none)) else (none)))))) else (some true)) = some r := H
  have A6 := Aside0.mk A60
  clear A60
  by_cases c7 : t134 = true
  rotate_left
  ·
   replace c7 := Bool.eq_false_iff.mpr c7
   subst c7
   have H1 : (some true) = some r := by rw [if_neg (show ¬ (false = true) by decide)] at H; exact H
   clear H
   have H := H1
   clear H1
   obtain rfl := Option.some.inj H
   go_enter Try.func7, Try.ntmps7
   go_wp2_with (first | ((with_reducible refine gate_dst (N := 3) rfl ?_); refine box_event ?hg (N := 3) ?hd (cs := #[.string a0_0, .string a0_1]) (t := 38) ?hr ?_; (case hd => rfl); (case hg => rfl); (case hr => first | (go_simp; done) | (go_simp; rfl)); intro gb127 hg w168 hbox hb; have BK127 := Aside0.mk (hbox); have GW127 := geL hg HB.out; have GE127 := geL hg HB.out; replace HB := Aside0.mk (below_step (pB HB.out) hb); clear hb hbox hg) | ((with_reducible refine gate_dst (N := 4) rfl ?_); refine box_event ?hg (N := 4) ?hd (cs := #[.string a1_0, .string a1_1]) (t := 38) ?hr ?_; (case hd => rfl); (case hg => rfl); (case hr => first | (go_simp; done) | (go_simp; rfl)); intro gb128 hg w169 hbox hb; have BK128 := Aside0.mk (hbox); have GW128 := geL hg HB.out; have GE128 := geL hg HB.out; have NB127_128 := neL hg BK127.out; have NB128_127 := neG hg BK127.out; replace BK127 := Aside0.mk (blk_below BK127.out hb); replace HB := Aside0.mk (below_step (pB HB.out) hb); clear hb hbox hg) | ((with_reducible refine gate_dst (N := 5) rfl ?_); refine box_event ?hg (N := 5) ?hd (cs := #[.string a2_0, .string a2_1]) (t := 38) ?hr ?_; (case hd => rfl); (case hg => rfl); (case hr => first | (go_simp; done) | (go_simp; rfl)); intro gb129 hg w170 hbox hb; have BK129 := Aside0.mk (hbox); have GW129 := geL hg HB.out; have GE129 := geL hg HB.out; have NB127_129 := neL hg BK127.out; have NB129_127 := neG hg BK127.out; have NB128_129 := neL hg BK128.out; have NB129_128 := neG hg BK128.out; replace BK127 := Aside0.mk (blk_below BK127.out hb); replace BK128 := Aside0.mk (blk_below BK128.out hb); replace HB := Aside0.mk (below_step (pB HB.out) hb); clear hb hbox hg) | ((with_reducible refine gate_callee (f := 15) rfl ?_); refine goesL_ (some 12) rfl rfl Try.func15 (by kernel_rfl) rfl #[] rfl (by (try simp only [List.map_toArray, List.map_cons, List.map_nil]); first | done | rfl | (simp only [List.length_drop, List.length_take]; done) | (simp only [List.length_drop, List.length_take]; rfl)) ?_; (with_reducible refine (gazetteerlaw5_awake.calls k  true _ A4.out).mono ?_); rintro e w171 ⟨rfl, hb⟩; refine ⟨_, rfl, ?_⟩; replace BK127 := Aside0.mk (blk_below BK127.out hb); replace BK128 := Aside0.mk (blk_below BK128.out hb); replace BK129 := Aside0.mk (blk_below BK129.out hb); replace HB := Aside0.mk (below_step (pB HB.out) hb); (try clear hb); (try clear hb2); (try clear hk); (try clear hi); have hnb172 := NB127_128.out; have hnc172 := NB128_127.out; have hnb173 := NB127_129.out; have hnc173 := NB129_127.out; have hcz174_0 : w171.cell? ⟨gb127, 0, none⟩ = some (.string a0_0) := blk_cell BK127.out 0; have hcz174_1 : w171.cell? ⟨gb127, 1, none⟩ = some (.string a0_1) := blk_cell BK127.out 1; have hfz174_0 := blk_frozen BK127.out 0; have hfz174_1 := blk_frozen BK127.out 1; have hnb175 := NB128_129.out; have hnc175 := NB129_128.out; have hcz176_0 : w171.cell? ⟨gb128, 0, none⟩ = some (.string a1_0) := blk_cell BK128.out 0; have hcz176_1 : w171.cell? ⟨gb128, 1, none⟩ = some (.string a1_1) := blk_cell BK128.out 1; have hfz176_0 := blk_frozen BK128.out 0; have hfz176_1 := blk_frozen BK128.out 1; have hcz177_0 : w171.cell? ⟨gb129, 0, none⟩ = some (.string a2_0) := blk_cell BK129.out 0; have hcz177_1 : w171.cell? ⟨gb129, 1, none⟩ = some (.string a2_1) := blk_cell BK129.out 1; have hfz177_0 := blk_frozen BK129.out 0; have hfz177_1 := blk_frozen BK129.out 1) | ((with_reducible refine gate_dst (N := 17) rfl ?_); refine Kd.R_lit k38 _ 38 ?hg (N := 17) ?hd (xs := ([(⟨a0_0, a0_1⟩ : S38), (⟨a1_0, a1_1⟩ : S38), (⟨a2_0, a2_1⟩ : S38)] : List (S38))) (inner := [.string a0_0, .string a0_1, .string a1_0, .string a1_1, .string a2_0, .string a2_1]) (ok := fun _ => True) (okp := fun _ => True) ?hr ?hp (fun _ hk => hk) trivial (Below.refl _ _) (Nat.le_refl _) (by simp) ?_; (case hd => rfl); (case hg => rfl); (case hr => first | (go_simp; done) | (go_simp; rfl)); (case hp => exact (Reps.c2 (show Kd.M k38 _ _ _ (⟨a0_0, a0_1⟩ : S38) [.string a0_0, .string a0_1] from (k38_mkM _ _ _ (⟨a0_0, a0_1⟩ : S38) )) (Reps.c2 (show Kd.M k38 _ _ _ (⟨a1_0, a1_1⟩ : S38) [.string a1_0, .string a1_1] from (k38_mkM _ _ _ (⟨a1_0, a1_1⟩ : S38) )) (Reps.c2 (show Kd.M k38 _ _ _ (⟨a2_0, a2_1⟩ : S38) [.string a2_0, .string a2_1] from (k38_mkM _ _ _ (⟨a2_0, a2_1⟩ : S38) )) (Reps.none _ _))))); intro v132 w178 ho179 hb hg_ hnew_; clear hg_ hnew_; (first | rw [← Ny131.out] at ho179 | (simp only [Int.reduceToNat] at ho179; rw [← Ny131.out] at ho179)); have HO133 := Aside0.mk (Kd.R_lower (Kd.R_newB (Kd.R_newB (Kd.R_newB ho179 (g := gb127) (o := .cells #[.string a0_0, .string a0_1] 38 (0, 0)) (pb BK127.out)) (g := gb128) (o := .cells #[.string a1_0, .string a1_1] 38 (0, 0)) (pb BK128.out)) (g := gb129) (o := .cells #[.string a2_0, .string a2_1] 38 (0, 0)) (pb BK129.out)) (below_size (pB HB.out))); replace BK127 := Aside0.mk (blk_below BK127.out hb); replace BK128 := Aside0.mk (blk_below BK128.out hb); replace BK129 := Aside0.mk (blk_below BK129.out hb); replace HB := Aside0.mk (below_step (pB HB.out) hb); clear hb ho179; obtain ⟨Ao180, co180, eo180⟩ := Kd.R_slice HO133.out; subst eo180) | ((with_reducible refine gate_callee (f := 19) rfl ?_); refine goesL_ (some 18) rfl rfl Try.func19 (by kernel_rfl) rfl #[.slice Ao180 y131.length co180] rfl (by (try simp only [List.map_toArray, List.map_cons, List.map_nil]); first | done | rfl | (simp only [List.length_drop, List.length_take]; done) | (simp only [List.length_drop, List.length_take]; rfl)) ?_; (with_reducible refine (gazetteerlaw5_Few.calls k _ _ y131 false _ ?side1 ?side2 A6.out).mono ?_); (case side1 => repeat (first | exact (Kd.R_reads' HO133.out).2.2 | (with_reducible refine Kd.C_alloc ?_ _) | (with_reducible refine Kd.C_drewN ?_ _) | (with_reducible refine Kd.C_drew ?_))); (case side2 => exact (Kd.R_reads' HO133.out).2.1); rintro e w' ⟨rfl, ⟨nd, rfl⟩⟩; refine ⟨_, rfl, ?_⟩))
   go_ret
   exact ⟨by first | rfl | (simp [errW_none, errW_some] <;> rfl) | (simp [*, errW_none, errW_some] <;> rfl), by repeat (first | (with_reducible first | exact HB.out | apply below_alloc | apply pw_below_drewN | apply below_drew1 | refine below_set ?_ GE127.out | refine below_set ?_ GE128.out | refine below_set ?_ GE129.out) | exact HB.out)⟩
  subst c7
  have H1 : ((span_Meet.f a0_0 a0_1 a1_0 a1_1).bind fun bt135 => ((span_Meet.f bt135.1 bt135.2 a2_0 a2_1).bind fun bt137 => ((span_Meet.f a2_0 a2_1 a1_0 a1_1).bind fun bt139 => ((span_Meet.f a0_0 a0_1 bt139.1 bt139.2).bind fun bt141 => (if a0_0.size + 1 ≤ 9223372036854775807 then (if a1_1.size + 1 ≤ 9223372036854775807 then (gazetteerlaw5_SpanMeets.l0 k (([(⟨#[]⟩ : ByteArray), a0_0, a0_1, a1_0, a1_1, a2_0, a2_1, a0_0 ++ (⟨#[0]⟩ : ByteArray), a1_1 ++ (⟨#[120]⟩ : ByteArray), (⟨#[255, 255]⟩ : ByteArray)] : List ByteArray)) 0 a0_0 a0_1 a1_0 a1_1 a2_0 a2_1 bt137.1 bt137.2 bt141.1 bt141.2) else (none)) else (none)))))) = some r := by rw [if_pos rfl] at H; exact H
  clear H
  have H := H1
  clear H1
  replace H := Option.bind_eq_some_iff.mp H
  obtain ⟨⟨t135, t136⟩, A80, H⟩ := H
  replace H : ((span_Meet.f t135 t136 a2_0 a2_1).bind fun bt137 => ((span_Meet.f a2_0 a2_1 a1_0 a1_1).bind fun bt139 => ((span_Meet.f a0_0 a0_1 bt139.1 bt139.2).bind fun bt141 => (if a0_0.size + 1 ≤ 9223372036854775807 then (if a1_1.size + 1 ≤ 9223372036854775807 then (gazetteerlaw5_SpanMeets.l0 k (([(⟨#[]⟩ : ByteArray), a0_0, a0_1, a1_0, a1_1, a2_0, a2_1, a0_0 ++ (⟨#[0]⟩ : ByteArray), a1_1 ++ (⟨#[120]⟩ : ByteArray), (⟨#[255, 255]⟩ : ByteArray)] : List ByteArray)) 0 a0_0 a0_1 a1_0 a1_1 a2_0 a2_1 bt137.1 bt137.2 bt141.1 bt141.2) else (none)) else (none))))) = some r := H
  have A8 := Aside0.mk A80
  clear A80
  replace H := Option.bind_eq_some_iff.mp H
  obtain ⟨⟨t137, t138⟩, A90, H⟩ := H
  replace H : ((span_Meet.f a2_0 a2_1 a1_0 a1_1).bind fun bt139 => ((span_Meet.f a0_0 a0_1 bt139.1 bt139.2).bind fun bt141 => (if a0_0.size + 1 ≤ 9223372036854775807 then (if a1_1.size + 1 ≤ 9223372036854775807 then (gazetteerlaw5_SpanMeets.l0 k (([(⟨#[]⟩ : ByteArray), a0_0, a0_1, a1_0, a1_1, a2_0, a2_1, a0_0 ++ (⟨#[0]⟩ : ByteArray), a1_1 ++ (⟨#[120]⟩ : ByteArray), (⟨#[255, 255]⟩ : ByteArray)] : List ByteArray)) 0 a0_0 a0_1 a1_0 a1_1 a2_0 a2_1 t137 t138 bt141.1 bt141.2) else (none)) else (none)))) = some r := H
  have A9 := Aside0.mk A90
  clear A90
  replace H := Option.bind_eq_some_iff.mp H
  obtain ⟨⟨t139, t140⟩, A100, H⟩ := H
  replace H : ((span_Meet.f a0_0 a0_1 t139 t140).bind fun bt141 => (if a0_0.size + 1 ≤ 9223372036854775807 then (if a1_1.size + 1 ≤ 9223372036854775807 then (gazetteerlaw5_SpanMeets.l0 k (([(⟨#[]⟩ : ByteArray), a0_0, a0_1, a1_0, a1_1, a2_0, a2_1, a0_0 ++ (⟨#[0]⟩ : ByteArray), a1_1 ++ (⟨#[120]⟩ : ByteArray), (⟨#[255, 255]⟩ : ByteArray)] : List ByteArray)) 0 a0_0 a0_1 a1_0 a1_1 a2_0 a2_1 t137 t138 bt141.1 bt141.2) else (none)) else (none))) = some r := H
  have A10 := Aside0.mk A100
  clear A100
  replace H := Option.bind_eq_some_iff.mp H
  obtain ⟨⟨t141, t142⟩, A110, H⟩ := H
  replace H : (if a0_0.size + 1 ≤ 9223372036854775807 then (if a1_1.size + 1 ≤ 9223372036854775807 then (gazetteerlaw5_SpanMeets.l0 k (([(⟨#[]⟩ : ByteArray), a0_0, a0_1, a1_0, a1_1, a2_0, a2_1, a0_0 ++ (⟨#[0]⟩ : ByteArray), a1_1 ++ (⟨#[120]⟩ : ByteArray), (⟨#[255, 255]⟩ : ByteArray)] : List ByteArray)) 0 a0_0 a0_1 a1_0 a1_1 a2_0 a2_1 t137 t138 t141 t142) else (none)) else (none)) = some r := H
  have A11 := Aside0.mk A110
  clear A110
  by_cases c12 : a0_0.size + 1 ≤ 9223372036854775807
  rotate_left
  · rw [if_neg c12] at H
    exact absurd H (by simp)
  rw [if_pos c12] at H
  have c12b0 := eq_true c12
  have c12b1 : decide (a0_0.size + 1 ≤ 9223372036854775807) = true := decide_eq_true c12
  try have c12b2 : (9223372036854775807 < a0_0.size + 1) = False := eq_false (Nat.not_lt.2 c12)
  by_cases c13 : a1_1.size + 1 ≤ 9223372036854775807
  rotate_left
  · rw [if_neg c13] at H
    exact absurd H (by simp)
  rw [if_pos c13] at H
  have c13b0 := eq_true c13
  have c13b1 : decide (a1_1.size + 1 ≤ 9223372036854775807) = true := decide_eq_true c13
  try have c13b2 : (9223372036854775807 < a1_1.size + 1) = False := eq_false (Nat.not_lt.2 c13)
  obtain ⟨y145, hy145⟩ : ∃ y_ : List ByteArray, y_ = (([(⟨#[]⟩ : ByteArray), a0_0, a0_1, a1_0, a1_1, a2_0, a2_1, a0_0 ++ (⟨#[0]⟩ : ByteArray), a1_1 ++ (⟨#[120]⟩ : ByteArray), (⟨#[255, 255]⟩ : ByteArray)] : List ByteArray)) := ⟨_, rfl⟩
  replace H : (gazetteerlaw5_SpanMeets.l0 k y145 0 a0_0 a0_1 a1_0 a1_1 a2_0 a2_1 t137 t138 t141 t142) = some r := by first | (rw [hy145]; with_reducible exact H) | (have H2_ := (Option.bind_some _ _).symm.trans H; rw [hy145]; with_reducible exact H2_) | (have H2_ := (Option.bind_some _ _).symm.trans H; with_reducible exact H2_) | with_reducible exact H | (rw [hy145]; exact H) | exact H
  have Ny145 := Aside0.mk hy145
  clear hy145
  have H' := Aside0.mk H
  clear H
  go_enter Try.func7, Try.ntmps7
  try go_wp2_with (first | ((with_reducible refine gate_dst (N := 3) rfl ?_); refine box_event ?hg (N := 3) ?hd (cs := #[.string a0_0, .string a0_1]) (t := 38) ?hr ?_; (case hd => rfl); (case hg => rfl); (case hr => first | (go_simp; done) | (go_simp; rfl)); intro gb127 hg w14 hbox hb; have BK127 := Aside0.mk (hbox); have GW127 := geL hg HB.out; have GE127 := geL hg HB.out; replace HB := Aside0.mk (below_step (pB HB.out) hb); clear hb hbox hg) | ((with_reducible refine gate_dst (N := 4) rfl ?_); refine box_event ?hg (N := 4) ?hd (cs := #[.string a1_0, .string a1_1]) (t := 38) ?hr ?_; (case hd => rfl); (case hg => rfl); (case hr => first | (go_simp; done) | (go_simp; rfl)); intro gb128 hg w15 hbox hb; have BK128 := Aside0.mk (hbox); have GW128 := geL hg HB.out; have GE128 := geL hg HB.out; have NB127_128 := neL hg BK127.out; have NB128_127 := neG hg BK127.out; replace BK127 := Aside0.mk (blk_below BK127.out hb); replace HB := Aside0.mk (below_step (pB HB.out) hb); clear hb hbox hg) | ((with_reducible refine gate_dst (N := 5) rfl ?_); refine box_event ?hg (N := 5) ?hd (cs := #[.string a2_0, .string a2_1]) (t := 38) ?hr ?_; (case hd => rfl); (case hg => rfl); (case hr => first | (go_simp; done) | (go_simp; rfl)); intro gb129 hg w16 hbox hb; have BK129 := Aside0.mk (hbox); have GW129 := geL hg HB.out; have GE129 := geL hg HB.out; have NB127_129 := neL hg BK127.out; have NB129_127 := neG hg BK127.out; have NB128_129 := neL hg BK128.out; have NB129_128 := neG hg BK128.out; replace BK127 := Aside0.mk (blk_below BK127.out hb); replace BK128 := Aside0.mk (blk_below BK128.out hb); replace HB := Aside0.mk (below_step (pB HB.out) hb); clear hb hbox hg) | ((with_reducible refine gate_callee (f := 15) rfl ?_); refine goesL_ (some 12) rfl rfl Try.func15 (by kernel_rfl) rfl #[] rfl (by (try simp only [List.map_toArray, List.map_cons, List.map_nil]); first | done | rfl | (simp only [List.length_drop, List.length_take]; done) | (simp only [List.length_drop, List.length_take]; rfl)) ?_; (with_reducible refine (gazetteerlaw5_awake.calls k  true _ A4.out).mono ?_); rintro e w17 ⟨rfl, hb⟩; refine ⟨_, rfl, ?_⟩; replace BK127 := Aside0.mk (blk_below BK127.out hb); replace BK128 := Aside0.mk (blk_below BK128.out hb); replace BK129 := Aside0.mk (blk_below BK129.out hb); replace HB := Aside0.mk (below_step (pB HB.out) hb); (try clear hb); (try clear hb2); (try clear hk); (try clear hi); have hnb18 := NB127_128.out; have hnc18 := NB128_127.out; have hnb19 := NB127_129.out; have hnc19 := NB129_127.out; have hcz20_0 : w17.cell? ⟨gb127, 0, none⟩ = some (.string a0_0) := blk_cell BK127.out 0; have hcz20_1 : w17.cell? ⟨gb127, 1, none⟩ = some (.string a0_1) := blk_cell BK127.out 1; have hfz20_0 := blk_frozen BK127.out 0; have hfz20_1 := blk_frozen BK127.out 1; have hnb21 := NB128_129.out; have hnc21 := NB129_128.out; have hcz22_0 : w17.cell? ⟨gb128, 0, none⟩ = some (.string a1_0) := blk_cell BK128.out 0; have hcz22_1 : w17.cell? ⟨gb128, 1, none⟩ = some (.string a1_1) := blk_cell BK128.out 1; have hfz22_0 := blk_frozen BK128.out 0; have hfz22_1 := blk_frozen BK128.out 1; have hcz23_0 : w17.cell? ⟨gb129, 0, none⟩ = some (.string a2_0) := blk_cell BK129.out 0; have hcz23_1 : w17.cell? ⟨gb129, 1, none⟩ = some (.string a2_1) := blk_cell BK129.out 1; have hfz23_0 := blk_frozen BK129.out 0; have hfz23_1 := blk_frozen BK129.out 1) | ((with_reducible refine gate_dst (N := 17) rfl ?_); refine Kd.R_lit k38 _ 38 ?hg (N := 17) ?hd (xs := ([(⟨a0_0, a0_1⟩ : S38), (⟨a1_0, a1_1⟩ : S38), (⟨a2_0, a2_1⟩ : S38)] : List (S38))) (inner := [.string a0_0, .string a0_1, .string a1_0, .string a1_1, .string a2_0, .string a2_1]) (ok := fun _ => True) (okp := fun _ => True) ?hr ?hp (fun _ hk => hk) trivial (Below.refl _ _) (Nat.le_refl _) (by simp) ?_; (case hd => rfl); (case hg => rfl); (case hr => first | (go_simp; done) | (go_simp; rfl)); (case hp => exact (Reps.c2 (show Kd.M k38 _ _ _ (⟨a0_0, a0_1⟩ : S38) [.string a0_0, .string a0_1] from (k38_mkM _ _ _ (⟨a0_0, a0_1⟩ : S38) )) (Reps.c2 (show Kd.M k38 _ _ _ (⟨a1_0, a1_1⟩ : S38) [.string a1_0, .string a1_1] from (k38_mkM _ _ _ (⟨a1_0, a1_1⟩ : S38) )) (Reps.c2 (show Kd.M k38 _ _ _ (⟨a2_0, a2_1⟩ : S38) [.string a2_0, .string a2_1] from (k38_mkM _ _ _ (⟨a2_0, a2_1⟩ : S38) )) (Reps.none _ _))))); intro v132 w24 ho25 hb hg_ hnew_; clear hg_ hnew_; (first | rw [← Ny131.out] at ho25 | (simp only [Int.reduceToNat] at ho25; rw [← Ny131.out] at ho25)); have HO133 := Aside0.mk (Kd.R_lower (Kd.R_newB (Kd.R_newB (Kd.R_newB ho25 (g := gb127) (o := .cells #[.string a0_0, .string a0_1] 38 (0, 0)) (pb BK127.out)) (g := gb128) (o := .cells #[.string a1_0, .string a1_1] 38 (0, 0)) (pb BK128.out)) (g := gb129) (o := .cells #[.string a2_0, .string a2_1] 38 (0, 0)) (pb BK129.out)) (below_size (pB HB.out))); replace BK127 := Aside0.mk (blk_below BK127.out hb); replace BK128 := Aside0.mk (blk_below BK128.out hb); replace BK129 := Aside0.mk (blk_below BK129.out hb); replace HB := Aside0.mk (below_step (pB HB.out) hb); clear hb ho25; obtain ⟨Ao26, co26, eo26⟩ := Kd.R_slice HO133.out; subst eo26) | ((with_reducible refine gate_callee (f := 19) rfl ?_); refine goesL_ (some 18) rfl rfl Try.func19 (by kernel_rfl) rfl #[.slice Ao26 y131.length co26] rfl (by (try simp only [List.map_toArray, List.map_cons, List.map_nil]); first | done | rfl | (simp only [List.length_drop, List.length_take]; done) | (simp only [List.length_drop, List.length_take]; rfl)) ?_; (with_reducible refine (gazetteerlaw5_Few.calls k _ _ y131 true _ ?side1 ?side2 A6.out).mono ?_); (case side1 => repeat (first | exact (Kd.R_reads' HO133.out).2.2 | (with_reducible refine Kd.C_alloc ?_ _) | (with_reducible refine Kd.C_drewN ?_ _) | (with_reducible refine Kd.C_drew ?_))); (case side2 => exact (Kd.R_reads' HO133.out).2.1); rintro e w' ⟨rfl, ⟨nd, rfl⟩⟩; refine ⟨_, rfl, ?_⟩; (try (rw [drewN_self w24]; generalize hq_ : World.drewN w24 _ = w24; have n0_ : Aside0 (Kd.R k38 38 w24 w.heap.size (fun k_ => k_ ≠ gb127 ∧ k_ ≠ gb128 ∧ k_ ≠ gb129) (.slice Ao26 y131.length co26) y131) := ⟨by rw [← hq_]; exact (by (with_reducible repeat (first | apply Kd.R_alloc | apply Kd.R_drewN | apply Kd.R_drew)); exact Kd.R_mono HO133.out (fun _ hk => by omega))⟩; have n1_ : Aside0 (w24.heap[gb127]? = some (.cells #[.string a0_0, .string a0_1] 38 (0, 0))) := ⟨by rw [← hq_]; exact (pb BK127.out)⟩; have n2_ : Aside0 (w24.heap[gb128]? = some (.cells #[.string a1_0, .string a1_1] 38 (0, 0))) := ⟨by rw [← hq_]; exact (pb BK128.out)⟩; have n3_ : Aside0 (w24.heap[gb129]? = some (.cells #[.string a2_0, .string a2_1] 38 (0, 0))) := ⟨by rw [← hq_]; exact (pb BK129.out)⟩; have n4_ : Aside0 (Below w.heap.size w w24) := ⟨by rw [← hq_]; exact (pB HB.out)⟩; clear HO133 BK127 BK128 BK129 HB hq_; have HO133 := n0_; have BK127 := n1_; have BK128 := n2_; have BK129 := n3_; have HB := n4_; clear n0_ n1_ n2_ n3_ n4_))))
  replace HO133 := Aside0.mk (Kd.R_drew HO133.out)
  replace BK127 := Aside0.mk (blk_drew BK127.out)
  replace BK128 := Aside0.mk (blk_drew BK128.out)
  replace BK129 := Aside0.mk (blk_drew BK129.out)
  replace HB := Aside0.mk (below_drew1 HB.out)
  refine start_ (n := 14) (S := fun w' => w'.cell? ⟨gb127, 0, none⟩ = some (.string a0_0) ∧ w'.cell? ⟨gb127, 1, none⟩ = some (.string a0_1) ∧ w'.cell? ⟨gb128, 0, none⟩ = some (.string a1_0) ∧ w'.cell? ⟨gb128, 1, none⟩ = some (.string a1_1) ∧ w'.cell? ⟨gb129, 0, none⟩ = some (.string a2_0) ∧ w'.cell? ⟨gb129, 1, none⟩ = some (.string a2_1)) (ds := []) #[false, false, false, false, false, false, false, false, false, false, false, false, false, false] (by kernel_rfl) rfl rfl ⟨blk_cell BK127.out 0, blk_cell BK127.out 1, blk_cell BK128.out 0, blk_cell BK128.out 1, blk_cell BK129.out 0, blk_cell BK129.out 1⟩ (fun hHeld => ?_); refine with_tabW gazetteerlaw5_SpanMeets.tab5 gazetteerlaw5_SpanMeets.bits5 (fun HT_ HW_ => ?_)
  generalize w24.drew = w27 at HO133 BK127 BK128 BK129 HB hHeld ⊢
  refine take_ (i := 0) (N := some 20) (v := ?_) (a' := ?_) #[true, false, false, false, false, false, false, false, false, false, false, false, false, false] rfl rfl (take_ofW HT_.out HW_.out (by kernel_rfl)) (fun _ _ _ h => h) (Or.inl ⟨by rfl, ?_⟩) hHeld ?_ ?_
  rotate_left
  · rintro w' ⟨s0, s1, s2, s3, s4, s5⟩; go_simp; with_reducible rfl
  rotate_left
  · simp only [Act.put, List.setIfInBounds_toArray, List.set_cons_zero, List.set_cons_succ, i64_w, i32_w]; rfl
  refine take_ (i := 1) (N := some 21) (v := ?_) (a' := ?_) #[true, true, false, false, false, false, false, false, false, false, false, false, false, false] rfl rfl (take_ofW HT_.out HW_.out (by kernel_rfl)) (fun _ _ _ h => h) (Or.inl ⟨by rfl, ?_⟩) hHeld ?_ ?_
  rotate_left
  · rintro w' ⟨s0, s1, s2, s3, s4, s5⟩; go_simp; with_reducible rfl
  rotate_left
  · simp only [Act.put, List.setIfInBounds_toArray, List.set_cons_zero, List.set_cons_succ, i64_w, i32_w]; rfl
  refine take_ (i := 3) (N := some 23) (v := ?_) (a' := ?_) #[true, true, false, true, false, false, false, false, false, false, false, false, false, false] rfl rfl (take_ofW HT_.out HW_.out (by kernel_rfl)) (fun _ _ _ h => h) (Or.inl ⟨by rfl, ?_⟩) hHeld ?_ ?_
  rotate_left
  · rintro w' ⟨s0, s1, s2, s3, s4, s5⟩; go_simp; with_reducible rfl
  rotate_left
  · simp only [Act.put, List.setIfInBounds_toArray, List.set_cons_zero, List.set_cons_succ, i64_w, i32_w]; rfl
  refine take_ (i := 5) (N := some 25) (v := ?_) (a' := ?_) #[true, true, false, true, false, true, false, false, false, false, false, false, false, false] rfl rfl (take_ofW HT_.out HW_.out (by kernel_rfl)) (fun _ _ _ h => h) (Or.inl ⟨by rfl, ?_⟩) hHeld ?_ ?_
  rotate_left
  · rintro w' ⟨s0, s1, s2, s3, s4, s5⟩; go_simp; with_reducible rfl
  rotate_left
  · simp only [Act.put, List.setIfInBounds_toArray, List.set_cons_zero, List.set_cons_succ, i64_w, i32_w]; rfl
  refine take_ (i := 6) (N := some 26) (v := ?_) (a' := ?_) #[true, true, false, true, false, true, true, false, false, false, false, false, false, false] rfl rfl (take_ofW HT_.out HW_.out (by kernel_rfl)) (fun _ _ _ h => h) (Or.inl ⟨by rfl, ?_⟩) hHeld ?_ ?_
  rotate_left
  · rintro w' ⟨s0, s1, s2, s3, s4, s5⟩; go_simp; with_reducible rfl
  rotate_left
  · simp only [Act.put, List.setIfInBounds_toArray, List.set_cons_zero, List.set_cons_succ, i64_w, i32_w]; rfl
  refine take_ (i := 7) (N := some 27) (v := ?_) (a' := ?_) #[true, true, false, true, false, true, true, true, false, false, false, false, false, false] rfl rfl (take_ofW HT_.out HW_.out (by kernel_rfl)) (fun _ _ _ h => h) (Or.inl ⟨by rfl, ?_⟩) hHeld ?_ ?_
  rotate_left
  · rintro w' ⟨s0, s1, s2, s3, s4, s5⟩; go_simp; with_reducible rfl
  rotate_left
  · simp only [Act.put, List.setIfInBounds_toArray, List.set_cons_zero, List.set_cons_succ, i64_w, i32_w]; rfl
  refine join_ (σ := Nat × Nat) 2 #[true, true, true, true, true, true, true, true, true, true, true, true, false, false] (fun s_ => [(22, .agg #[.string t135, .string t136]), (24, .agg #[.string t137, .string t138]), (28, .agg #[.string t139, .string t140]), (29, .agg #[.string t141, .string t142]), (7, .pointer (some ⟨s_.1, 0, none⟩)), (8, .pointer (some ⟨s_.2, 0, none⟩))]) (fun s_ w' => (w'.cell? ⟨gb127, 0, none⟩ = some (.string a0_0) ∧ w'.cell? ⟨gb127, 1, none⟩ = some (.string a0_1) ∧ w'.cell? ⟨gb128, 0, none⟩ = some (.string a1_0) ∧ w'.cell? ⟨gb128, 1, none⟩ = some (.string a1_1) ∧ w'.cell? ⟨gb129, 0, none⟩ = some (.string a2_0) ∧ w'.cell? ⟨gb129, 1, none⟩ = some (.string a2_1)) ∧ (Kd.R k38 38 w' w.heap.size (fun k_ => k_ ≠ gb127 ∧ k_ ≠ gb128 ∧ k_ ≠ gb129 ∧ k_ ≠ s_.1 ∧ k_ ≠ s_.2) (.slice Ao26 y131.length co26) y131) ∧ (w'.heap[gb127]? = some (.cells #[.string a0_0, .string a0_1] 38 (0, 0))) ∧ (w'.heap[gb128]? = some (.cells #[.string a1_0, .string a1_1] 38 (0, 0))) ∧ (w'.heap[gb129]? = some (.cells #[.string a2_0, .string a2_1] 38 (0, 0))) ∧ (w'.heap[s_.1]? = some (.cells #[.string (⟨#[]⟩ : ByteArray), .string (⟨#[]⟩ : ByteArray)] 38 (0, 0))) ∧ (w'.heap[s_.2]? = some (.cells #[.string (⟨#[]⟩ : ByteArray), .string (⟨#[]⟩ : ByteArray)] 38 (0, 0))) ∧ (w.heap.size ≤ s_.1) ∧ (w.heap.size ≤ s_.1) ∧ (gb127 ≠ s_.1) ∧ (s_.1 ≠ gb127) ∧ (gb128 ≠ s_.1) ∧ (s_.1 ≠ gb128) ∧ (gb129 ≠ s_.1) ∧ (s_.1 ≠ gb129) ∧ (s_.2 ≠ s_.1) ∧ (s_.1 ≠ s_.2) ∧ (w.heap.size ≤ s_.2) ∧ (w.heap.size ≤ s_.2) ∧ (gb127 ≠ s_.2) ∧ (s_.2 ≠ gb127) ∧ (gb128 ≠ s_.2) ∧ (s_.2 ≠ gb128) ∧ (gb129 ≠ s_.2) ∧ (s_.2 ≠ gb129) ∧ (Below w.heap.size w w')) ?_ ?_
  rotate_left
  ·
   intro hJ2_4_8_9_10_11
   refine join_ (σ := Nat) 3 #[true, true, true, true, true, true, true, true, true, true, true, false, false, false] (fun s_ => [(22, .agg #[.string t135, .string t136]), (24, .agg #[.string t137, .string t138]), (28, .agg #[.string t139, .string t140]), (29, .agg #[.string t141, .string t142]), (7, .pointer (some ⟨s_, 0, none⟩))]) (fun s_ w' => (w'.cell? ⟨gb127, 0, none⟩ = some (.string a0_0) ∧ w'.cell? ⟨gb127, 1, none⟩ = some (.string a0_1) ∧ w'.cell? ⟨gb128, 0, none⟩ = some (.string a1_0) ∧ w'.cell? ⟨gb128, 1, none⟩ = some (.string a1_1) ∧ w'.cell? ⟨gb129, 0, none⟩ = some (.string a2_0) ∧ w'.cell? ⟨gb129, 1, none⟩ = some (.string a2_1)) ∧ (Kd.R k38 38 w' w.heap.size (fun k_ => k_ ≠ gb127 ∧ k_ ≠ gb128 ∧ k_ ≠ gb129 ∧ k_ ≠ s_) (.slice Ao26 y131.length co26) y131) ∧ (w'.heap[gb127]? = some (.cells #[.string a0_0, .string a0_1] 38 (0, 0))) ∧ (w'.heap[gb128]? = some (.cells #[.string a1_0, .string a1_1] 38 (0, 0))) ∧ (w'.heap[gb129]? = some (.cells #[.string a2_0, .string a2_1] 38 (0, 0))) ∧ (w'.heap[s_]? = some (.cells #[.string (⟨#[]⟩ : ByteArray), .string (⟨#[]⟩ : ByteArray)] 38 (0, 0))) ∧ (w.heap.size ≤ s_) ∧ (w.heap.size ≤ s_) ∧ (gb127 ≠ s_) ∧ (s_ ≠ gb127) ∧ (gb128 ≠ s_) ∧ (s_ ≠ gb128) ∧ (gb129 ≠ s_) ∧ (s_ ≠ gb129) ∧ (Below w.heap.size w w')) ?_ ?_
   ·
    skip
    rintro gb143 w33 ⟨hS_, h0_, h1_, h2_, h3_, h4_, h5_, h6_, h7_, h8_, h9_, h10_, h11_, h12_, h13_⟩
    clear HO133 BK127 BK128 BK129 HB
    (try dsimp only at h0_ h1_ h2_ h3_ h4_ h5_ h6_ h7_ h8_ h9_ h10_ h11_ h12_ h13_)
    have HO133 := Aside0.mk h0_
    have BK127 := Aside0.mk h1_
    have BK128 := Aside0.mk h2_
    have BK129 := Aside0.mk h3_
    have BK143 := Aside0.mk h4_
    have GW143 := Aside0.mk h5_
    have GE143 := Aside0.mk h6_
    have NB127_143 := Aside0.mk h7_
    have NB143_127 := Aside0.mk h8_
    have NB128_143 := Aside0.mk h9_
    have NB143_128 := Aside0.mk h10_
    have NB129_143 := Aside0.mk h11_
    have NB143_129 := Aside0.mk h12_
    have HB := Aside0.mk h13_
    clear h0_ h1_ h2_ h3_ h4_ h5_ h6_ h7_ h8_ h9_ h10_ h11_ h12_ h13_
    have hHeld : w33.cell? ⟨gb127, 0, none⟩ = some (.string a0_0) ∧ w33.cell? ⟨gb127, 1, none⟩ = some (.string a0_1) ∧ w33.cell? ⟨gb128, 0, none⟩ = some (.string a1_0) ∧ w33.cell? ⟨gb128, 1, none⟩ = some (.string a1_1) ∧ w33.cell? ⟨gb129, 0, none⟩ = some (.string a2_0) ∧ w33.cell? ⟨gb129, 1, none⟩ = some (.string a2_1) := hS_
    refine norm_ (a' := ?_) ?_ ?_
    rotate_left
    · simp only [putAll, Act.put, List.setIfInBounds_toArray, List.set_cons_zero, List.set_cons_succ]; rfl
    refine one_ (i := 11) (N := some 8) #[true, true, true, true, true, true, true, true, true, true, true, true, false, false] rfl rfl (one_of HT_.out (by kernel_rfl)) (by decide) (fun K hK => ?_)
    refine box_step ?hg (N := 8) ?hd (cs := #[.string (⟨#[]⟩ : ByteArray), .string (⟨#[]⟩ : ByteArray)]) (t := 38) ?hr ?_; (case hd => rfl); (case hg => rfl); (case hr => first | (go_simp; done) | (go_simp; rfl))
    intro gb144 hg w34 hbox hb
    have BK144 := Aside0.mk (hbox)
    have GW144 := geL hg HB.out
    have GE144 := geL hg HB.out
    have NB127_144 := neL hg BK127.out
    have NB144_127 := neG hg BK127.out
    have NB128_144 := neL hg BK128.out
    have NB144_128 := neG hg BK128.out
    have NB129_144 := neL hg BK129.out
    have NB144_129 := neG hg BK129.out
    have NB143_144 := neL hg BK143.out
    have NB144_143 := neG hg BK143.out
    replace HO133 := Aside0.mk (Kd.R_below (Kd.R_elderB (pR HO133.out) gb144 (Nat.le_of_eq hg.symm)) hb)
    replace BK127 := Aside0.mk (blk_below BK127.out hb)
    replace BK128 := Aside0.mk (blk_below BK128.out hb)
    replace BK129 := Aside0.mk (blk_below BK129.out hb)
    replace BK143 := Aside0.mk (blk_below BK143.out hb)
    replace HB := Aside0.mk (below_step (pB HB.out) hb)
    clear hb hbox hg
    refine hK.out _ _ ⟨blk_cell BK127.out 0, blk_cell BK127.out 1, blk_cell BK128.out 0, blk_cell BK128.out 1, blk_cell BK129.out 0, blk_cell BK129.out 1⟩ (fun hHeld => ?_)
    clear hK K
    refine norm_ (a' := ?_) ?_ ?_
    rotate_left
    · show Act.put _ (some 8) _ = _; simp only [Act.put, List.setIfInBounds_toArray, List.set_cons_zero, List.set_cons_succ, i64_w, i32_w]; rfl
    exact norm_ rfl (hJ2_4_8_9_10_11 (gb143, gb144) _ ⟨hHeld, (by (with_reducible repeat (first | apply Kd.R_alloc | apply Kd.R_drewN | apply Kd.R_drew)); exact Kd.R_mono HO133.out (fun _ hk => by omega)), (pb BK127.out), (pb BK128.out), (pb BK129.out), (pb BK143.out), (pb BK144.out), GW143.out, GE143.out, NB127_143.out, NB143_127.out, NB128_143.out, NB143_128.out, NB129_143.out, NB143_129.out, NB144_143.out, NB143_144.out, GW144.out, GE144.out, NB127_144.out, NB144_127.out, NB128_144.out, NB144_128.out, NB129_144.out, NB144_129.out, (pB HB.out)⟩)
   intro hJ2_4_8_9_10
   refine join_ (σ := Nat) 3 #[true, true, true, true, true, true, true, true, true, true, false, true, false, false] (fun s_ => [(22, .agg #[.string t135, .string t136]), (24, .agg #[.string t137, .string t138]), (28, .agg #[.string t139, .string t140]), (29, .agg #[.string t141, .string t142]), (8, .pointer (some ⟨s_, 0, none⟩))]) (fun s_ w' => (w'.cell? ⟨gb127, 0, none⟩ = some (.string a0_0) ∧ w'.cell? ⟨gb127, 1, none⟩ = some (.string a0_1) ∧ w'.cell? ⟨gb128, 0, none⟩ = some (.string a1_0) ∧ w'.cell? ⟨gb128, 1, none⟩ = some (.string a1_1) ∧ w'.cell? ⟨gb129, 0, none⟩ = some (.string a2_0) ∧ w'.cell? ⟨gb129, 1, none⟩ = some (.string a2_1)) ∧ (Kd.R k38 38 w' w.heap.size (fun k_ => k_ ≠ gb127 ∧ k_ ≠ gb128 ∧ k_ ≠ gb129 ∧ k_ ≠ s_) (.slice Ao26 y131.length co26) y131) ∧ (w'.heap[gb127]? = some (.cells #[.string a0_0, .string a0_1] 38 (0, 0))) ∧ (w'.heap[gb128]? = some (.cells #[.string a1_0, .string a1_1] 38 (0, 0))) ∧ (w'.heap[gb129]? = some (.cells #[.string a2_0, .string a2_1] 38 (0, 0))) ∧ (w'.heap[s_]? = some (.cells #[.string (⟨#[]⟩ : ByteArray), .string (⟨#[]⟩ : ByteArray)] 38 (0, 0))) ∧ (w.heap.size ≤ s_) ∧ (w.heap.size ≤ s_) ∧ (gb127 ≠ s_) ∧ (s_ ≠ gb127) ∧ (gb128 ≠ s_) ∧ (s_ ≠ gb128) ∧ (gb129 ≠ s_) ∧ (s_ ≠ gb129) ∧ (Below w.heap.size w w')) ?_ ?_
   ·
    skip
    rintro gb144 w33 ⟨hS_, h0_, h1_, h2_, h3_, h4_, h5_, h6_, h7_, h8_, h9_, h10_, h11_, h12_, h13_⟩
    clear HO133 BK127 BK128 BK129 HB
    (try dsimp only at h0_ h1_ h2_ h3_ h4_ h5_ h6_ h7_ h8_ h9_ h10_ h11_ h12_ h13_)
    have HO133 := Aside0.mk h0_
    have BK127 := Aside0.mk h1_
    have BK128 := Aside0.mk h2_
    have BK129 := Aside0.mk h3_
    have BK144 := Aside0.mk h4_
    have GW144 := Aside0.mk h5_
    have GE144 := Aside0.mk h6_
    have NB127_144 := Aside0.mk h7_
    have NB144_127 := Aside0.mk h8_
    have NB128_144 := Aside0.mk h9_
    have NB144_128 := Aside0.mk h10_
    have NB129_144 := Aside0.mk h11_
    have NB144_129 := Aside0.mk h12_
    have HB := Aside0.mk h13_
    clear h0_ h1_ h2_ h3_ h4_ h5_ h6_ h7_ h8_ h9_ h10_ h11_ h12_ h13_
    have hHeld : w33.cell? ⟨gb127, 0, none⟩ = some (.string a0_0) ∧ w33.cell? ⟨gb127, 1, none⟩ = some (.string a0_1) ∧ w33.cell? ⟨gb128, 0, none⟩ = some (.string a1_0) ∧ w33.cell? ⟨gb128, 1, none⟩ = some (.string a1_1) ∧ w33.cell? ⟨gb129, 0, none⟩ = some (.string a2_0) ∧ w33.cell? ⟨gb129, 1, none⟩ = some (.string a2_1) := hS_
    refine norm_ (a' := ?_) ?_ ?_
    rotate_left
    · simp only [putAll, Act.put, List.setIfInBounds_toArray, List.set_cons_zero, List.set_cons_succ]; rfl
    refine one_ (i := 10) (N := some 7) #[true, true, true, true, true, true, true, true, true, true, true, true, false, false] rfl rfl (one_of HT_.out (by kernel_rfl)) (by decide) (fun K hK => ?_)
    refine box_step ?hg (N := 7) ?hd (cs := #[.string (⟨#[]⟩ : ByteArray), .string (⟨#[]⟩ : ByteArray)]) (t := 38) ?hr ?_; (case hd => rfl); (case hg => rfl); (case hr => first | (go_simp; done) | (go_simp; rfl))
    intro gb143 hg w34 hbox hb
    have BK143 := Aside0.mk (hbox)
    have GW143 := geL hg HB.out
    have GE143 := geL hg HB.out
    have NB127_143 := neL hg BK127.out
    have NB143_127 := neG hg BK127.out
    have NB128_143 := neL hg BK128.out
    have NB143_128 := neG hg BK128.out
    have NB129_143 := neL hg BK129.out
    have NB143_129 := neG hg BK129.out
    have NB144_143 := neL hg BK144.out
    have NB143_144 := neG hg BK144.out
    replace HO133 := Aside0.mk (Kd.R_below (Kd.R_elderB (pR HO133.out) gb143 (Nat.le_of_eq hg.symm)) hb)
    replace BK127 := Aside0.mk (blk_below BK127.out hb)
    replace BK128 := Aside0.mk (blk_below BK128.out hb)
    replace BK129 := Aside0.mk (blk_below BK129.out hb)
    replace BK144 := Aside0.mk (blk_below BK144.out hb)
    replace HB := Aside0.mk (below_step (pB HB.out) hb)
    clear hb hbox hg
    refine hK.out _ _ ⟨blk_cell BK127.out 0, blk_cell BK127.out 1, blk_cell BK128.out 0, blk_cell BK128.out 1, blk_cell BK129.out 0, blk_cell BK129.out 1⟩ (fun hHeld => ?_)
    clear hK K
    refine norm_ (a' := ?_) ?_ ?_
    rotate_left
    · show Act.put _ (some 7) _ = _; simp only [Act.put, List.setIfInBounds_toArray, List.set_cons_zero, List.set_cons_succ, i64_w, i32_w]; rfl
    exact norm_ rfl (hJ2_4_8_9_10_11 (gb143, gb144) _ ⟨hHeld, (by (with_reducible repeat (first | apply Kd.R_alloc | apply Kd.R_drewN | apply Kd.R_drew)); exact Kd.R_mono HO133.out (fun _ hk => by omega)), (pb BK127.out), (pb BK128.out), (pb BK129.out), (pb BK143.out), (pb BK144.out), GW143.out, GE143.out, NB127_143.out, NB143_127.out, NB128_143.out, NB143_128.out, NB129_143.out, NB143_129.out, NB144_143.out, NB143_144.out, GW144.out, GE144.out, NB127_144.out, NB144_127.out, NB128_144.out, NB144_128.out, NB129_144.out, NB144_129.out, (pB HB.out)⟩)
   intro hJ2_4_8_9_11
   refine join_ (σ := Nat × Nat) 3 #[true, true, true, true, true, true, true, true, true, false, true, true, false, false] (fun s_ => [(22, .agg #[.string t135, .string t136]), (24, .agg #[.string t137, .string t138]), (28, .agg #[.string t139, .string t140]), (7, .pointer (some ⟨s_.1, 0, none⟩)), (8, .pointer (some ⟨s_.2, 0, none⟩))]) (fun s_ w' => (w'.cell? ⟨gb127, 0, none⟩ = some (.string a0_0) ∧ w'.cell? ⟨gb127, 1, none⟩ = some (.string a0_1) ∧ w'.cell? ⟨gb128, 0, none⟩ = some (.string a1_0) ∧ w'.cell? ⟨gb128, 1, none⟩ = some (.string a1_1) ∧ w'.cell? ⟨gb129, 0, none⟩ = some (.string a2_0) ∧ w'.cell? ⟨gb129, 1, none⟩ = some (.string a2_1)) ∧ (Kd.R k38 38 w' w.heap.size (fun k_ => k_ ≠ gb127 ∧ k_ ≠ gb128 ∧ k_ ≠ gb129 ∧ k_ ≠ s_.1 ∧ k_ ≠ s_.2) (.slice Ao26 y131.length co26) y131) ∧ (w'.heap[gb127]? = some (.cells #[.string a0_0, .string a0_1] 38 (0, 0))) ∧ (w'.heap[gb128]? = some (.cells #[.string a1_0, .string a1_1] 38 (0, 0))) ∧ (w'.heap[gb129]? = some (.cells #[.string a2_0, .string a2_1] 38 (0, 0))) ∧ (w'.heap[s_.1]? = some (.cells #[.string (⟨#[]⟩ : ByteArray), .string (⟨#[]⟩ : ByteArray)] 38 (0, 0))) ∧ (w'.heap[s_.2]? = some (.cells #[.string (⟨#[]⟩ : ByteArray), .string (⟨#[]⟩ : ByteArray)] 38 (0, 0))) ∧ (w.heap.size ≤ s_.1) ∧ (w.heap.size ≤ s_.1) ∧ (gb127 ≠ s_.1) ∧ (s_.1 ≠ gb127) ∧ (gb128 ≠ s_.1) ∧ (s_.1 ≠ gb128) ∧ (gb129 ≠ s_.1) ∧ (s_.1 ≠ gb129) ∧ (s_.2 ≠ s_.1) ∧ (s_.1 ≠ s_.2) ∧ (w.heap.size ≤ s_.2) ∧ (w.heap.size ≤ s_.2) ∧ (gb127 ≠ s_.2) ∧ (s_.2 ≠ gb127) ∧ (gb128 ≠ s_.2) ∧ (s_.2 ≠ gb128) ∧ (gb129 ≠ s_.2) ∧ (s_.2 ≠ gb129) ∧ (Below w.heap.size w w')) ?_ ?_
   ·
    skip
    rintro ⟨gb143, gb144⟩ w33 ⟨hS_, h0_, h1_, h2_, h3_, h4_, h5_, h6_, h7_, h8_, h9_, h10_, h11_, h12_, h13_, h14_, h15_, h16_, h17_, h18_, h19_, h20_, h21_, h22_, h23_, h24_⟩
    clear HO133 BK127 BK128 BK129 HB
    (try dsimp only at h0_ h1_ h2_ h3_ h4_ h5_ h6_ h7_ h8_ h9_ h10_ h11_ h12_ h13_ h14_ h15_ h16_ h17_ h18_ h19_ h20_ h21_ h22_ h23_ h24_)
    have HO133 := Aside0.mk h0_
    have BK127 := Aside0.mk h1_
    have BK128 := Aside0.mk h2_
    have BK129 := Aside0.mk h3_
    have BK143 := Aside0.mk h4_
    have BK144 := Aside0.mk h5_
    have GW143 := Aside0.mk h6_
    have GE143 := Aside0.mk h7_
    have NB127_143 := Aside0.mk h8_
    have NB143_127 := Aside0.mk h9_
    have NB128_143 := Aside0.mk h10_
    have NB143_128 := Aside0.mk h11_
    have NB129_143 := Aside0.mk h12_
    have NB143_129 := Aside0.mk h13_
    have NB144_143 := Aside0.mk h14_
    have NB143_144 := Aside0.mk h15_
    have GW144 := Aside0.mk h16_
    have GE144 := Aside0.mk h17_
    have NB127_144 := Aside0.mk h18_
    have NB144_127 := Aside0.mk h19_
    have NB128_144 := Aside0.mk h20_
    have NB144_128 := Aside0.mk h21_
    have NB129_144 := Aside0.mk h22_
    have NB144_129 := Aside0.mk h23_
    have HB := Aside0.mk h24_
    clear h0_ h1_ h2_ h3_ h4_ h5_ h6_ h7_ h8_ h9_ h10_ h11_ h12_ h13_ h14_ h15_ h16_ h17_ h18_ h19_ h20_ h21_ h22_ h23_ h24_
    have hHeld : w33.cell? ⟨gb127, 0, none⟩ = some (.string a0_0) ∧ w33.cell? ⟨gb127, 1, none⟩ = some (.string a0_1) ∧ w33.cell? ⟨gb128, 0, none⟩ = some (.string a1_0) ∧ w33.cell? ⟨gb128, 1, none⟩ = some (.string a1_1) ∧ w33.cell? ⟨gb129, 0, none⟩ = some (.string a2_0) ∧ w33.cell? ⟨gb129, 1, none⟩ = some (.string a2_1) := hS_
    refine norm_ (a' := ?_) ?_ ?_
    rotate_left
    · simp only [putAll, Act.put, List.setIfInBounds_toArray, List.set_cons_zero, List.set_cons_succ]; rfl
    refine one_ (i := 9) (N := some 29) #[true, true, true, true, true, true, true, true, true, true, true, true, false, false] rfl rfl (one_of HT_.out (by kernel_rfl)) (by decide) (fun K hK => ?_)
    refine goes_ Try.func20 (by kernel_rfl) rfl #[.agg #[.string a0_0, .string a0_1], .agg #[.string t139, .string t140]] (by rfl) rfl rfl (by (try simp only [List.map_toArray, List.map_cons, List.map_nil]); first | done | rfl | (simp only [List.length_drop, List.length_take]; done) | (simp only [List.length_drop, List.length_take]; rfl)) ?_
    with_reducible refine (span_Meet.calls a0_0 a0_1 t139 t140 t141 t142 _ A11.out).mono ?_
    rintro e w34 ⟨rfl, hb⟩
    refine ⟨_, rfl, ?_⟩
    replace HO133 := Aside0.mk (Kd.R_below (pR HO133.out) hb)
    replace BK127 := Aside0.mk (blk_below BK127.out hb)
    replace BK128 := Aside0.mk (blk_below BK128.out hb)
    replace BK129 := Aside0.mk (blk_below BK129.out hb)
    replace BK143 := Aside0.mk (blk_below BK143.out hb)
    replace BK144 := Aside0.mk (blk_below BK144.out hb)
    replace HB := Aside0.mk (below_step (pB HB.out) hb)
    (try clear hb)
    (try clear hb2)
    (try clear hk)
    (try clear hi)
    refine hK.out _ _ ⟨blk_cell BK127.out 0, blk_cell BK127.out 1, blk_cell BK128.out 0, blk_cell BK128.out 1, blk_cell BK129.out 0, blk_cell BK129.out 1⟩ (fun hHeld => ?_)
    clear hK K
    refine norm_ (a' := ?_) ?_ ?_
    rotate_left
    · show Act.put _ (some 29) _ = _; simp only [Act.put, List.setIfInBounds_toArray, List.set_cons_zero, List.set_cons_succ, i64_w, i32_w]; rfl
    exact norm_ rfl (hJ2_4_8_9_10_11 (gb143, gb144) _ ⟨hHeld, (pR HO133.out), (pb BK127.out), (pb BK128.out), (pb BK129.out), (pb BK143.out), (pb BK144.out), GW143.out, GE143.out, NB127_143.out, NB143_127.out, NB128_143.out, NB143_128.out, NB129_143.out, NB143_129.out, NB144_143.out, NB143_144.out, GW144.out, GE144.out, NB127_144.out, NB144_127.out, NB128_144.out, NB144_128.out, NB129_144.out, NB144_129.out, (pB HB.out)⟩)
   intro hJ2_4_8_10_11
   refine join_ (σ := Unit) 4 #[true, true, true, true, true, true, true, true, true, true, false, false, false, false] (fun s_ => [(22, .agg #[.string t135, .string t136]), (24, .agg #[.string t137, .string t138]), (28, .agg #[.string t139, .string t140]), (29, .agg #[.string t141, .string t142])]) (fun s_ w' => (w'.cell? ⟨gb127, 0, none⟩ = some (.string a0_0) ∧ w'.cell? ⟨gb127, 1, none⟩ = some (.string a0_1) ∧ w'.cell? ⟨gb128, 0, none⟩ = some (.string a1_0) ∧ w'.cell? ⟨gb128, 1, none⟩ = some (.string a1_1) ∧ w'.cell? ⟨gb129, 0, none⟩ = some (.string a2_0) ∧ w'.cell? ⟨gb129, 1, none⟩ = some (.string a2_1)) ∧ (Kd.R k38 38 w' w.heap.size (fun k_ => k_ ≠ gb127 ∧ k_ ≠ gb128 ∧ k_ ≠ gb129) (.slice Ao26 y131.length co26) y131) ∧ (w'.heap[gb127]? = some (.cells #[.string a0_0, .string a0_1] 38 (0, 0))) ∧ (w'.heap[gb128]? = some (.cells #[.string a1_0, .string a1_1] 38 (0, 0))) ∧ (w'.heap[gb129]? = some (.cells #[.string a2_0, .string a2_1] 38 (0, 0))) ∧ (Below w.heap.size w w')) ?_ ?_
   ·
    skip
    rintro _ w32 ⟨hS_, h0_, h1_, h2_, h3_, h4_⟩
    clear HO133 BK127 BK128 BK129 HB
    (try dsimp only at h0_ h1_ h2_ h3_ h4_)
    have HO133 := Aside0.mk h0_
    have BK127 := Aside0.mk h1_
    have BK128 := Aside0.mk h2_
    have BK129 := Aside0.mk h3_
    have HB := Aside0.mk h4_
    clear h0_ h1_ h2_ h3_ h4_
    have hHeld : w32.cell? ⟨gb127, 0, none⟩ = some (.string a0_0) ∧ w32.cell? ⟨gb127, 1, none⟩ = some (.string a0_1) ∧ w32.cell? ⟨gb128, 0, none⟩ = some (.string a1_0) ∧ w32.cell? ⟨gb128, 1, none⟩ = some (.string a1_1) ∧ w32.cell? ⟨gb129, 0, none⟩ = some (.string a2_0) ∧ w32.cell? ⟨gb129, 1, none⟩ = some (.string a2_1) := hS_
    refine norm_ (a' := ?_) ?_ ?_
    rotate_left
    · simp only [putAll, Act.put, List.setIfInBounds_toArray, List.set_cons_zero, List.set_cons_succ]; rfl
    refine two_ (i := 10) (j := 11) (Ni := some 7) (Nj := some 8) #[true, true, true, true, true, true, true, true, true, true, true, false, false, false] #[true, true, true, true, true, true, true, true, true, true, false, true, false, false] rfl rfl rfl rfl (two_of HT_.out (by kernel_rfl)) (by decide) (by decide) (fun K hK => ?_) (fun K hK => ?_)
    ·
     skip
     refine box_step ?hg (N := 7) ?hd (cs := #[.string (⟨#[]⟩ : ByteArray), .string (⟨#[]⟩ : ByteArray)]) (t := 38) ?hr ?_; (case hd => rfl); (case hg => rfl); (case hr => first | (go_simp; done) | (go_simp; rfl))
     intro gb143 hg w33 hbox hb
     have BK143 := Aside0.mk (hbox)
     have GW143 := geL hg HB.out
     have GE143 := geL hg HB.out
     have NB127_143 := neL hg BK127.out
     have NB143_127 := neG hg BK127.out
     have NB128_143 := neL hg BK128.out
     have NB143_128 := neG hg BK128.out
     have NB129_143 := neL hg BK129.out
     have NB143_129 := neG hg BK129.out
     replace HO133 := Aside0.mk (Kd.R_below (Kd.R_elderB (pR HO133.out) gb143 (Nat.le_of_eq hg.symm)) hb)
     replace BK127 := Aside0.mk (blk_below BK127.out hb)
     replace BK128 := Aside0.mk (blk_below BK128.out hb)
     replace BK129 := Aside0.mk (blk_below BK129.out hb)
     replace HB := Aside0.mk (below_step (pB HB.out) hb)
     clear hb hbox hg
     refine hK.out _ _ ⟨blk_cell BK127.out 0, blk_cell BK127.out 1, blk_cell BK128.out 0, blk_cell BK128.out 1, blk_cell BK129.out 0, blk_cell BK129.out 1⟩ (fun hHeld => ?_)
     clear hK K
     refine norm_ (a' := ?_) ?_ ?_
     rotate_left
     · show Act.put _ (some 7) _ = _; simp only [Act.put, List.setIfInBounds_toArray, List.set_cons_zero, List.set_cons_succ, i64_w, i32_w]; rfl
     exact norm_ rfl (hJ2_4_8_9_10 (gb143) _ ⟨hHeld, (by (with_reducible repeat (first | apply Kd.R_alloc | apply Kd.R_drewN | apply Kd.R_drew)); exact Kd.R_mono HO133.out (fun _ hk => by omega)), (pb BK127.out), (pb BK128.out), (pb BK129.out), (pb BK143.out), GW143.out, GE143.out, NB127_143.out, NB143_127.out, NB128_143.out, NB143_128.out, NB129_143.out, NB143_129.out, (pB HB.out)⟩)
    skip
    refine box_step ?hg (N := 8) ?hd (cs := #[.string (⟨#[]⟩ : ByteArray), .string (⟨#[]⟩ : ByteArray)]) (t := 38) ?hr ?_; (case hd => rfl); (case hg => rfl); (case hr => first | (go_simp; done) | (go_simp; rfl))
    intro gb144 hg w33 hbox hb
    have BK144 := Aside0.mk (hbox)
    have GW144 := geL hg HB.out
    have GE144 := geL hg HB.out
    have NB127_144 := neL hg BK127.out
    have NB144_127 := neG hg BK127.out
    have NB128_144 := neL hg BK128.out
    have NB144_128 := neG hg BK128.out
    have NB129_144 := neL hg BK129.out
    have NB144_129 := neG hg BK129.out
    replace HO133 := Aside0.mk (Kd.R_below (Kd.R_elderB (pR HO133.out) gb144 (Nat.le_of_eq hg.symm)) hb)
    replace BK127 := Aside0.mk (blk_below BK127.out hb)
    replace BK128 := Aside0.mk (blk_below BK128.out hb)
    replace BK129 := Aside0.mk (blk_below BK129.out hb)
    replace HB := Aside0.mk (below_step (pB HB.out) hb)
    clear hb hbox hg
    refine hK.out _ _ ⟨blk_cell BK127.out 0, blk_cell BK127.out 1, blk_cell BK128.out 0, blk_cell BK128.out 1, blk_cell BK129.out 0, blk_cell BK129.out 1⟩ (fun hHeld => ?_)
    clear hK K
    refine norm_ (a' := ?_) ?_ ?_
    rotate_left
    · show Act.put _ (some 8) _ = _; simp only [Act.put, List.setIfInBounds_toArray, List.set_cons_zero, List.set_cons_succ, i64_w, i32_w]; rfl
    exact norm_ rfl (hJ2_4_8_9_11 (gb144) _ ⟨hHeld, (by (with_reducible repeat (first | apply Kd.R_alloc | apply Kd.R_drewN | apply Kd.R_drew)); exact Kd.R_mono HO133.out (fun _ hk => by omega)), (pb BK127.out), (pb BK128.out), (pb BK129.out), (pb BK144.out), GW144.out, GE144.out, NB127_144.out, NB144_127.out, NB128_144.out, NB144_128.out, NB129_144.out, NB144_129.out, (pB HB.out)⟩)
   intro hJ2_4_8_9
   refine join_ (σ := Nat) 4 #[true, true, true, true, true, true, true, true, true, false, true, false, false, false] (fun s_ => [(22, .agg #[.string t135, .string t136]), (24, .agg #[.string t137, .string t138]), (28, .agg #[.string t139, .string t140]), (7, .pointer (some ⟨s_, 0, none⟩))]) (fun s_ w' => (w'.cell? ⟨gb127, 0, none⟩ = some (.string a0_0) ∧ w'.cell? ⟨gb127, 1, none⟩ = some (.string a0_1) ∧ w'.cell? ⟨gb128, 0, none⟩ = some (.string a1_0) ∧ w'.cell? ⟨gb128, 1, none⟩ = some (.string a1_1) ∧ w'.cell? ⟨gb129, 0, none⟩ = some (.string a2_0) ∧ w'.cell? ⟨gb129, 1, none⟩ = some (.string a2_1)) ∧ (Kd.R k38 38 w' w.heap.size (fun k_ => k_ ≠ gb127 ∧ k_ ≠ gb128 ∧ k_ ≠ gb129 ∧ k_ ≠ s_) (.slice Ao26 y131.length co26) y131) ∧ (w'.heap[gb127]? = some (.cells #[.string a0_0, .string a0_1] 38 (0, 0))) ∧ (w'.heap[gb128]? = some (.cells #[.string a1_0, .string a1_1] 38 (0, 0))) ∧ (w'.heap[gb129]? = some (.cells #[.string a2_0, .string a2_1] 38 (0, 0))) ∧ (w'.heap[s_]? = some (.cells #[.string (⟨#[]⟩ : ByteArray), .string (⟨#[]⟩ : ByteArray)] 38 (0, 0))) ∧ (w.heap.size ≤ s_) ∧ (w.heap.size ≤ s_) ∧ (gb127 ≠ s_) ∧ (s_ ≠ gb127) ∧ (gb128 ≠ s_) ∧ (s_ ≠ gb128) ∧ (gb129 ≠ s_) ∧ (s_ ≠ gb129) ∧ (Below w.heap.size w w')) ?_ ?_
   ·
    skip
    rintro gb143 w32 ⟨hS_, h0_, h1_, h2_, h3_, h4_, h5_, h6_, h7_, h8_, h9_, h10_, h11_, h12_, h13_⟩
    clear HO133 BK127 BK128 BK129 HB
    (try dsimp only at h0_ h1_ h2_ h3_ h4_ h5_ h6_ h7_ h8_ h9_ h10_ h11_ h12_ h13_)
    have HO133 := Aside0.mk h0_
    have BK127 := Aside0.mk h1_
    have BK128 := Aside0.mk h2_
    have BK129 := Aside0.mk h3_
    have BK143 := Aside0.mk h4_
    have GW143 := Aside0.mk h5_
    have GE143 := Aside0.mk h6_
    have NB127_143 := Aside0.mk h7_
    have NB143_127 := Aside0.mk h8_
    have NB128_143 := Aside0.mk h9_
    have NB143_128 := Aside0.mk h10_
    have NB129_143 := Aside0.mk h11_
    have NB143_129 := Aside0.mk h12_
    have HB := Aside0.mk h13_
    clear h0_ h1_ h2_ h3_ h4_ h5_ h6_ h7_ h8_ h9_ h10_ h11_ h12_ h13_
    have hHeld : w32.cell? ⟨gb127, 0, none⟩ = some (.string a0_0) ∧ w32.cell? ⟨gb127, 1, none⟩ = some (.string a0_1) ∧ w32.cell? ⟨gb128, 0, none⟩ = some (.string a1_0) ∧ w32.cell? ⟨gb128, 1, none⟩ = some (.string a1_1) ∧ w32.cell? ⟨gb129, 0, none⟩ = some (.string a2_0) ∧ w32.cell? ⟨gb129, 1, none⟩ = some (.string a2_1) := hS_
    refine norm_ (a' := ?_) ?_ ?_
    rotate_left
    · simp only [putAll, Act.put, List.setIfInBounds_toArray, List.set_cons_zero, List.set_cons_succ]; rfl
    refine two_ (i := 9) (j := 11) (Ni := some 29) (Nj := some 8) #[true, true, true, true, true, true, true, true, true, true, true, false, false, false] #[true, true, true, true, true, true, true, true, true, false, true, true, false, false] rfl rfl rfl rfl (two_of HT_.out (by kernel_rfl)) (by decide) (by decide) (fun K hK => ?_) (fun K hK => ?_)
    ·
     skip
     refine goes_ Try.func20 (by kernel_rfl) rfl #[.agg #[.string a0_0, .string a0_1], .agg #[.string t139, .string t140]] (by rfl) rfl rfl (by (try simp only [List.map_toArray, List.map_cons, List.map_nil]); first | done | rfl | (simp only [List.length_drop, List.length_take]; done) | (simp only [List.length_drop, List.length_take]; rfl)) ?_
     with_reducible refine (span_Meet.calls a0_0 a0_1 t139 t140 t141 t142 _ A11.out).mono ?_
     rintro e w33 ⟨rfl, hb⟩
     refine ⟨_, rfl, ?_⟩
     replace HO133 := Aside0.mk (Kd.R_below (pR HO133.out) hb)
     replace BK127 := Aside0.mk (blk_below BK127.out hb)
     replace BK128 := Aside0.mk (blk_below BK128.out hb)
     replace BK129 := Aside0.mk (blk_below BK129.out hb)
     replace BK143 := Aside0.mk (blk_below BK143.out hb)
     replace HB := Aside0.mk (below_step (pB HB.out) hb)
     (try clear hb)
     (try clear hb2)
     (try clear hk)
     (try clear hi)
     refine hK.out _ _ ⟨blk_cell BK127.out 0, blk_cell BK127.out 1, blk_cell BK128.out 0, blk_cell BK128.out 1, blk_cell BK129.out 0, blk_cell BK129.out 1⟩ (fun hHeld => ?_)
     clear hK K
     refine norm_ (a' := ?_) ?_ ?_
     rotate_left
     · show Act.put _ (some 29) _ = _; simp only [Act.put, List.setIfInBounds_toArray, List.set_cons_zero, List.set_cons_succ, i64_w, i32_w]; rfl
     exact norm_ rfl (hJ2_4_8_9_10 (gb143) _ ⟨hHeld, (pR HO133.out), (pb BK127.out), (pb BK128.out), (pb BK129.out), (pb BK143.out), GW143.out, GE143.out, NB127_143.out, NB143_127.out, NB128_143.out, NB143_128.out, NB129_143.out, NB143_129.out, (pB HB.out)⟩)
    skip
    refine box_step ?hg (N := 8) ?hd (cs := #[.string (⟨#[]⟩ : ByteArray), .string (⟨#[]⟩ : ByteArray)]) (t := 38) ?hr ?_; (case hd => rfl); (case hg => rfl); (case hr => first | (go_simp; done) | (go_simp; rfl))
    intro gb144 hg w33 hbox hb
    have BK144 := Aside0.mk (hbox)
    have GW144 := geL hg HB.out
    have GE144 := geL hg HB.out
    have NB127_144 := neL hg BK127.out
    have NB144_127 := neG hg BK127.out
    have NB128_144 := neL hg BK128.out
    have NB144_128 := neG hg BK128.out
    have NB129_144 := neL hg BK129.out
    have NB144_129 := neG hg BK129.out
    have NB143_144 := neL hg BK143.out
    have NB144_143 := neG hg BK143.out
    replace HO133 := Aside0.mk (Kd.R_below (Kd.R_elderB (pR HO133.out) gb144 (Nat.le_of_eq hg.symm)) hb)
    replace BK127 := Aside0.mk (blk_below BK127.out hb)
    replace BK128 := Aside0.mk (blk_below BK128.out hb)
    replace BK129 := Aside0.mk (blk_below BK129.out hb)
    replace BK143 := Aside0.mk (blk_below BK143.out hb)
    replace HB := Aside0.mk (below_step (pB HB.out) hb)
    clear hb hbox hg
    refine hK.out _ _ ⟨blk_cell BK127.out 0, blk_cell BK127.out 1, blk_cell BK128.out 0, blk_cell BK128.out 1, blk_cell BK129.out 0, blk_cell BK129.out 1⟩ (fun hHeld => ?_)
    clear hK K
    refine norm_ (a' := ?_) ?_ ?_
    rotate_left
    · show Act.put _ (some 8) _ = _; simp only [Act.put, List.setIfInBounds_toArray, List.set_cons_zero, List.set_cons_succ, i64_w, i32_w]; rfl
    exact norm_ rfl (hJ2_4_8_10_11 (gb143, gb144) _ ⟨hHeld, (by (with_reducible repeat (first | apply Kd.R_alloc | apply Kd.R_drewN | apply Kd.R_drew)); exact Kd.R_mono HO133.out (fun _ hk => by omega)), (pb BK127.out), (pb BK128.out), (pb BK129.out), (pb BK143.out), (pb BK144.out), GW143.out, GE143.out, NB127_143.out, NB143_127.out, NB128_143.out, NB143_128.out, NB129_143.out, NB143_129.out, NB144_143.out, NB143_144.out, GW144.out, GE144.out, NB127_144.out, NB144_127.out, NB128_144.out, NB144_128.out, NB129_144.out, NB144_129.out, (pB HB.out)⟩)
   intro hJ2_4_8_10
   refine join_ (σ := Nat) 4 #[true, true, true, true, true, true, true, true, true, false, false, true, false, false] (fun s_ => [(22, .agg #[.string t135, .string t136]), (24, .agg #[.string t137, .string t138]), (28, .agg #[.string t139, .string t140]), (8, .pointer (some ⟨s_, 0, none⟩))]) (fun s_ w' => (w'.cell? ⟨gb127, 0, none⟩ = some (.string a0_0) ∧ w'.cell? ⟨gb127, 1, none⟩ = some (.string a0_1) ∧ w'.cell? ⟨gb128, 0, none⟩ = some (.string a1_0) ∧ w'.cell? ⟨gb128, 1, none⟩ = some (.string a1_1) ∧ w'.cell? ⟨gb129, 0, none⟩ = some (.string a2_0) ∧ w'.cell? ⟨gb129, 1, none⟩ = some (.string a2_1)) ∧ (Kd.R k38 38 w' w.heap.size (fun k_ => k_ ≠ gb127 ∧ k_ ≠ gb128 ∧ k_ ≠ gb129 ∧ k_ ≠ s_) (.slice Ao26 y131.length co26) y131) ∧ (w'.heap[gb127]? = some (.cells #[.string a0_0, .string a0_1] 38 (0, 0))) ∧ (w'.heap[gb128]? = some (.cells #[.string a1_0, .string a1_1] 38 (0, 0))) ∧ (w'.heap[gb129]? = some (.cells #[.string a2_0, .string a2_1] 38 (0, 0))) ∧ (w'.heap[s_]? = some (.cells #[.string (⟨#[]⟩ : ByteArray), .string (⟨#[]⟩ : ByteArray)] 38 (0, 0))) ∧ (w.heap.size ≤ s_) ∧ (w.heap.size ≤ s_) ∧ (gb127 ≠ s_) ∧ (s_ ≠ gb127) ∧ (gb128 ≠ s_) ∧ (s_ ≠ gb128) ∧ (gb129 ≠ s_) ∧ (s_ ≠ gb129) ∧ (Below w.heap.size w w')) ?_ ?_
   ·
    skip
    rintro gb144 w32 ⟨hS_, h0_, h1_, h2_, h3_, h4_, h5_, h6_, h7_, h8_, h9_, h10_, h11_, h12_, h13_⟩
    clear HO133 BK127 BK128 BK129 HB
    (try dsimp only at h0_ h1_ h2_ h3_ h4_ h5_ h6_ h7_ h8_ h9_ h10_ h11_ h12_ h13_)
    have HO133 := Aside0.mk h0_
    have BK127 := Aside0.mk h1_
    have BK128 := Aside0.mk h2_
    have BK129 := Aside0.mk h3_
    have BK144 := Aside0.mk h4_
    have GW144 := Aside0.mk h5_
    have GE144 := Aside0.mk h6_
    have NB127_144 := Aside0.mk h7_
    have NB144_127 := Aside0.mk h8_
    have NB128_144 := Aside0.mk h9_
    have NB144_128 := Aside0.mk h10_
    have NB129_144 := Aside0.mk h11_
    have NB144_129 := Aside0.mk h12_
    have HB := Aside0.mk h13_
    clear h0_ h1_ h2_ h3_ h4_ h5_ h6_ h7_ h8_ h9_ h10_ h11_ h12_ h13_
    have hHeld : w32.cell? ⟨gb127, 0, none⟩ = some (.string a0_0) ∧ w32.cell? ⟨gb127, 1, none⟩ = some (.string a0_1) ∧ w32.cell? ⟨gb128, 0, none⟩ = some (.string a1_0) ∧ w32.cell? ⟨gb128, 1, none⟩ = some (.string a1_1) ∧ w32.cell? ⟨gb129, 0, none⟩ = some (.string a2_0) ∧ w32.cell? ⟨gb129, 1, none⟩ = some (.string a2_1) := hS_
    refine norm_ (a' := ?_) ?_ ?_
    rotate_left
    · simp only [putAll, Act.put, List.setIfInBounds_toArray, List.set_cons_zero, List.set_cons_succ]; rfl
    refine two_ (i := 9) (j := 10) (Ni := some 29) (Nj := some 7) #[true, true, true, true, true, true, true, true, true, true, false, true, false, false] #[true, true, true, true, true, true, true, true, true, false, true, true, false, false] rfl rfl rfl rfl (two_of HT_.out (by kernel_rfl)) (by decide) (by decide) (fun K hK => ?_) (fun K hK => ?_)
    ·
     skip
     refine goes_ Try.func20 (by kernel_rfl) rfl #[.agg #[.string a0_0, .string a0_1], .agg #[.string t139, .string t140]] (by rfl) rfl rfl (by (try simp only [List.map_toArray, List.map_cons, List.map_nil]); first | done | rfl | (simp only [List.length_drop, List.length_take]; done) | (simp only [List.length_drop, List.length_take]; rfl)) ?_
     with_reducible refine (span_Meet.calls a0_0 a0_1 t139 t140 t141 t142 _ A11.out).mono ?_
     rintro e w33 ⟨rfl, hb⟩
     refine ⟨_, rfl, ?_⟩
     replace HO133 := Aside0.mk (Kd.R_below (pR HO133.out) hb)
     replace BK127 := Aside0.mk (blk_below BK127.out hb)
     replace BK128 := Aside0.mk (blk_below BK128.out hb)
     replace BK129 := Aside0.mk (blk_below BK129.out hb)
     replace BK144 := Aside0.mk (blk_below BK144.out hb)
     replace HB := Aside0.mk (below_step (pB HB.out) hb)
     (try clear hb)
     (try clear hb2)
     (try clear hk)
     (try clear hi)
     refine hK.out _ _ ⟨blk_cell BK127.out 0, blk_cell BK127.out 1, blk_cell BK128.out 0, blk_cell BK128.out 1, blk_cell BK129.out 0, blk_cell BK129.out 1⟩ (fun hHeld => ?_)
     clear hK K
     refine norm_ (a' := ?_) ?_ ?_
     rotate_left
     · show Act.put _ (some 29) _ = _; simp only [Act.put, List.setIfInBounds_toArray, List.set_cons_zero, List.set_cons_succ, i64_w, i32_w]; rfl
     exact norm_ rfl (hJ2_4_8_9_11 (gb144) _ ⟨hHeld, (pR HO133.out), (pb BK127.out), (pb BK128.out), (pb BK129.out), (pb BK144.out), GW144.out, GE144.out, NB127_144.out, NB144_127.out, NB128_144.out, NB144_128.out, NB129_144.out, NB144_129.out, (pB HB.out)⟩)
    skip
    refine box_step ?hg (N := 7) ?hd (cs := #[.string (⟨#[]⟩ : ByteArray), .string (⟨#[]⟩ : ByteArray)]) (t := 38) ?hr ?_; (case hd => rfl); (case hg => rfl); (case hr => first | (go_simp; done) | (go_simp; rfl))
    intro gb143 hg w33 hbox hb
    have BK143 := Aside0.mk (hbox)
    have GW143 := geL hg HB.out
    have GE143 := geL hg HB.out
    have NB127_143 := neL hg BK127.out
    have NB143_127 := neG hg BK127.out
    have NB128_143 := neL hg BK128.out
    have NB143_128 := neG hg BK128.out
    have NB129_143 := neL hg BK129.out
    have NB143_129 := neG hg BK129.out
    have NB144_143 := neL hg BK144.out
    have NB143_144 := neG hg BK144.out
    replace HO133 := Aside0.mk (Kd.R_below (Kd.R_elderB (pR HO133.out) gb143 (Nat.le_of_eq hg.symm)) hb)
    replace BK127 := Aside0.mk (blk_below BK127.out hb)
    replace BK128 := Aside0.mk (blk_below BK128.out hb)
    replace BK129 := Aside0.mk (blk_below BK129.out hb)
    replace BK144 := Aside0.mk (blk_below BK144.out hb)
    replace HB := Aside0.mk (below_step (pB HB.out) hb)
    clear hb hbox hg
    refine hK.out _ _ ⟨blk_cell BK127.out 0, blk_cell BK127.out 1, blk_cell BK128.out 0, blk_cell BK128.out 1, blk_cell BK129.out 0, blk_cell BK129.out 1⟩ (fun hHeld => ?_)
    clear hK K
    refine norm_ (a' := ?_) ?_ ?_
    rotate_left
    · show Act.put _ (some 7) _ = _; simp only [Act.put, List.setIfInBounds_toArray, List.set_cons_zero, List.set_cons_succ, i64_w, i32_w]; rfl
    exact norm_ rfl (hJ2_4_8_10_11 (gb143, gb144) _ ⟨hHeld, (by (with_reducible repeat (first | apply Kd.R_alloc | apply Kd.R_drewN | apply Kd.R_drew)); exact Kd.R_mono HO133.out (fun _ hk => by omega)), (pb BK127.out), (pb BK128.out), (pb BK129.out), (pb BK143.out), (pb BK144.out), GW143.out, GE143.out, NB127_143.out, NB143_127.out, NB128_143.out, NB143_128.out, NB129_143.out, NB143_129.out, NB144_143.out, NB143_144.out, GW144.out, GE144.out, NB127_144.out, NB144_127.out, NB128_144.out, NB144_128.out, NB129_144.out, NB144_129.out, (pB HB.out)⟩)
   intro hJ2_4_8_11
   refine join_ (σ := Nat × Nat) 4 #[true, true, true, true, true, true, true, true, false, false, true, true, false, false] (fun s_ => [(22, .agg #[.string t135, .string t136]), (24, .agg #[.string t137, .string t138]), (7, .pointer (some ⟨s_.1, 0, none⟩)), (8, .pointer (some ⟨s_.2, 0, none⟩))]) (fun s_ w' => (w'.cell? ⟨gb127, 0, none⟩ = some (.string a0_0) ∧ w'.cell? ⟨gb127, 1, none⟩ = some (.string a0_1) ∧ w'.cell? ⟨gb128, 0, none⟩ = some (.string a1_0) ∧ w'.cell? ⟨gb128, 1, none⟩ = some (.string a1_1) ∧ w'.cell? ⟨gb129, 0, none⟩ = some (.string a2_0) ∧ w'.cell? ⟨gb129, 1, none⟩ = some (.string a2_1)) ∧ (Kd.R k38 38 w' w.heap.size (fun k_ => k_ ≠ gb127 ∧ k_ ≠ gb128 ∧ k_ ≠ gb129 ∧ k_ ≠ s_.1 ∧ k_ ≠ s_.2) (.slice Ao26 y131.length co26) y131) ∧ (w'.heap[gb127]? = some (.cells #[.string a0_0, .string a0_1] 38 (0, 0))) ∧ (w'.heap[gb128]? = some (.cells #[.string a1_0, .string a1_1] 38 (0, 0))) ∧ (w'.heap[gb129]? = some (.cells #[.string a2_0, .string a2_1] 38 (0, 0))) ∧ (w'.heap[s_.1]? = some (.cells #[.string (⟨#[]⟩ : ByteArray), .string (⟨#[]⟩ : ByteArray)] 38 (0, 0))) ∧ (w'.heap[s_.2]? = some (.cells #[.string (⟨#[]⟩ : ByteArray), .string (⟨#[]⟩ : ByteArray)] 38 (0, 0))) ∧ (w.heap.size ≤ s_.1) ∧ (w.heap.size ≤ s_.1) ∧ (gb127 ≠ s_.1) ∧ (s_.1 ≠ gb127) ∧ (gb128 ≠ s_.1) ∧ (s_.1 ≠ gb128) ∧ (gb129 ≠ s_.1) ∧ (s_.1 ≠ gb129) ∧ (s_.2 ≠ s_.1) ∧ (s_.1 ≠ s_.2) ∧ (w.heap.size ≤ s_.2) ∧ (w.heap.size ≤ s_.2) ∧ (gb127 ≠ s_.2) ∧ (s_.2 ≠ gb127) ∧ (gb128 ≠ s_.2) ∧ (s_.2 ≠ gb128) ∧ (gb129 ≠ s_.2) ∧ (s_.2 ≠ gb129) ∧ (Below w.heap.size w w')) ?_ ?_
   ·
    skip
    rintro ⟨gb143, gb144⟩ w32 ⟨hS_, h0_, h1_, h2_, h3_, h4_, h5_, h6_, h7_, h8_, h9_, h10_, h11_, h12_, h13_, h14_, h15_, h16_, h17_, h18_, h19_, h20_, h21_, h22_, h23_, h24_⟩
    clear HO133 BK127 BK128 BK129 HB
    (try dsimp only at h0_ h1_ h2_ h3_ h4_ h5_ h6_ h7_ h8_ h9_ h10_ h11_ h12_ h13_ h14_ h15_ h16_ h17_ h18_ h19_ h20_ h21_ h22_ h23_ h24_)
    have HO133 := Aside0.mk h0_
    have BK127 := Aside0.mk h1_
    have BK128 := Aside0.mk h2_
    have BK129 := Aside0.mk h3_
    have BK143 := Aside0.mk h4_
    have BK144 := Aside0.mk h5_
    have GW143 := Aside0.mk h6_
    have GE143 := Aside0.mk h7_
    have NB127_143 := Aside0.mk h8_
    have NB143_127 := Aside0.mk h9_
    have NB128_143 := Aside0.mk h10_
    have NB143_128 := Aside0.mk h11_
    have NB129_143 := Aside0.mk h12_
    have NB143_129 := Aside0.mk h13_
    have NB144_143 := Aside0.mk h14_
    have NB143_144 := Aside0.mk h15_
    have GW144 := Aside0.mk h16_
    have GE144 := Aside0.mk h17_
    have NB127_144 := Aside0.mk h18_
    have NB144_127 := Aside0.mk h19_
    have NB128_144 := Aside0.mk h20_
    have NB144_128 := Aside0.mk h21_
    have NB129_144 := Aside0.mk h22_
    have NB144_129 := Aside0.mk h23_
    have HB := Aside0.mk h24_
    clear h0_ h1_ h2_ h3_ h4_ h5_ h6_ h7_ h8_ h9_ h10_ h11_ h12_ h13_ h14_ h15_ h16_ h17_ h18_ h19_ h20_ h21_ h22_ h23_ h24_
    have hHeld : w32.cell? ⟨gb127, 0, none⟩ = some (.string a0_0) ∧ w32.cell? ⟨gb127, 1, none⟩ = some (.string a0_1) ∧ w32.cell? ⟨gb128, 0, none⟩ = some (.string a1_0) ∧ w32.cell? ⟨gb128, 1, none⟩ = some (.string a1_1) ∧ w32.cell? ⟨gb129, 0, none⟩ = some (.string a2_0) ∧ w32.cell? ⟨gb129, 1, none⟩ = some (.string a2_1) := hS_
    refine norm_ (a' := ?_) ?_ ?_
    rotate_left
    · simp only [putAll, Act.put, List.setIfInBounds_toArray, List.set_cons_zero, List.set_cons_succ]; rfl
    refine one_ (i := 8) (N := some 28) #[true, true, true, true, true, true, true, true, true, false, true, true, false, false] rfl rfl (one_of HT_.out (by kernel_rfl)) (by decide) (fun K hK => ?_)
    refine goes_ Try.func20 (by kernel_rfl) rfl #[.agg #[.string a2_0, .string a2_1], .agg #[.string a1_0, .string a1_1]] (by rfl) rfl rfl (by (try simp only [List.map_toArray, List.map_cons, List.map_nil]); first | done | rfl | (simp only [List.length_drop, List.length_take]; done) | (simp only [List.length_drop, List.length_take]; rfl)) ?_
    with_reducible refine (span_Meet.calls a2_0 a2_1 a1_0 a1_1 t139 t140 _ A10.out).mono ?_
    rintro e w33 ⟨rfl, hb⟩
    refine ⟨_, rfl, ?_⟩
    replace HO133 := Aside0.mk (Kd.R_below (pR HO133.out) hb)
    replace BK127 := Aside0.mk (blk_below BK127.out hb)
    replace BK128 := Aside0.mk (blk_below BK128.out hb)
    replace BK129 := Aside0.mk (blk_below BK129.out hb)
    replace BK143 := Aside0.mk (blk_below BK143.out hb)
    replace BK144 := Aside0.mk (blk_below BK144.out hb)
    replace HB := Aside0.mk (below_step (pB HB.out) hb)
    (try clear hb)
    (try clear hb2)
    (try clear hk)
    (try clear hi)
    refine hK.out _ _ ⟨blk_cell BK127.out 0, blk_cell BK127.out 1, blk_cell BK128.out 0, blk_cell BK128.out 1, blk_cell BK129.out 0, blk_cell BK129.out 1⟩ (fun hHeld => ?_)
    clear hK K
    refine norm_ (a' := ?_) ?_ ?_
    rotate_left
    · show Act.put _ (some 28) _ = _; simp only [Act.put, List.setIfInBounds_toArray, List.set_cons_zero, List.set_cons_succ, i64_w, i32_w]; rfl
    exact norm_ rfl (hJ2_4_8_10_11 (gb143, gb144) _ ⟨hHeld, (pR HO133.out), (pb BK127.out), (pb BK128.out), (pb BK129.out), (pb BK143.out), (pb BK144.out), GW143.out, GE143.out, NB127_143.out, NB143_127.out, NB128_143.out, NB143_128.out, NB129_143.out, NB143_129.out, NB144_143.out, NB143_144.out, GW144.out, GE144.out, NB127_144.out, NB144_127.out, NB128_144.out, NB144_128.out, NB129_144.out, NB144_129.out, (pB HB.out)⟩)
   intro hJ2_4_10_11
   refine join_ (σ := Unit) 5 #[true, true, true, true, true, true, true, true, true, false, false, false, false, false] (fun s_ => [(22, .agg #[.string t135, .string t136]), (24, .agg #[.string t137, .string t138]), (28, .agg #[.string t139, .string t140])]) (fun s_ w' => (w'.cell? ⟨gb127, 0, none⟩ = some (.string a0_0) ∧ w'.cell? ⟨gb127, 1, none⟩ = some (.string a0_1) ∧ w'.cell? ⟨gb128, 0, none⟩ = some (.string a1_0) ∧ w'.cell? ⟨gb128, 1, none⟩ = some (.string a1_1) ∧ w'.cell? ⟨gb129, 0, none⟩ = some (.string a2_0) ∧ w'.cell? ⟨gb129, 1, none⟩ = some (.string a2_1)) ∧ (Kd.R k38 38 w' w.heap.size (fun k_ => k_ ≠ gb127 ∧ k_ ≠ gb128 ∧ k_ ≠ gb129) (.slice Ao26 y131.length co26) y131) ∧ (w'.heap[gb127]? = some (.cells #[.string a0_0, .string a0_1] 38 (0, 0))) ∧ (w'.heap[gb128]? = some (.cells #[.string a1_0, .string a1_1] 38 (0, 0))) ∧ (w'.heap[gb129]? = some (.cells #[.string a2_0, .string a2_1] 38 (0, 0))) ∧ (Below w.heap.size w w')) ?_ ?_
   ·
    skip
    rintro _ w31 ⟨hS_, h0_, h1_, h2_, h3_, h4_⟩
    clear HO133 BK127 BK128 BK129 HB
    (try dsimp only at h0_ h1_ h2_ h3_ h4_)
    have HO133 := Aside0.mk h0_
    have BK127 := Aside0.mk h1_
    have BK128 := Aside0.mk h2_
    have BK129 := Aside0.mk h3_
    have HB := Aside0.mk h4_
    clear h0_ h1_ h2_ h3_ h4_
    have hHeld : w31.cell? ⟨gb127, 0, none⟩ = some (.string a0_0) ∧ w31.cell? ⟨gb127, 1, none⟩ = some (.string a0_1) ∧ w31.cell? ⟨gb128, 0, none⟩ = some (.string a1_0) ∧ w31.cell? ⟨gb128, 1, none⟩ = some (.string a1_1) ∧ w31.cell? ⟨gb129, 0, none⟩ = some (.string a2_0) ∧ w31.cell? ⟨gb129, 1, none⟩ = some (.string a2_1) := hS_
    refine norm_ (a' := ?_) ?_ ?_
    rotate_left
    · simp only [putAll, Act.put, List.setIfInBounds_toArray, List.set_cons_zero, List.set_cons_succ]; rfl
    refine three_ (i := 9) (j := 10) (k := 11) (Ni := some 29) (Nj := some 7) (Nk := some 8) #[true, true, true, true, true, true, true, true, true, true, false, false, false, false] #[true, true, true, true, true, true, true, true, true, false, true, false, false, false] #[true, true, true, true, true, true, true, true, true, false, false, true, false, false] rfl rfl rfl rfl rfl rfl (three_of HT_.out (by kernel_rfl)) (by decide) (by decide) (by decide) (fun K hK => ?_) (fun K hK => ?_) (fun K hK => ?_)
    ·
     skip
     refine goes_ Try.func20 (by kernel_rfl) rfl #[.agg #[.string a0_0, .string a0_1], .agg #[.string t139, .string t140]] (by rfl) rfl rfl (by (try simp only [List.map_toArray, List.map_cons, List.map_nil]); first | done | rfl | (simp only [List.length_drop, List.length_take]; done) | (simp only [List.length_drop, List.length_take]; rfl)) ?_
     with_reducible refine (span_Meet.calls a0_0 a0_1 t139 t140 t141 t142 _ A11.out).mono ?_
     rintro e w32 ⟨rfl, hb⟩
     refine ⟨_, rfl, ?_⟩
     replace HO133 := Aside0.mk (Kd.R_below (pR HO133.out) hb)
     replace BK127 := Aside0.mk (blk_below BK127.out hb)
     replace BK128 := Aside0.mk (blk_below BK128.out hb)
     replace BK129 := Aside0.mk (blk_below BK129.out hb)
     replace HB := Aside0.mk (below_step (pB HB.out) hb)
     (try clear hb)
     (try clear hb2)
     (try clear hk)
     (try clear hi)
     refine hK.out _ _ ⟨blk_cell BK127.out 0, blk_cell BK127.out 1, blk_cell BK128.out 0, blk_cell BK128.out 1, blk_cell BK129.out 0, blk_cell BK129.out 1⟩ (fun hHeld => ?_)
     clear hK K
     refine norm_ (a' := ?_) ?_ ?_
     rotate_left
     · show Act.put _ (some 29) _ = _; simp only [Act.put, List.setIfInBounds_toArray, List.set_cons_zero, List.set_cons_succ, i64_w, i32_w]; rfl
     exact norm_ rfl (hJ2_4_8_9 () _ ⟨hHeld, (pR HO133.out), (pb BK127.out), (pb BK128.out), (pb BK129.out), (pB HB.out)⟩)
    ·
     skip
     refine box_step ?hg (N := 7) ?hd (cs := #[.string (⟨#[]⟩ : ByteArray), .string (⟨#[]⟩ : ByteArray)]) (t := 38) ?hr ?_; (case hd => rfl); (case hg => rfl); (case hr => first | (go_simp; done) | (go_simp; rfl))
     intro gb143 hg w32 hbox hb
     have BK143 := Aside0.mk (hbox)
     have GW143 := geL hg HB.out
     have GE143 := geL hg HB.out
     have NB127_143 := neL hg BK127.out
     have NB143_127 := neG hg BK127.out
     have NB128_143 := neL hg BK128.out
     have NB143_128 := neG hg BK128.out
     have NB129_143 := neL hg BK129.out
     have NB143_129 := neG hg BK129.out
     replace HO133 := Aside0.mk (Kd.R_below (Kd.R_elderB (pR HO133.out) gb143 (Nat.le_of_eq hg.symm)) hb)
     replace BK127 := Aside0.mk (blk_below BK127.out hb)
     replace BK128 := Aside0.mk (blk_below BK128.out hb)
     replace BK129 := Aside0.mk (blk_below BK129.out hb)
     replace HB := Aside0.mk (below_step (pB HB.out) hb)
     clear hb hbox hg
     refine hK.out _ _ ⟨blk_cell BK127.out 0, blk_cell BK127.out 1, blk_cell BK128.out 0, blk_cell BK128.out 1, blk_cell BK129.out 0, blk_cell BK129.out 1⟩ (fun hHeld => ?_)
     clear hK K
     refine norm_ (a' := ?_) ?_ ?_
     rotate_left
     · show Act.put _ (some 7) _ = _; simp only [Act.put, List.setIfInBounds_toArray, List.set_cons_zero, List.set_cons_succ, i64_w, i32_w]; rfl
     exact norm_ rfl (hJ2_4_8_10 (gb143) _ ⟨hHeld, (by (with_reducible repeat (first | apply Kd.R_alloc | apply Kd.R_drewN | apply Kd.R_drew)); exact Kd.R_mono HO133.out (fun _ hk => by omega)), (pb BK127.out), (pb BK128.out), (pb BK129.out), (pb BK143.out), GW143.out, GE143.out, NB127_143.out, NB143_127.out, NB128_143.out, NB143_128.out, NB129_143.out, NB143_129.out, (pB HB.out)⟩)
    skip
    refine box_step ?hg (N := 8) ?hd (cs := #[.string (⟨#[]⟩ : ByteArray), .string (⟨#[]⟩ : ByteArray)]) (t := 38) ?hr ?_; (case hd => rfl); (case hg => rfl); (case hr => first | (go_simp; done) | (go_simp; rfl))
    intro gb144 hg w32 hbox hb
    have BK144 := Aside0.mk (hbox)
    have GW144 := geL hg HB.out
    have GE144 := geL hg HB.out
    have NB127_144 := neL hg BK127.out
    have NB144_127 := neG hg BK127.out
    have NB128_144 := neL hg BK128.out
    have NB144_128 := neG hg BK128.out
    have NB129_144 := neL hg BK129.out
    have NB144_129 := neG hg BK129.out
    replace HO133 := Aside0.mk (Kd.R_below (Kd.R_elderB (pR HO133.out) gb144 (Nat.le_of_eq hg.symm)) hb)
    replace BK127 := Aside0.mk (blk_below BK127.out hb)
    replace BK128 := Aside0.mk (blk_below BK128.out hb)
    replace BK129 := Aside0.mk (blk_below BK129.out hb)
    replace HB := Aside0.mk (below_step (pB HB.out) hb)
    clear hb hbox hg
    refine hK.out _ _ ⟨blk_cell BK127.out 0, blk_cell BK127.out 1, blk_cell BK128.out 0, blk_cell BK128.out 1, blk_cell BK129.out 0, blk_cell BK129.out 1⟩ (fun hHeld => ?_)
    clear hK K
    refine norm_ (a' := ?_) ?_ ?_
    rotate_left
    · show Act.put _ (some 8) _ = _; simp only [Act.put, List.setIfInBounds_toArray, List.set_cons_zero, List.set_cons_succ, i64_w, i32_w]; rfl
    exact norm_ rfl (hJ2_4_8_11 (gb144) _ ⟨hHeld, (by (with_reducible repeat (first | apply Kd.R_alloc | apply Kd.R_drewN | apply Kd.R_drew)); exact Kd.R_mono HO133.out (fun _ hk => by omega)), (pb BK127.out), (pb BK128.out), (pb BK129.out), (pb BK144.out), GW144.out, GE144.out, NB127_144.out, NB144_127.out, NB128_144.out, NB144_128.out, NB129_144.out, NB144_129.out, (pB HB.out)⟩)
   intro hJ2_4_8
   refine join_ (σ := Nat) 5 #[true, true, true, true, true, true, true, true, false, false, true, false, false, false] (fun s_ => [(22, .agg #[.string t135, .string t136]), (24, .agg #[.string t137, .string t138]), (7, .pointer (some ⟨s_, 0, none⟩))]) (fun s_ w' => (w'.cell? ⟨gb127, 0, none⟩ = some (.string a0_0) ∧ w'.cell? ⟨gb127, 1, none⟩ = some (.string a0_1) ∧ w'.cell? ⟨gb128, 0, none⟩ = some (.string a1_0) ∧ w'.cell? ⟨gb128, 1, none⟩ = some (.string a1_1) ∧ w'.cell? ⟨gb129, 0, none⟩ = some (.string a2_0) ∧ w'.cell? ⟨gb129, 1, none⟩ = some (.string a2_1)) ∧ (Kd.R k38 38 w' w.heap.size (fun k_ => k_ ≠ gb127 ∧ k_ ≠ gb128 ∧ k_ ≠ gb129 ∧ k_ ≠ s_) (.slice Ao26 y131.length co26) y131) ∧ (w'.heap[gb127]? = some (.cells #[.string a0_0, .string a0_1] 38 (0, 0))) ∧ (w'.heap[gb128]? = some (.cells #[.string a1_0, .string a1_1] 38 (0, 0))) ∧ (w'.heap[gb129]? = some (.cells #[.string a2_0, .string a2_1] 38 (0, 0))) ∧ (w'.heap[s_]? = some (.cells #[.string (⟨#[]⟩ : ByteArray), .string (⟨#[]⟩ : ByteArray)] 38 (0, 0))) ∧ (w.heap.size ≤ s_) ∧ (w.heap.size ≤ s_) ∧ (gb127 ≠ s_) ∧ (s_ ≠ gb127) ∧ (gb128 ≠ s_) ∧ (s_ ≠ gb128) ∧ (gb129 ≠ s_) ∧ (s_ ≠ gb129) ∧ (Below w.heap.size w w')) ?_ ?_
   ·
    skip
    rintro gb143 w31 ⟨hS_, h0_, h1_, h2_, h3_, h4_, h5_, h6_, h7_, h8_, h9_, h10_, h11_, h12_, h13_⟩
    clear HO133 BK127 BK128 BK129 HB
    (try dsimp only at h0_ h1_ h2_ h3_ h4_ h5_ h6_ h7_ h8_ h9_ h10_ h11_ h12_ h13_)
    have HO133 := Aside0.mk h0_
    have BK127 := Aside0.mk h1_
    have BK128 := Aside0.mk h2_
    have BK129 := Aside0.mk h3_
    have BK143 := Aside0.mk h4_
    have GW143 := Aside0.mk h5_
    have GE143 := Aside0.mk h6_
    have NB127_143 := Aside0.mk h7_
    have NB143_127 := Aside0.mk h8_
    have NB128_143 := Aside0.mk h9_
    have NB143_128 := Aside0.mk h10_
    have NB129_143 := Aside0.mk h11_
    have NB143_129 := Aside0.mk h12_
    have HB := Aside0.mk h13_
    clear h0_ h1_ h2_ h3_ h4_ h5_ h6_ h7_ h8_ h9_ h10_ h11_ h12_ h13_
    have hHeld : w31.cell? ⟨gb127, 0, none⟩ = some (.string a0_0) ∧ w31.cell? ⟨gb127, 1, none⟩ = some (.string a0_1) ∧ w31.cell? ⟨gb128, 0, none⟩ = some (.string a1_0) ∧ w31.cell? ⟨gb128, 1, none⟩ = some (.string a1_1) ∧ w31.cell? ⟨gb129, 0, none⟩ = some (.string a2_0) ∧ w31.cell? ⟨gb129, 1, none⟩ = some (.string a2_1) := hS_
    refine norm_ (a' := ?_) ?_ ?_
    rotate_left
    · simp only [putAll, Act.put, List.setIfInBounds_toArray, List.set_cons_zero, List.set_cons_succ]; rfl
    refine two_ (i := 8) (j := 11) (Ni := some 28) (Nj := some 8) #[true, true, true, true, true, true, true, true, true, false, true, false, false, false] #[true, true, true, true, true, true, true, true, false, false, true, true, false, false] rfl rfl rfl rfl (two_of HT_.out (by kernel_rfl)) (by decide) (by decide) (fun K hK => ?_) (fun K hK => ?_)
    ·
     skip
     refine goes_ Try.func20 (by kernel_rfl) rfl #[.agg #[.string a2_0, .string a2_1], .agg #[.string a1_0, .string a1_1]] (by rfl) rfl rfl (by (try simp only [List.map_toArray, List.map_cons, List.map_nil]); first | done | rfl | (simp only [List.length_drop, List.length_take]; done) | (simp only [List.length_drop, List.length_take]; rfl)) ?_
     with_reducible refine (span_Meet.calls a2_0 a2_1 a1_0 a1_1 t139 t140 _ A10.out).mono ?_
     rintro e w32 ⟨rfl, hb⟩
     refine ⟨_, rfl, ?_⟩
     replace HO133 := Aside0.mk (Kd.R_below (pR HO133.out) hb)
     replace BK127 := Aside0.mk (blk_below BK127.out hb)
     replace BK128 := Aside0.mk (blk_below BK128.out hb)
     replace BK129 := Aside0.mk (blk_below BK129.out hb)
     replace BK143 := Aside0.mk (blk_below BK143.out hb)
     replace HB := Aside0.mk (below_step (pB HB.out) hb)
     (try clear hb)
     (try clear hb2)
     (try clear hk)
     (try clear hi)
     refine hK.out _ _ ⟨blk_cell BK127.out 0, blk_cell BK127.out 1, blk_cell BK128.out 0, blk_cell BK128.out 1, blk_cell BK129.out 0, blk_cell BK129.out 1⟩ (fun hHeld => ?_)
     clear hK K
     refine norm_ (a' := ?_) ?_ ?_
     rotate_left
     · show Act.put _ (some 28) _ = _; simp only [Act.put, List.setIfInBounds_toArray, List.set_cons_zero, List.set_cons_succ, i64_w, i32_w]; rfl
     exact norm_ rfl (hJ2_4_8_10 (gb143) _ ⟨hHeld, (pR HO133.out), (pb BK127.out), (pb BK128.out), (pb BK129.out), (pb BK143.out), GW143.out, GE143.out, NB127_143.out, NB143_127.out, NB128_143.out, NB143_128.out, NB129_143.out, NB143_129.out, (pB HB.out)⟩)
    skip
    refine box_step ?hg (N := 8) ?hd (cs := #[.string (⟨#[]⟩ : ByteArray), .string (⟨#[]⟩ : ByteArray)]) (t := 38) ?hr ?_; (case hd => rfl); (case hg => rfl); (case hr => first | (go_simp; done) | (go_simp; rfl))
    intro gb144 hg w32 hbox hb
    have BK144 := Aside0.mk (hbox)
    have GW144 := geL hg HB.out
    have GE144 := geL hg HB.out
    have NB127_144 := neL hg BK127.out
    have NB144_127 := neG hg BK127.out
    have NB128_144 := neL hg BK128.out
    have NB144_128 := neG hg BK128.out
    have NB129_144 := neL hg BK129.out
    have NB144_129 := neG hg BK129.out
    have NB143_144 := neL hg BK143.out
    have NB144_143 := neG hg BK143.out
    replace HO133 := Aside0.mk (Kd.R_below (Kd.R_elderB (pR HO133.out) gb144 (Nat.le_of_eq hg.symm)) hb)
    replace BK127 := Aside0.mk (blk_below BK127.out hb)
    replace BK128 := Aside0.mk (blk_below BK128.out hb)
    replace BK129 := Aside0.mk (blk_below BK129.out hb)
    replace BK143 := Aside0.mk (blk_below BK143.out hb)
    replace HB := Aside0.mk (below_step (pB HB.out) hb)
    clear hb hbox hg
    refine hK.out _ _ ⟨blk_cell BK127.out 0, blk_cell BK127.out 1, blk_cell BK128.out 0, blk_cell BK128.out 1, blk_cell BK129.out 0, blk_cell BK129.out 1⟩ (fun hHeld => ?_)
    clear hK K
    refine norm_ (a' := ?_) ?_ ?_
    rotate_left
    · show Act.put _ (some 8) _ = _; simp only [Act.put, List.setIfInBounds_toArray, List.set_cons_zero, List.set_cons_succ, i64_w, i32_w]; rfl
    exact norm_ rfl (hJ2_4_10_11 (gb143, gb144) _ ⟨hHeld, (by (with_reducible repeat (first | apply Kd.R_alloc | apply Kd.R_drewN | apply Kd.R_drew)); exact Kd.R_mono HO133.out (fun _ hk => by omega)), (pb BK127.out), (pb BK128.out), (pb BK129.out), (pb BK143.out), (pb BK144.out), GW143.out, GE143.out, NB127_143.out, NB143_127.out, NB128_143.out, NB143_128.out, NB129_143.out, NB143_129.out, NB144_143.out, NB143_144.out, GW144.out, GE144.out, NB127_144.out, NB144_127.out, NB128_144.out, NB144_128.out, NB129_144.out, NB144_129.out, (pB HB.out)⟩)
   intro hJ2_4_10
   refine join_ (σ := Nat) 5 #[true, true, true, true, true, true, true, true, false, false, false, true, false, false] (fun s_ => [(22, .agg #[.string t135, .string t136]), (24, .agg #[.string t137, .string t138]), (8, .pointer (some ⟨s_, 0, none⟩))]) (fun s_ w' => (w'.cell? ⟨gb127, 0, none⟩ = some (.string a0_0) ∧ w'.cell? ⟨gb127, 1, none⟩ = some (.string a0_1) ∧ w'.cell? ⟨gb128, 0, none⟩ = some (.string a1_0) ∧ w'.cell? ⟨gb128, 1, none⟩ = some (.string a1_1) ∧ w'.cell? ⟨gb129, 0, none⟩ = some (.string a2_0) ∧ w'.cell? ⟨gb129, 1, none⟩ = some (.string a2_1)) ∧ (Kd.R k38 38 w' w.heap.size (fun k_ => k_ ≠ gb127 ∧ k_ ≠ gb128 ∧ k_ ≠ gb129 ∧ k_ ≠ s_) (.slice Ao26 y131.length co26) y131) ∧ (w'.heap[gb127]? = some (.cells #[.string a0_0, .string a0_1] 38 (0, 0))) ∧ (w'.heap[gb128]? = some (.cells #[.string a1_0, .string a1_1] 38 (0, 0))) ∧ (w'.heap[gb129]? = some (.cells #[.string a2_0, .string a2_1] 38 (0, 0))) ∧ (w'.heap[s_]? = some (.cells #[.string (⟨#[]⟩ : ByteArray), .string (⟨#[]⟩ : ByteArray)] 38 (0, 0))) ∧ (w.heap.size ≤ s_) ∧ (w.heap.size ≤ s_) ∧ (gb127 ≠ s_) ∧ (s_ ≠ gb127) ∧ (gb128 ≠ s_) ∧ (s_ ≠ gb128) ∧ (gb129 ≠ s_) ∧ (s_ ≠ gb129) ∧ (Below w.heap.size w w')) ?_ ?_
   ·
    skip
    rintro gb144 w31 ⟨hS_, h0_, h1_, h2_, h3_, h4_, h5_, h6_, h7_, h8_, h9_, h10_, h11_, h12_, h13_⟩
    clear HO133 BK127 BK128 BK129 HB
    (try dsimp only at h0_ h1_ h2_ h3_ h4_ h5_ h6_ h7_ h8_ h9_ h10_ h11_ h12_ h13_)
    have HO133 := Aside0.mk h0_
    have BK127 := Aside0.mk h1_
    have BK128 := Aside0.mk h2_
    have BK129 := Aside0.mk h3_
    have BK144 := Aside0.mk h4_
    have GW144 := Aside0.mk h5_
    have GE144 := Aside0.mk h6_
    have NB127_144 := Aside0.mk h7_
    have NB144_127 := Aside0.mk h8_
    have NB128_144 := Aside0.mk h9_
    have NB144_128 := Aside0.mk h10_
    have NB129_144 := Aside0.mk h11_
    have NB144_129 := Aside0.mk h12_
    have HB := Aside0.mk h13_
    clear h0_ h1_ h2_ h3_ h4_ h5_ h6_ h7_ h8_ h9_ h10_ h11_ h12_ h13_
    have hHeld : w31.cell? ⟨gb127, 0, none⟩ = some (.string a0_0) ∧ w31.cell? ⟨gb127, 1, none⟩ = some (.string a0_1) ∧ w31.cell? ⟨gb128, 0, none⟩ = some (.string a1_0) ∧ w31.cell? ⟨gb128, 1, none⟩ = some (.string a1_1) ∧ w31.cell? ⟨gb129, 0, none⟩ = some (.string a2_0) ∧ w31.cell? ⟨gb129, 1, none⟩ = some (.string a2_1) := hS_
    refine norm_ (a' := ?_) ?_ ?_
    rotate_left
    · simp only [putAll, Act.put, List.setIfInBounds_toArray, List.set_cons_zero, List.set_cons_succ]; rfl
    refine two_ (i := 8) (j := 10) (Ni := some 28) (Nj := some 7) #[true, true, true, true, true, true, true, true, true, false, false, true, false, false] #[true, true, true, true, true, true, true, true, false, false, true, true, false, false] rfl rfl rfl rfl (two_of HT_.out (by kernel_rfl)) (by decide) (by decide) (fun K hK => ?_) (fun K hK => ?_)
    ·
     skip
     refine goes_ Try.func20 (by kernel_rfl) rfl #[.agg #[.string a2_0, .string a2_1], .agg #[.string a1_0, .string a1_1]] (by rfl) rfl rfl (by (try simp only [List.map_toArray, List.map_cons, List.map_nil]); first | done | rfl | (simp only [List.length_drop, List.length_take]; done) | (simp only [List.length_drop, List.length_take]; rfl)) ?_
     with_reducible refine (span_Meet.calls a2_0 a2_1 a1_0 a1_1 t139 t140 _ A10.out).mono ?_
     rintro e w32 ⟨rfl, hb⟩
     refine ⟨_, rfl, ?_⟩
     replace HO133 := Aside0.mk (Kd.R_below (pR HO133.out) hb)
     replace BK127 := Aside0.mk (blk_below BK127.out hb)
     replace BK128 := Aside0.mk (blk_below BK128.out hb)
     replace BK129 := Aside0.mk (blk_below BK129.out hb)
     replace BK144 := Aside0.mk (blk_below BK144.out hb)
     replace HB := Aside0.mk (below_step (pB HB.out) hb)
     (try clear hb)
     (try clear hb2)
     (try clear hk)
     (try clear hi)
     refine hK.out _ _ ⟨blk_cell BK127.out 0, blk_cell BK127.out 1, blk_cell BK128.out 0, blk_cell BK128.out 1, blk_cell BK129.out 0, blk_cell BK129.out 1⟩ (fun hHeld => ?_)
     clear hK K
     refine norm_ (a' := ?_) ?_ ?_
     rotate_left
     · show Act.put _ (some 28) _ = _; simp only [Act.put, List.setIfInBounds_toArray, List.set_cons_zero, List.set_cons_succ, i64_w, i32_w]; rfl
     exact norm_ rfl (hJ2_4_8_11 (gb144) _ ⟨hHeld, (pR HO133.out), (pb BK127.out), (pb BK128.out), (pb BK129.out), (pb BK144.out), GW144.out, GE144.out, NB127_144.out, NB144_127.out, NB128_144.out, NB144_128.out, NB129_144.out, NB144_129.out, (pB HB.out)⟩)
    skip
    refine box_step ?hg (N := 7) ?hd (cs := #[.string (⟨#[]⟩ : ByteArray), .string (⟨#[]⟩ : ByteArray)]) (t := 38) ?hr ?_; (case hd => rfl); (case hg => rfl); (case hr => first | (go_simp; done) | (go_simp; rfl))
    intro gb143 hg w32 hbox hb
    have BK143 := Aside0.mk (hbox)
    have GW143 := geL hg HB.out
    have GE143 := geL hg HB.out
    have NB127_143 := neL hg BK127.out
    have NB143_127 := neG hg BK127.out
    have NB128_143 := neL hg BK128.out
    have NB143_128 := neG hg BK128.out
    have NB129_143 := neL hg BK129.out
    have NB143_129 := neG hg BK129.out
    have NB144_143 := neL hg BK144.out
    have NB143_144 := neG hg BK144.out
    replace HO133 := Aside0.mk (Kd.R_below (Kd.R_elderB (pR HO133.out) gb143 (Nat.le_of_eq hg.symm)) hb)
    replace BK127 := Aside0.mk (blk_below BK127.out hb)
    replace BK128 := Aside0.mk (blk_below BK128.out hb)
    replace BK129 := Aside0.mk (blk_below BK129.out hb)
    replace BK144 := Aside0.mk (blk_below BK144.out hb)
    replace HB := Aside0.mk (below_step (pB HB.out) hb)
    clear hb hbox hg
    refine hK.out _ _ ⟨blk_cell BK127.out 0, blk_cell BK127.out 1, blk_cell BK128.out 0, blk_cell BK128.out 1, blk_cell BK129.out 0, blk_cell BK129.out 1⟩ (fun hHeld => ?_)
    clear hK K
    refine norm_ (a' := ?_) ?_ ?_
    rotate_left
    · show Act.put _ (some 7) _ = _; simp only [Act.put, List.setIfInBounds_toArray, List.set_cons_zero, List.set_cons_succ, i64_w, i32_w]; rfl
    exact norm_ rfl (hJ2_4_10_11 (gb143, gb144) _ ⟨hHeld, (by (with_reducible repeat (first | apply Kd.R_alloc | apply Kd.R_drewN | apply Kd.R_drew)); exact Kd.R_mono HO133.out (fun _ hk => by omega)), (pb BK127.out), (pb BK128.out), (pb BK129.out), (pb BK143.out), (pb BK144.out), GW143.out, GE143.out, NB127_143.out, NB143_127.out, NB128_143.out, NB143_128.out, NB129_143.out, NB143_129.out, NB144_143.out, NB143_144.out, GW144.out, GE144.out, NB127_144.out, NB144_127.out, NB128_144.out, NB144_128.out, NB129_144.out, NB144_129.out, (pB HB.out)⟩)
   intro hJ2_4_11
   refine join_ (σ := Nat × Nat) 5 #[true, true, true, true, false, true, true, true, false, false, true, true, false, false] (fun s_ => [(22, .agg #[.string t135, .string t136]), (7, .pointer (some ⟨s_.1, 0, none⟩)), (8, .pointer (some ⟨s_.2, 0, none⟩))]) (fun s_ w' => (w'.cell? ⟨gb127, 0, none⟩ = some (.string a0_0) ∧ w'.cell? ⟨gb127, 1, none⟩ = some (.string a0_1) ∧ w'.cell? ⟨gb128, 0, none⟩ = some (.string a1_0) ∧ w'.cell? ⟨gb128, 1, none⟩ = some (.string a1_1) ∧ w'.cell? ⟨gb129, 0, none⟩ = some (.string a2_0) ∧ w'.cell? ⟨gb129, 1, none⟩ = some (.string a2_1)) ∧ (Kd.R k38 38 w' w.heap.size (fun k_ => k_ ≠ gb127 ∧ k_ ≠ gb128 ∧ k_ ≠ gb129 ∧ k_ ≠ s_.1 ∧ k_ ≠ s_.2) (.slice Ao26 y131.length co26) y131) ∧ (w'.heap[gb127]? = some (.cells #[.string a0_0, .string a0_1] 38 (0, 0))) ∧ (w'.heap[gb128]? = some (.cells #[.string a1_0, .string a1_1] 38 (0, 0))) ∧ (w'.heap[gb129]? = some (.cells #[.string a2_0, .string a2_1] 38 (0, 0))) ∧ (w'.heap[s_.1]? = some (.cells #[.string (⟨#[]⟩ : ByteArray), .string (⟨#[]⟩ : ByteArray)] 38 (0, 0))) ∧ (w'.heap[s_.2]? = some (.cells #[.string (⟨#[]⟩ : ByteArray), .string (⟨#[]⟩ : ByteArray)] 38 (0, 0))) ∧ (w.heap.size ≤ s_.1) ∧ (w.heap.size ≤ s_.1) ∧ (gb127 ≠ s_.1) ∧ (s_.1 ≠ gb127) ∧ (gb128 ≠ s_.1) ∧ (s_.1 ≠ gb128) ∧ (gb129 ≠ s_.1) ∧ (s_.1 ≠ gb129) ∧ (s_.2 ≠ s_.1) ∧ (s_.1 ≠ s_.2) ∧ (w.heap.size ≤ s_.2) ∧ (w.heap.size ≤ s_.2) ∧ (gb127 ≠ s_.2) ∧ (s_.2 ≠ gb127) ∧ (gb128 ≠ s_.2) ∧ (s_.2 ≠ gb128) ∧ (gb129 ≠ s_.2) ∧ (s_.2 ≠ gb129) ∧ (Below w.heap.size w w')) ?_ ?_
   ·
    skip
    rintro ⟨gb143, gb144⟩ w31 ⟨hS_, h0_, h1_, h2_, h3_, h4_, h5_, h6_, h7_, h8_, h9_, h10_, h11_, h12_, h13_, h14_, h15_, h16_, h17_, h18_, h19_, h20_, h21_, h22_, h23_, h24_⟩
    clear HO133 BK127 BK128 BK129 HB
    (try dsimp only at h0_ h1_ h2_ h3_ h4_ h5_ h6_ h7_ h8_ h9_ h10_ h11_ h12_ h13_ h14_ h15_ h16_ h17_ h18_ h19_ h20_ h21_ h22_ h23_ h24_)
    have HO133 := Aside0.mk h0_
    have BK127 := Aside0.mk h1_
    have BK128 := Aside0.mk h2_
    have BK129 := Aside0.mk h3_
    have BK143 := Aside0.mk h4_
    have BK144 := Aside0.mk h5_
    have GW143 := Aside0.mk h6_
    have GE143 := Aside0.mk h7_
    have NB127_143 := Aside0.mk h8_
    have NB143_127 := Aside0.mk h9_
    have NB128_143 := Aside0.mk h10_
    have NB143_128 := Aside0.mk h11_
    have NB129_143 := Aside0.mk h12_
    have NB143_129 := Aside0.mk h13_
    have NB144_143 := Aside0.mk h14_
    have NB143_144 := Aside0.mk h15_
    have GW144 := Aside0.mk h16_
    have GE144 := Aside0.mk h17_
    have NB127_144 := Aside0.mk h18_
    have NB144_127 := Aside0.mk h19_
    have NB128_144 := Aside0.mk h20_
    have NB144_128 := Aside0.mk h21_
    have NB129_144 := Aside0.mk h22_
    have NB144_129 := Aside0.mk h23_
    have HB := Aside0.mk h24_
    clear h0_ h1_ h2_ h3_ h4_ h5_ h6_ h7_ h8_ h9_ h10_ h11_ h12_ h13_ h14_ h15_ h16_ h17_ h18_ h19_ h20_ h21_ h22_ h23_ h24_
    have hHeld : w31.cell? ⟨gb127, 0, none⟩ = some (.string a0_0) ∧ w31.cell? ⟨gb127, 1, none⟩ = some (.string a0_1) ∧ w31.cell? ⟨gb128, 0, none⟩ = some (.string a1_0) ∧ w31.cell? ⟨gb128, 1, none⟩ = some (.string a1_1) ∧ w31.cell? ⟨gb129, 0, none⟩ = some (.string a2_0) ∧ w31.cell? ⟨gb129, 1, none⟩ = some (.string a2_1) := hS_
    refine norm_ (a' := ?_) ?_ ?_
    rotate_left
    · simp only [putAll, Act.put, List.setIfInBounds_toArray, List.set_cons_zero, List.set_cons_succ]; rfl
    refine one_ (i := 4) (N := some 24) #[true, true, true, true, true, true, true, true, false, false, true, true, false, false] rfl rfl (one_of HT_.out (by kernel_rfl)) (by decide) (fun K hK => ?_)
    refine goes_ Try.func20 (by kernel_rfl) rfl #[.agg #[.string t135, .string t136], .agg #[.string a2_0, .string a2_1]] (by rfl) rfl rfl (by (try simp only [List.map_toArray, List.map_cons, List.map_nil]); first | done | rfl | (simp only [List.length_drop, List.length_take]; done) | (simp only [List.length_drop, List.length_take]; rfl)) ?_
    with_reducible refine (span_Meet.calls t135 t136 a2_0 a2_1 t137 t138 _ A9.out).mono ?_
    rintro e w32 ⟨rfl, hb⟩
    refine ⟨_, rfl, ?_⟩
    replace HO133 := Aside0.mk (Kd.R_below (pR HO133.out) hb)
    replace BK127 := Aside0.mk (blk_below BK127.out hb)
    replace BK128 := Aside0.mk (blk_below BK128.out hb)
    replace BK129 := Aside0.mk (blk_below BK129.out hb)
    replace BK143 := Aside0.mk (blk_below BK143.out hb)
    replace BK144 := Aside0.mk (blk_below BK144.out hb)
    replace HB := Aside0.mk (below_step (pB HB.out) hb)
    (try clear hb)
    (try clear hb2)
    (try clear hk)
    (try clear hi)
    refine hK.out _ _ ⟨blk_cell BK127.out 0, blk_cell BK127.out 1, blk_cell BK128.out 0, blk_cell BK128.out 1, blk_cell BK129.out 0, blk_cell BK129.out 1⟩ (fun hHeld => ?_)
    clear hK K
    refine norm_ (a' := ?_) ?_ ?_
    rotate_left
    · show Act.put _ (some 24) _ = _; simp only [Act.put, List.setIfInBounds_toArray, List.set_cons_zero, List.set_cons_succ, i64_w, i32_w]; rfl
    exact norm_ rfl (hJ2_4_10_11 (gb143, gb144) _ ⟨hHeld, (pR HO133.out), (pb BK127.out), (pb BK128.out), (pb BK129.out), (pb BK143.out), (pb BK144.out), GW143.out, GE143.out, NB127_143.out, NB143_127.out, NB128_143.out, NB143_128.out, NB129_143.out, NB143_129.out, NB144_143.out, NB143_144.out, GW144.out, GE144.out, NB127_144.out, NB144_127.out, NB128_144.out, NB144_128.out, NB129_144.out, NB144_129.out, (pB HB.out)⟩)
   intro hJ2_10_11
   refine join_ (σ := Unit) 6 #[true, true, true, true, true, true, true, true, false, false, false, false, false, false] (fun s_ => [(22, .agg #[.string t135, .string t136]), (24, .agg #[.string t137, .string t138])]) (fun s_ w' => (w'.cell? ⟨gb127, 0, none⟩ = some (.string a0_0) ∧ w'.cell? ⟨gb127, 1, none⟩ = some (.string a0_1) ∧ w'.cell? ⟨gb128, 0, none⟩ = some (.string a1_0) ∧ w'.cell? ⟨gb128, 1, none⟩ = some (.string a1_1) ∧ w'.cell? ⟨gb129, 0, none⟩ = some (.string a2_0) ∧ w'.cell? ⟨gb129, 1, none⟩ = some (.string a2_1)) ∧ (Kd.R k38 38 w' w.heap.size (fun k_ => k_ ≠ gb127 ∧ k_ ≠ gb128 ∧ k_ ≠ gb129) (.slice Ao26 y131.length co26) y131) ∧ (w'.heap[gb127]? = some (.cells #[.string a0_0, .string a0_1] 38 (0, 0))) ∧ (w'.heap[gb128]? = some (.cells #[.string a1_0, .string a1_1] 38 (0, 0))) ∧ (w'.heap[gb129]? = some (.cells #[.string a2_0, .string a2_1] 38 (0, 0))) ∧ (Below w.heap.size w w')) ?_ ?_
   ·
    skip
    rintro _ w30 ⟨hS_, h0_, h1_, h2_, h3_, h4_⟩
    clear HO133 BK127 BK128 BK129 HB
    (try dsimp only at h0_ h1_ h2_ h3_ h4_)
    have HO133 := Aside0.mk h0_
    have BK127 := Aside0.mk h1_
    have BK128 := Aside0.mk h2_
    have BK129 := Aside0.mk h3_
    have HB := Aside0.mk h4_
    clear h0_ h1_ h2_ h3_ h4_
    have hHeld : w30.cell? ⟨gb127, 0, none⟩ = some (.string a0_0) ∧ w30.cell? ⟨gb127, 1, none⟩ = some (.string a0_1) ∧ w30.cell? ⟨gb128, 0, none⟩ = some (.string a1_0) ∧ w30.cell? ⟨gb128, 1, none⟩ = some (.string a1_1) ∧ w30.cell? ⟨gb129, 0, none⟩ = some (.string a2_0) ∧ w30.cell? ⟨gb129, 1, none⟩ = some (.string a2_1) := hS_
    refine norm_ (a' := ?_) ?_ ?_
    rotate_left
    · simp only [putAll, Act.put, List.setIfInBounds_toArray, List.set_cons_zero, List.set_cons_succ]; rfl
    refine three_ (i := 8) (j := 10) (k := 11) (Ni := some 28) (Nj := some 7) (Nk := some 8) #[true, true, true, true, true, true, true, true, true, false, false, false, false, false] #[true, true, true, true, true, true, true, true, false, false, true, false, false, false] #[true, true, true, true, true, true, true, true, false, false, false, true, false, false] rfl rfl rfl rfl rfl rfl (three_of HT_.out (by kernel_rfl)) (by decide) (by decide) (by decide) (fun K hK => ?_) (fun K hK => ?_) (fun K hK => ?_)
    ·
     skip
     refine goes_ Try.func20 (by kernel_rfl) rfl #[.agg #[.string a2_0, .string a2_1], .agg #[.string a1_0, .string a1_1]] (by rfl) rfl rfl (by (try simp only [List.map_toArray, List.map_cons, List.map_nil]); first | done | rfl | (simp only [List.length_drop, List.length_take]; done) | (simp only [List.length_drop, List.length_take]; rfl)) ?_
     with_reducible refine (span_Meet.calls a2_0 a2_1 a1_0 a1_1 t139 t140 _ A10.out).mono ?_
     rintro e w31 ⟨rfl, hb⟩
     refine ⟨_, rfl, ?_⟩
     replace HO133 := Aside0.mk (Kd.R_below (pR HO133.out) hb)
     replace BK127 := Aside0.mk (blk_below BK127.out hb)
     replace BK128 := Aside0.mk (blk_below BK128.out hb)
     replace BK129 := Aside0.mk (blk_below BK129.out hb)
     replace HB := Aside0.mk (below_step (pB HB.out) hb)
     (try clear hb)
     (try clear hb2)
     (try clear hk)
     (try clear hi)
     refine hK.out _ _ ⟨blk_cell BK127.out 0, blk_cell BK127.out 1, blk_cell BK128.out 0, blk_cell BK128.out 1, blk_cell BK129.out 0, blk_cell BK129.out 1⟩ (fun hHeld => ?_)
     clear hK K
     refine norm_ (a' := ?_) ?_ ?_
     rotate_left
     · show Act.put _ (some 28) _ = _; simp only [Act.put, List.setIfInBounds_toArray, List.set_cons_zero, List.set_cons_succ, i64_w, i32_w]; rfl
     exact norm_ rfl (hJ2_4_8 () _ ⟨hHeld, (pR HO133.out), (pb BK127.out), (pb BK128.out), (pb BK129.out), (pB HB.out)⟩)
    ·
     skip
     refine box_step ?hg (N := 7) ?hd (cs := #[.string (⟨#[]⟩ : ByteArray), .string (⟨#[]⟩ : ByteArray)]) (t := 38) ?hr ?_; (case hd => rfl); (case hg => rfl); (case hr => first | (go_simp; done) | (go_simp; rfl))
     intro gb143 hg w31 hbox hb
     have BK143 := Aside0.mk (hbox)
     have GW143 := geL hg HB.out
     have GE143 := geL hg HB.out
     have NB127_143 := neL hg BK127.out
     have NB143_127 := neG hg BK127.out
     have NB128_143 := neL hg BK128.out
     have NB143_128 := neG hg BK128.out
     have NB129_143 := neL hg BK129.out
     have NB143_129 := neG hg BK129.out
     replace HO133 := Aside0.mk (Kd.R_below (Kd.R_elderB (pR HO133.out) gb143 (Nat.le_of_eq hg.symm)) hb)
     replace BK127 := Aside0.mk (blk_below BK127.out hb)
     replace BK128 := Aside0.mk (blk_below BK128.out hb)
     replace BK129 := Aside0.mk (blk_below BK129.out hb)
     replace HB := Aside0.mk (below_step (pB HB.out) hb)
     clear hb hbox hg
     refine hK.out _ _ ⟨blk_cell BK127.out 0, blk_cell BK127.out 1, blk_cell BK128.out 0, blk_cell BK128.out 1, blk_cell BK129.out 0, blk_cell BK129.out 1⟩ (fun hHeld => ?_)
     clear hK K
     refine norm_ (a' := ?_) ?_ ?_
     rotate_left
     · show Act.put _ (some 7) _ = _; simp only [Act.put, List.setIfInBounds_toArray, List.set_cons_zero, List.set_cons_succ, i64_w, i32_w]; rfl
     exact norm_ rfl (hJ2_4_10 (gb143) _ ⟨hHeld, (by (with_reducible repeat (first | apply Kd.R_alloc | apply Kd.R_drewN | apply Kd.R_drew)); exact Kd.R_mono HO133.out (fun _ hk => by omega)), (pb BK127.out), (pb BK128.out), (pb BK129.out), (pb BK143.out), GW143.out, GE143.out, NB127_143.out, NB143_127.out, NB128_143.out, NB143_128.out, NB129_143.out, NB143_129.out, (pB HB.out)⟩)
    skip
    refine box_step ?hg (N := 8) ?hd (cs := #[.string (⟨#[]⟩ : ByteArray), .string (⟨#[]⟩ : ByteArray)]) (t := 38) ?hr ?_; (case hd => rfl); (case hg => rfl); (case hr => first | (go_simp; done) | (go_simp; rfl))
    intro gb144 hg w31 hbox hb
    have BK144 := Aside0.mk (hbox)
    have GW144 := geL hg HB.out
    have GE144 := geL hg HB.out
    have NB127_144 := neL hg BK127.out
    have NB144_127 := neG hg BK127.out
    have NB128_144 := neL hg BK128.out
    have NB144_128 := neG hg BK128.out
    have NB129_144 := neL hg BK129.out
    have NB144_129 := neG hg BK129.out
    replace HO133 := Aside0.mk (Kd.R_below (Kd.R_elderB (pR HO133.out) gb144 (Nat.le_of_eq hg.symm)) hb)
    replace BK127 := Aside0.mk (blk_below BK127.out hb)
    replace BK128 := Aside0.mk (blk_below BK128.out hb)
    replace BK129 := Aside0.mk (blk_below BK129.out hb)
    replace HB := Aside0.mk (below_step (pB HB.out) hb)
    clear hb hbox hg
    refine hK.out _ _ ⟨blk_cell BK127.out 0, blk_cell BK127.out 1, blk_cell BK128.out 0, blk_cell BK128.out 1, blk_cell BK129.out 0, blk_cell BK129.out 1⟩ (fun hHeld => ?_)
    clear hK K
    refine norm_ (a' := ?_) ?_ ?_
    rotate_left
    · show Act.put _ (some 8) _ = _; simp only [Act.put, List.setIfInBounds_toArray, List.set_cons_zero, List.set_cons_succ, i64_w, i32_w]; rfl
    exact norm_ rfl (hJ2_4_11 (gb144) _ ⟨hHeld, (by (with_reducible repeat (first | apply Kd.R_alloc | apply Kd.R_drewN | apply Kd.R_drew)); exact Kd.R_mono HO133.out (fun _ hk => by omega)), (pb BK127.out), (pb BK128.out), (pb BK129.out), (pb BK144.out), GW144.out, GE144.out, NB127_144.out, NB144_127.out, NB128_144.out, NB144_128.out, NB129_144.out, NB144_129.out, (pB HB.out)⟩)
   intro hJ2_4
   refine join_ (σ := Nat) 6 #[true, true, true, true, false, true, true, true, false, false, true, false, false, false] (fun s_ => [(22, .agg #[.string t135, .string t136]), (7, .pointer (some ⟨s_, 0, none⟩))]) (fun s_ w' => (w'.cell? ⟨gb127, 0, none⟩ = some (.string a0_0) ∧ w'.cell? ⟨gb127, 1, none⟩ = some (.string a0_1) ∧ w'.cell? ⟨gb128, 0, none⟩ = some (.string a1_0) ∧ w'.cell? ⟨gb128, 1, none⟩ = some (.string a1_1) ∧ w'.cell? ⟨gb129, 0, none⟩ = some (.string a2_0) ∧ w'.cell? ⟨gb129, 1, none⟩ = some (.string a2_1)) ∧ (Kd.R k38 38 w' w.heap.size (fun k_ => k_ ≠ gb127 ∧ k_ ≠ gb128 ∧ k_ ≠ gb129 ∧ k_ ≠ s_) (.slice Ao26 y131.length co26) y131) ∧ (w'.heap[gb127]? = some (.cells #[.string a0_0, .string a0_1] 38 (0, 0))) ∧ (w'.heap[gb128]? = some (.cells #[.string a1_0, .string a1_1] 38 (0, 0))) ∧ (w'.heap[gb129]? = some (.cells #[.string a2_0, .string a2_1] 38 (0, 0))) ∧ (w'.heap[s_]? = some (.cells #[.string (⟨#[]⟩ : ByteArray), .string (⟨#[]⟩ : ByteArray)] 38 (0, 0))) ∧ (w.heap.size ≤ s_) ∧ (w.heap.size ≤ s_) ∧ (gb127 ≠ s_) ∧ (s_ ≠ gb127) ∧ (gb128 ≠ s_) ∧ (s_ ≠ gb128) ∧ (gb129 ≠ s_) ∧ (s_ ≠ gb129) ∧ (Below w.heap.size w w')) ?_ ?_
   ·
    skip
    rintro gb143 w30 ⟨hS_, h0_, h1_, h2_, h3_, h4_, h5_, h6_, h7_, h8_, h9_, h10_, h11_, h12_, h13_⟩
    clear HO133 BK127 BK128 BK129 HB
    (try dsimp only at h0_ h1_ h2_ h3_ h4_ h5_ h6_ h7_ h8_ h9_ h10_ h11_ h12_ h13_)
    have HO133 := Aside0.mk h0_
    have BK127 := Aside0.mk h1_
    have BK128 := Aside0.mk h2_
    have BK129 := Aside0.mk h3_
    have BK143 := Aside0.mk h4_
    have GW143 := Aside0.mk h5_
    have GE143 := Aside0.mk h6_
    have NB127_143 := Aside0.mk h7_
    have NB143_127 := Aside0.mk h8_
    have NB128_143 := Aside0.mk h9_
    have NB143_128 := Aside0.mk h10_
    have NB129_143 := Aside0.mk h11_
    have NB143_129 := Aside0.mk h12_
    have HB := Aside0.mk h13_
    clear h0_ h1_ h2_ h3_ h4_ h5_ h6_ h7_ h8_ h9_ h10_ h11_ h12_ h13_
    have hHeld : w30.cell? ⟨gb127, 0, none⟩ = some (.string a0_0) ∧ w30.cell? ⟨gb127, 1, none⟩ = some (.string a0_1) ∧ w30.cell? ⟨gb128, 0, none⟩ = some (.string a1_0) ∧ w30.cell? ⟨gb128, 1, none⟩ = some (.string a1_1) ∧ w30.cell? ⟨gb129, 0, none⟩ = some (.string a2_0) ∧ w30.cell? ⟨gb129, 1, none⟩ = some (.string a2_1) := hS_
    refine norm_ (a' := ?_) ?_ ?_
    rotate_left
    · simp only [putAll, Act.put, List.setIfInBounds_toArray, List.set_cons_zero, List.set_cons_succ]; rfl
    refine two_ (i := 4) (j := 11) (Ni := some 24) (Nj := some 8) #[true, true, true, true, true, true, true, true, false, false, true, false, false, false] #[true, true, true, true, false, true, true, true, false, false, true, true, false, false] rfl rfl rfl rfl (two_of HT_.out (by kernel_rfl)) (by decide) (by decide) (fun K hK => ?_) (fun K hK => ?_)
    ·
     skip
     refine goes_ Try.func20 (by kernel_rfl) rfl #[.agg #[.string t135, .string t136], .agg #[.string a2_0, .string a2_1]] (by rfl) rfl rfl (by (try simp only [List.map_toArray, List.map_cons, List.map_nil]); first | done | rfl | (simp only [List.length_drop, List.length_take]; done) | (simp only [List.length_drop, List.length_take]; rfl)) ?_
     with_reducible refine (span_Meet.calls t135 t136 a2_0 a2_1 t137 t138 _ A9.out).mono ?_
     rintro e w31 ⟨rfl, hb⟩
     refine ⟨_, rfl, ?_⟩
     replace HO133 := Aside0.mk (Kd.R_below (pR HO133.out) hb)
     replace BK127 := Aside0.mk (blk_below BK127.out hb)
     replace BK128 := Aside0.mk (blk_below BK128.out hb)
     replace BK129 := Aside0.mk (blk_below BK129.out hb)
     replace BK143 := Aside0.mk (blk_below BK143.out hb)
     replace HB := Aside0.mk (below_step (pB HB.out) hb)
     (try clear hb)
     (try clear hb2)
     (try clear hk)
     (try clear hi)
     refine hK.out _ _ ⟨blk_cell BK127.out 0, blk_cell BK127.out 1, blk_cell BK128.out 0, blk_cell BK128.out 1, blk_cell BK129.out 0, blk_cell BK129.out 1⟩ (fun hHeld => ?_)
     clear hK K
     refine norm_ (a' := ?_) ?_ ?_
     rotate_left
     · show Act.put _ (some 24) _ = _; simp only [Act.put, List.setIfInBounds_toArray, List.set_cons_zero, List.set_cons_succ, i64_w, i32_w]; rfl
     exact norm_ rfl (hJ2_4_10 (gb143) _ ⟨hHeld, (pR HO133.out), (pb BK127.out), (pb BK128.out), (pb BK129.out), (pb BK143.out), GW143.out, GE143.out, NB127_143.out, NB143_127.out, NB128_143.out, NB143_128.out, NB129_143.out, NB143_129.out, (pB HB.out)⟩)
    skip
    refine box_step ?hg (N := 8) ?hd (cs := #[.string (⟨#[]⟩ : ByteArray), .string (⟨#[]⟩ : ByteArray)]) (t := 38) ?hr ?_; (case hd => rfl); (case hg => rfl); (case hr => first | (go_simp; done) | (go_simp; rfl))
    intro gb144 hg w31 hbox hb
    have BK144 := Aside0.mk (hbox)
    have GW144 := geL hg HB.out
    have GE144 := geL hg HB.out
    have NB127_144 := neL hg BK127.out
    have NB144_127 := neG hg BK127.out
    have NB128_144 := neL hg BK128.out
    have NB144_128 := neG hg BK128.out
    have NB129_144 := neL hg BK129.out
    have NB144_129 := neG hg BK129.out
    have NB143_144 := neL hg BK143.out
    have NB144_143 := neG hg BK143.out
    replace HO133 := Aside0.mk (Kd.R_below (Kd.R_elderB (pR HO133.out) gb144 (Nat.le_of_eq hg.symm)) hb)
    replace BK127 := Aside0.mk (blk_below BK127.out hb)
    replace BK128 := Aside0.mk (blk_below BK128.out hb)
    replace BK129 := Aside0.mk (blk_below BK129.out hb)
    replace BK143 := Aside0.mk (blk_below BK143.out hb)
    replace HB := Aside0.mk (below_step (pB HB.out) hb)
    clear hb hbox hg
    refine hK.out _ _ ⟨blk_cell BK127.out 0, blk_cell BK127.out 1, blk_cell BK128.out 0, blk_cell BK128.out 1, blk_cell BK129.out 0, blk_cell BK129.out 1⟩ (fun hHeld => ?_)
    clear hK K
    refine norm_ (a' := ?_) ?_ ?_
    rotate_left
    · show Act.put _ (some 8) _ = _; simp only [Act.put, List.setIfInBounds_toArray, List.set_cons_zero, List.set_cons_succ, i64_w, i32_w]; rfl
    exact norm_ rfl (hJ2_10_11 (gb143, gb144) _ ⟨hHeld, (by (with_reducible repeat (first | apply Kd.R_alloc | apply Kd.R_drewN | apply Kd.R_drew)); exact Kd.R_mono HO133.out (fun _ hk => by omega)), (pb BK127.out), (pb BK128.out), (pb BK129.out), (pb BK143.out), (pb BK144.out), GW143.out, GE143.out, NB127_143.out, NB143_127.out, NB128_143.out, NB143_128.out, NB129_143.out, NB143_129.out, NB144_143.out, NB143_144.out, GW144.out, GE144.out, NB127_144.out, NB144_127.out, NB128_144.out, NB144_128.out, NB129_144.out, NB144_129.out, (pB HB.out)⟩)
   intro hJ2_10
   refine join_ (σ := Nat) 6 #[true, true, true, true, false, true, true, true, false, false, false, true, false, false] (fun s_ => [(22, .agg #[.string t135, .string t136]), (8, .pointer (some ⟨s_, 0, none⟩))]) (fun s_ w' => (w'.cell? ⟨gb127, 0, none⟩ = some (.string a0_0) ∧ w'.cell? ⟨gb127, 1, none⟩ = some (.string a0_1) ∧ w'.cell? ⟨gb128, 0, none⟩ = some (.string a1_0) ∧ w'.cell? ⟨gb128, 1, none⟩ = some (.string a1_1) ∧ w'.cell? ⟨gb129, 0, none⟩ = some (.string a2_0) ∧ w'.cell? ⟨gb129, 1, none⟩ = some (.string a2_1)) ∧ (Kd.R k38 38 w' w.heap.size (fun k_ => k_ ≠ gb127 ∧ k_ ≠ gb128 ∧ k_ ≠ gb129 ∧ k_ ≠ s_) (.slice Ao26 y131.length co26) y131) ∧ (w'.heap[gb127]? = some (.cells #[.string a0_0, .string a0_1] 38 (0, 0))) ∧ (w'.heap[gb128]? = some (.cells #[.string a1_0, .string a1_1] 38 (0, 0))) ∧ (w'.heap[gb129]? = some (.cells #[.string a2_0, .string a2_1] 38 (0, 0))) ∧ (w'.heap[s_]? = some (.cells #[.string (⟨#[]⟩ : ByteArray), .string (⟨#[]⟩ : ByteArray)] 38 (0, 0))) ∧ (w.heap.size ≤ s_) ∧ (w.heap.size ≤ s_) ∧ (gb127 ≠ s_) ∧ (s_ ≠ gb127) ∧ (gb128 ≠ s_) ∧ (s_ ≠ gb128) ∧ (gb129 ≠ s_) ∧ (s_ ≠ gb129) ∧ (Below w.heap.size w w')) ?_ ?_
   ·
    skip
    rintro gb144 w30 ⟨hS_, h0_, h1_, h2_, h3_, h4_, h5_, h6_, h7_, h8_, h9_, h10_, h11_, h12_, h13_⟩
    clear HO133 BK127 BK128 BK129 HB
    (try dsimp only at h0_ h1_ h2_ h3_ h4_ h5_ h6_ h7_ h8_ h9_ h10_ h11_ h12_ h13_)
    have HO133 := Aside0.mk h0_
    have BK127 := Aside0.mk h1_
    have BK128 := Aside0.mk h2_
    have BK129 := Aside0.mk h3_
    have BK144 := Aside0.mk h4_
    have GW144 := Aside0.mk h5_
    have GE144 := Aside0.mk h6_
    have NB127_144 := Aside0.mk h7_
    have NB144_127 := Aside0.mk h8_
    have NB128_144 := Aside0.mk h9_
    have NB144_128 := Aside0.mk h10_
    have NB129_144 := Aside0.mk h11_
    have NB144_129 := Aside0.mk h12_
    have HB := Aside0.mk h13_
    clear h0_ h1_ h2_ h3_ h4_ h5_ h6_ h7_ h8_ h9_ h10_ h11_ h12_ h13_
    have hHeld : w30.cell? ⟨gb127, 0, none⟩ = some (.string a0_0) ∧ w30.cell? ⟨gb127, 1, none⟩ = some (.string a0_1) ∧ w30.cell? ⟨gb128, 0, none⟩ = some (.string a1_0) ∧ w30.cell? ⟨gb128, 1, none⟩ = some (.string a1_1) ∧ w30.cell? ⟨gb129, 0, none⟩ = some (.string a2_0) ∧ w30.cell? ⟨gb129, 1, none⟩ = some (.string a2_1) := hS_
    refine norm_ (a' := ?_) ?_ ?_
    rotate_left
    · simp only [putAll, Act.put, List.setIfInBounds_toArray, List.set_cons_zero, List.set_cons_succ]; rfl
    refine two_ (i := 4) (j := 10) (Ni := some 24) (Nj := some 7) #[true, true, true, true, true, true, true, true, false, false, false, true, false, false] #[true, true, true, true, false, true, true, true, false, false, true, true, false, false] rfl rfl rfl rfl (two_of HT_.out (by kernel_rfl)) (by decide) (by decide) (fun K hK => ?_) (fun K hK => ?_)
    ·
     skip
     refine goes_ Try.func20 (by kernel_rfl) rfl #[.agg #[.string t135, .string t136], .agg #[.string a2_0, .string a2_1]] (by rfl) rfl rfl (by (try simp only [List.map_toArray, List.map_cons, List.map_nil]); first | done | rfl | (simp only [List.length_drop, List.length_take]; done) | (simp only [List.length_drop, List.length_take]; rfl)) ?_
     with_reducible refine (span_Meet.calls t135 t136 a2_0 a2_1 t137 t138 _ A9.out).mono ?_
     rintro e w31 ⟨rfl, hb⟩
     refine ⟨_, rfl, ?_⟩
     replace HO133 := Aside0.mk (Kd.R_below (pR HO133.out) hb)
     replace BK127 := Aside0.mk (blk_below BK127.out hb)
     replace BK128 := Aside0.mk (blk_below BK128.out hb)
     replace BK129 := Aside0.mk (blk_below BK129.out hb)
     replace BK144 := Aside0.mk (blk_below BK144.out hb)
     replace HB := Aside0.mk (below_step (pB HB.out) hb)
     (try clear hb)
     (try clear hb2)
     (try clear hk)
     (try clear hi)
     refine hK.out _ _ ⟨blk_cell BK127.out 0, blk_cell BK127.out 1, blk_cell BK128.out 0, blk_cell BK128.out 1, blk_cell BK129.out 0, blk_cell BK129.out 1⟩ (fun hHeld => ?_)
     clear hK K
     refine norm_ (a' := ?_) ?_ ?_
     rotate_left
     · show Act.put _ (some 24) _ = _; simp only [Act.put, List.setIfInBounds_toArray, List.set_cons_zero, List.set_cons_succ, i64_w, i32_w]; rfl
     exact norm_ rfl (hJ2_4_11 (gb144) _ ⟨hHeld, (pR HO133.out), (pb BK127.out), (pb BK128.out), (pb BK129.out), (pb BK144.out), GW144.out, GE144.out, NB127_144.out, NB144_127.out, NB128_144.out, NB144_128.out, NB129_144.out, NB144_129.out, (pB HB.out)⟩)
    skip
    refine box_step ?hg (N := 7) ?hd (cs := #[.string (⟨#[]⟩ : ByteArray), .string (⟨#[]⟩ : ByteArray)]) (t := 38) ?hr ?_; (case hd => rfl); (case hg => rfl); (case hr => first | (go_simp; done) | (go_simp; rfl))
    intro gb143 hg w31 hbox hb
    have BK143 := Aside0.mk (hbox)
    have GW143 := geL hg HB.out
    have GE143 := geL hg HB.out
    have NB127_143 := neL hg BK127.out
    have NB143_127 := neG hg BK127.out
    have NB128_143 := neL hg BK128.out
    have NB143_128 := neG hg BK128.out
    have NB129_143 := neL hg BK129.out
    have NB143_129 := neG hg BK129.out
    have NB144_143 := neL hg BK144.out
    have NB143_144 := neG hg BK144.out
    replace HO133 := Aside0.mk (Kd.R_below (Kd.R_elderB (pR HO133.out) gb143 (Nat.le_of_eq hg.symm)) hb)
    replace BK127 := Aside0.mk (blk_below BK127.out hb)
    replace BK128 := Aside0.mk (blk_below BK128.out hb)
    replace BK129 := Aside0.mk (blk_below BK129.out hb)
    replace BK144 := Aside0.mk (blk_below BK144.out hb)
    replace HB := Aside0.mk (below_step (pB HB.out) hb)
    clear hb hbox hg
    refine hK.out _ _ ⟨blk_cell BK127.out 0, blk_cell BK127.out 1, blk_cell BK128.out 0, blk_cell BK128.out 1, blk_cell BK129.out 0, blk_cell BK129.out 1⟩ (fun hHeld => ?_)
    clear hK K
    refine norm_ (a' := ?_) ?_ ?_
    rotate_left
    · show Act.put _ (some 7) _ = _; simp only [Act.put, List.setIfInBounds_toArray, List.set_cons_zero, List.set_cons_succ, i64_w, i32_w]; rfl
    exact norm_ rfl (hJ2_10_11 (gb143, gb144) _ ⟨hHeld, (by (with_reducible repeat (first | apply Kd.R_alloc | apply Kd.R_drewN | apply Kd.R_drew)); exact Kd.R_mono HO133.out (fun _ hk => by omega)), (pb BK127.out), (pb BK128.out), (pb BK129.out), (pb BK143.out), (pb BK144.out), GW143.out, GE143.out, NB127_143.out, NB143_127.out, NB128_143.out, NB143_128.out, NB129_143.out, NB143_129.out, NB144_143.out, NB143_144.out, GW144.out, GE144.out, NB127_144.out, NB144_127.out, NB128_144.out, NB144_128.out, NB129_144.out, NB144_129.out, (pB HB.out)⟩)
   intro hJ2_11
   refine join_ (σ := Nat × Nat) 6 #[true, true, false, true, false, true, true, true, false, false, true, true, false, false] (fun s_ => [(7, .pointer (some ⟨s_.1, 0, none⟩)), (8, .pointer (some ⟨s_.2, 0, none⟩))]) (fun s_ w' => (w'.cell? ⟨gb127, 0, none⟩ = some (.string a0_0) ∧ w'.cell? ⟨gb127, 1, none⟩ = some (.string a0_1) ∧ w'.cell? ⟨gb128, 0, none⟩ = some (.string a1_0) ∧ w'.cell? ⟨gb128, 1, none⟩ = some (.string a1_1) ∧ w'.cell? ⟨gb129, 0, none⟩ = some (.string a2_0) ∧ w'.cell? ⟨gb129, 1, none⟩ = some (.string a2_1)) ∧ (Kd.R k38 38 w' w.heap.size (fun k_ => k_ ≠ gb127 ∧ k_ ≠ gb128 ∧ k_ ≠ gb129 ∧ k_ ≠ s_.1 ∧ k_ ≠ s_.2) (.slice Ao26 y131.length co26) y131) ∧ (w'.heap[gb127]? = some (.cells #[.string a0_0, .string a0_1] 38 (0, 0))) ∧ (w'.heap[gb128]? = some (.cells #[.string a1_0, .string a1_1] 38 (0, 0))) ∧ (w'.heap[gb129]? = some (.cells #[.string a2_0, .string a2_1] 38 (0, 0))) ∧ (w'.heap[s_.1]? = some (.cells #[.string (⟨#[]⟩ : ByteArray), .string (⟨#[]⟩ : ByteArray)] 38 (0, 0))) ∧ (w'.heap[s_.2]? = some (.cells #[.string (⟨#[]⟩ : ByteArray), .string (⟨#[]⟩ : ByteArray)] 38 (0, 0))) ∧ (w.heap.size ≤ s_.1) ∧ (w.heap.size ≤ s_.1) ∧ (gb127 ≠ s_.1) ∧ (s_.1 ≠ gb127) ∧ (gb128 ≠ s_.1) ∧ (s_.1 ≠ gb128) ∧ (gb129 ≠ s_.1) ∧ (s_.1 ≠ gb129) ∧ (s_.2 ≠ s_.1) ∧ (s_.1 ≠ s_.2) ∧ (w.heap.size ≤ s_.2) ∧ (w.heap.size ≤ s_.2) ∧ (gb127 ≠ s_.2) ∧ (s_.2 ≠ gb127) ∧ (gb128 ≠ s_.2) ∧ (s_.2 ≠ gb128) ∧ (gb129 ≠ s_.2) ∧ (s_.2 ≠ gb129) ∧ (Below w.heap.size w w')) ?_ ?_
   ·
    skip
    rintro ⟨gb143, gb144⟩ w30 ⟨hS_, h0_, h1_, h2_, h3_, h4_, h5_, h6_, h7_, h8_, h9_, h10_, h11_, h12_, h13_, h14_, h15_, h16_, h17_, h18_, h19_, h20_, h21_, h22_, h23_, h24_⟩
    clear HO133 BK127 BK128 BK129 HB
    (try dsimp only at h0_ h1_ h2_ h3_ h4_ h5_ h6_ h7_ h8_ h9_ h10_ h11_ h12_ h13_ h14_ h15_ h16_ h17_ h18_ h19_ h20_ h21_ h22_ h23_ h24_)
    have HO133 := Aside0.mk h0_
    have BK127 := Aside0.mk h1_
    have BK128 := Aside0.mk h2_
    have BK129 := Aside0.mk h3_
    have BK143 := Aside0.mk h4_
    have BK144 := Aside0.mk h5_
    have GW143 := Aside0.mk h6_
    have GE143 := Aside0.mk h7_
    have NB127_143 := Aside0.mk h8_
    have NB143_127 := Aside0.mk h9_
    have NB128_143 := Aside0.mk h10_
    have NB143_128 := Aside0.mk h11_
    have NB129_143 := Aside0.mk h12_
    have NB143_129 := Aside0.mk h13_
    have NB144_143 := Aside0.mk h14_
    have NB143_144 := Aside0.mk h15_
    have GW144 := Aside0.mk h16_
    have GE144 := Aside0.mk h17_
    have NB127_144 := Aside0.mk h18_
    have NB144_127 := Aside0.mk h19_
    have NB128_144 := Aside0.mk h20_
    have NB144_128 := Aside0.mk h21_
    have NB129_144 := Aside0.mk h22_
    have NB144_129 := Aside0.mk h23_
    have HB := Aside0.mk h24_
    clear h0_ h1_ h2_ h3_ h4_ h5_ h6_ h7_ h8_ h9_ h10_ h11_ h12_ h13_ h14_ h15_ h16_ h17_ h18_ h19_ h20_ h21_ h22_ h23_ h24_
    have hHeld : w30.cell? ⟨gb127, 0, none⟩ = some (.string a0_0) ∧ w30.cell? ⟨gb127, 1, none⟩ = some (.string a0_1) ∧ w30.cell? ⟨gb128, 0, none⟩ = some (.string a1_0) ∧ w30.cell? ⟨gb128, 1, none⟩ = some (.string a1_1) ∧ w30.cell? ⟨gb129, 0, none⟩ = some (.string a2_0) ∧ w30.cell? ⟨gb129, 1, none⟩ = some (.string a2_1) := hS_
    refine norm_ (a' := ?_) ?_ ?_
    rotate_left
    · simp only [putAll, Act.put, List.setIfInBounds_toArray, List.set_cons_zero, List.set_cons_succ]; rfl
    refine one_ (i := 2) (N := some 22) #[true, true, true, true, false, true, true, true, false, false, true, true, false, false] rfl rfl (one_of HT_.out (by kernel_rfl)) (by decide) (fun K hK => ?_)
    refine goes_ Try.func20 (by kernel_rfl) rfl #[.agg #[.string a0_0, .string a0_1], .agg #[.string a1_0, .string a1_1]] (by rfl) rfl rfl (by (try simp only [List.map_toArray, List.map_cons, List.map_nil]); first | done | rfl | (simp only [List.length_drop, List.length_take]; done) | (simp only [List.length_drop, List.length_take]; rfl)) ?_
    with_reducible refine (span_Meet.calls a0_0 a0_1 a1_0 a1_1 t135 t136 _ A8.out).mono ?_
    rintro e w31 ⟨rfl, hb⟩
    refine ⟨_, rfl, ?_⟩
    replace HO133 := Aside0.mk (Kd.R_below (pR HO133.out) hb)
    replace BK127 := Aside0.mk (blk_below BK127.out hb)
    replace BK128 := Aside0.mk (blk_below BK128.out hb)
    replace BK129 := Aside0.mk (blk_below BK129.out hb)
    replace BK143 := Aside0.mk (blk_below BK143.out hb)
    replace BK144 := Aside0.mk (blk_below BK144.out hb)
    replace HB := Aside0.mk (below_step (pB HB.out) hb)
    (try clear hb)
    (try clear hb2)
    (try clear hk)
    (try clear hi)
    refine hK.out _ _ ⟨blk_cell BK127.out 0, blk_cell BK127.out 1, blk_cell BK128.out 0, blk_cell BK128.out 1, blk_cell BK129.out 0, blk_cell BK129.out 1⟩ (fun hHeld => ?_)
    clear hK K
    refine norm_ (a' := ?_) ?_ ?_
    rotate_left
    · show Act.put _ (some 22) _ = _; simp only [Act.put, List.setIfInBounds_toArray, List.set_cons_zero, List.set_cons_succ, i64_w, i32_w]; rfl
    exact norm_ rfl (hJ2_10_11 (gb143, gb144) _ ⟨hHeld, (pR HO133.out), (pb BK127.out), (pb BK128.out), (pb BK129.out), (pb BK143.out), (pb BK144.out), GW143.out, GE143.out, NB127_143.out, NB143_127.out, NB128_143.out, NB143_128.out, NB129_143.out, NB143_129.out, NB144_143.out, NB143_144.out, GW144.out, GE144.out, NB127_144.out, NB144_127.out, NB128_144.out, NB144_128.out, NB129_144.out, NB144_129.out, (pB HB.out)⟩)
   intro hJ10_11
   refine join_ (σ := Unit) 7 #[true, true, true, true, false, true, true, true, false, false, false, false, false, false] (fun s_ => [(22, .agg #[.string t135, .string t136])]) (fun s_ w' => (w'.cell? ⟨gb127, 0, none⟩ = some (.string a0_0) ∧ w'.cell? ⟨gb127, 1, none⟩ = some (.string a0_1) ∧ w'.cell? ⟨gb128, 0, none⟩ = some (.string a1_0) ∧ w'.cell? ⟨gb128, 1, none⟩ = some (.string a1_1) ∧ w'.cell? ⟨gb129, 0, none⟩ = some (.string a2_0) ∧ w'.cell? ⟨gb129, 1, none⟩ = some (.string a2_1)) ∧ (Kd.R k38 38 w' w.heap.size (fun k_ => k_ ≠ gb127 ∧ k_ ≠ gb128 ∧ k_ ≠ gb129) (.slice Ao26 y131.length co26) y131) ∧ (w'.heap[gb127]? = some (.cells #[.string a0_0, .string a0_1] 38 (0, 0))) ∧ (w'.heap[gb128]? = some (.cells #[.string a1_0, .string a1_1] 38 (0, 0))) ∧ (w'.heap[gb129]? = some (.cells #[.string a2_0, .string a2_1] 38 (0, 0))) ∧ (Below w.heap.size w w')) ?_ ?_
   ·
    skip
    rintro _ w29 ⟨hS_, h0_, h1_, h2_, h3_, h4_⟩
    clear HO133 BK127 BK128 BK129 HB
    (try dsimp only at h0_ h1_ h2_ h3_ h4_)
    have HO133 := Aside0.mk h0_
    have BK127 := Aside0.mk h1_
    have BK128 := Aside0.mk h2_
    have BK129 := Aside0.mk h3_
    have HB := Aside0.mk h4_
    clear h0_ h1_ h2_ h3_ h4_
    have hHeld : w29.cell? ⟨gb127, 0, none⟩ = some (.string a0_0) ∧ w29.cell? ⟨gb127, 1, none⟩ = some (.string a0_1) ∧ w29.cell? ⟨gb128, 0, none⟩ = some (.string a1_0) ∧ w29.cell? ⟨gb128, 1, none⟩ = some (.string a1_1) ∧ w29.cell? ⟨gb129, 0, none⟩ = some (.string a2_0) ∧ w29.cell? ⟨gb129, 1, none⟩ = some (.string a2_1) := hS_
    refine norm_ (a' := ?_) ?_ ?_
    rotate_left
    · simp only [putAll, Act.put, List.setIfInBounds_toArray, List.set_cons_zero, List.set_cons_succ]; rfl
    refine three_ (i := 4) (j := 10) (k := 11) (Ni := some 24) (Nj := some 7) (Nk := some 8) #[true, true, true, true, true, true, true, true, false, false, false, false, false, false] #[true, true, true, true, false, true, true, true, false, false, true, false, false, false] #[true, true, true, true, false, true, true, true, false, false, false, true, false, false] rfl rfl rfl rfl rfl rfl (three_of HT_.out (by kernel_rfl)) (by decide) (by decide) (by decide) (fun K hK => ?_) (fun K hK => ?_) (fun K hK => ?_)
    ·
     skip
     refine goes_ Try.func20 (by kernel_rfl) rfl #[.agg #[.string t135, .string t136], .agg #[.string a2_0, .string a2_1]] (by rfl) rfl rfl (by (try simp only [List.map_toArray, List.map_cons, List.map_nil]); first | done | rfl | (simp only [List.length_drop, List.length_take]; done) | (simp only [List.length_drop, List.length_take]; rfl)) ?_
     with_reducible refine (span_Meet.calls t135 t136 a2_0 a2_1 t137 t138 _ A9.out).mono ?_
     rintro e w30 ⟨rfl, hb⟩
     refine ⟨_, rfl, ?_⟩
     replace HO133 := Aside0.mk (Kd.R_below (pR HO133.out) hb)
     replace BK127 := Aside0.mk (blk_below BK127.out hb)
     replace BK128 := Aside0.mk (blk_below BK128.out hb)
     replace BK129 := Aside0.mk (blk_below BK129.out hb)
     replace HB := Aside0.mk (below_step (pB HB.out) hb)
     (try clear hb)
     (try clear hb2)
     (try clear hk)
     (try clear hi)
     refine hK.out _ _ ⟨blk_cell BK127.out 0, blk_cell BK127.out 1, blk_cell BK128.out 0, blk_cell BK128.out 1, blk_cell BK129.out 0, blk_cell BK129.out 1⟩ (fun hHeld => ?_)
     clear hK K
     refine norm_ (a' := ?_) ?_ ?_
     rotate_left
     · show Act.put _ (some 24) _ = _; simp only [Act.put, List.setIfInBounds_toArray, List.set_cons_zero, List.set_cons_succ, i64_w, i32_w]; rfl
     exact norm_ rfl (hJ2_4 () _ ⟨hHeld, (pR HO133.out), (pb BK127.out), (pb BK128.out), (pb BK129.out), (pB HB.out)⟩)
    ·
     skip
     refine box_step ?hg (N := 7) ?hd (cs := #[.string (⟨#[]⟩ : ByteArray), .string (⟨#[]⟩ : ByteArray)]) (t := 38) ?hr ?_; (case hd => rfl); (case hg => rfl); (case hr => first | (go_simp; done) | (go_simp; rfl))
     intro gb143 hg w30 hbox hb
     have BK143 := Aside0.mk (hbox)
     have GW143 := geL hg HB.out
     have GE143 := geL hg HB.out
     have NB127_143 := neL hg BK127.out
     have NB143_127 := neG hg BK127.out
     have NB128_143 := neL hg BK128.out
     have NB143_128 := neG hg BK128.out
     have NB129_143 := neL hg BK129.out
     have NB143_129 := neG hg BK129.out
     replace HO133 := Aside0.mk (Kd.R_below (Kd.R_elderB (pR HO133.out) gb143 (Nat.le_of_eq hg.symm)) hb)
     replace BK127 := Aside0.mk (blk_below BK127.out hb)
     replace BK128 := Aside0.mk (blk_below BK128.out hb)
     replace BK129 := Aside0.mk (blk_below BK129.out hb)
     replace HB := Aside0.mk (below_step (pB HB.out) hb)
     clear hb hbox hg
     refine hK.out _ _ ⟨blk_cell BK127.out 0, blk_cell BK127.out 1, blk_cell BK128.out 0, blk_cell BK128.out 1, blk_cell BK129.out 0, blk_cell BK129.out 1⟩ (fun hHeld => ?_)
     clear hK K
     refine norm_ (a' := ?_) ?_ ?_
     rotate_left
     · show Act.put _ (some 7) _ = _; simp only [Act.put, List.setIfInBounds_toArray, List.set_cons_zero, List.set_cons_succ, i64_w, i32_w]; rfl
     exact norm_ rfl (hJ2_10 (gb143) _ ⟨hHeld, (by (with_reducible repeat (first | apply Kd.R_alloc | apply Kd.R_drewN | apply Kd.R_drew)); exact Kd.R_mono HO133.out (fun _ hk => by omega)), (pb BK127.out), (pb BK128.out), (pb BK129.out), (pb BK143.out), GW143.out, GE143.out, NB127_143.out, NB143_127.out, NB128_143.out, NB143_128.out, NB129_143.out, NB143_129.out, (pB HB.out)⟩)
    skip
    refine box_step ?hg (N := 8) ?hd (cs := #[.string (⟨#[]⟩ : ByteArray), .string (⟨#[]⟩ : ByteArray)]) (t := 38) ?hr ?_; (case hd => rfl); (case hg => rfl); (case hr => first | (go_simp; done) | (go_simp; rfl))
    intro gb144 hg w30 hbox hb
    have BK144 := Aside0.mk (hbox)
    have GW144 := geL hg HB.out
    have GE144 := geL hg HB.out
    have NB127_144 := neL hg BK127.out
    have NB144_127 := neG hg BK127.out
    have NB128_144 := neL hg BK128.out
    have NB144_128 := neG hg BK128.out
    have NB129_144 := neL hg BK129.out
    have NB144_129 := neG hg BK129.out
    replace HO133 := Aside0.mk (Kd.R_below (Kd.R_elderB (pR HO133.out) gb144 (Nat.le_of_eq hg.symm)) hb)
    replace BK127 := Aside0.mk (blk_below BK127.out hb)
    replace BK128 := Aside0.mk (blk_below BK128.out hb)
    replace BK129 := Aside0.mk (blk_below BK129.out hb)
    replace HB := Aside0.mk (below_step (pB HB.out) hb)
    clear hb hbox hg
    refine hK.out _ _ ⟨blk_cell BK127.out 0, blk_cell BK127.out 1, blk_cell BK128.out 0, blk_cell BK128.out 1, blk_cell BK129.out 0, blk_cell BK129.out 1⟩ (fun hHeld => ?_)
    clear hK K
    refine norm_ (a' := ?_) ?_ ?_
    rotate_left
    · show Act.put _ (some 8) _ = _; simp only [Act.put, List.setIfInBounds_toArray, List.set_cons_zero, List.set_cons_succ, i64_w, i32_w]; rfl
    exact norm_ rfl (hJ2_11 (gb144) _ ⟨hHeld, (by (with_reducible repeat (first | apply Kd.R_alloc | apply Kd.R_drewN | apply Kd.R_drew)); exact Kd.R_mono HO133.out (fun _ hk => by omega)), (pb BK127.out), (pb BK128.out), (pb BK129.out), (pb BK144.out), GW144.out, GE144.out, NB127_144.out, NB144_127.out, NB128_144.out, NB144_128.out, NB129_144.out, NB144_129.out, (pB HB.out)⟩)
   intro hJ2
   refine join_ (σ := Nat) 7 #[true, true, false, true, false, true, true, true, false, false, true, false, false, false] (fun s_ => [(7, .pointer (some ⟨s_, 0, none⟩))]) (fun s_ w' => (w'.cell? ⟨gb127, 0, none⟩ = some (.string a0_0) ∧ w'.cell? ⟨gb127, 1, none⟩ = some (.string a0_1) ∧ w'.cell? ⟨gb128, 0, none⟩ = some (.string a1_0) ∧ w'.cell? ⟨gb128, 1, none⟩ = some (.string a1_1) ∧ w'.cell? ⟨gb129, 0, none⟩ = some (.string a2_0) ∧ w'.cell? ⟨gb129, 1, none⟩ = some (.string a2_1)) ∧ (Kd.R k38 38 w' w.heap.size (fun k_ => k_ ≠ gb127 ∧ k_ ≠ gb128 ∧ k_ ≠ gb129 ∧ k_ ≠ s_) (.slice Ao26 y131.length co26) y131) ∧ (w'.heap[gb127]? = some (.cells #[.string a0_0, .string a0_1] 38 (0, 0))) ∧ (w'.heap[gb128]? = some (.cells #[.string a1_0, .string a1_1] 38 (0, 0))) ∧ (w'.heap[gb129]? = some (.cells #[.string a2_0, .string a2_1] 38 (0, 0))) ∧ (w'.heap[s_]? = some (.cells #[.string (⟨#[]⟩ : ByteArray), .string (⟨#[]⟩ : ByteArray)] 38 (0, 0))) ∧ (w.heap.size ≤ s_) ∧ (w.heap.size ≤ s_) ∧ (gb127 ≠ s_) ∧ (s_ ≠ gb127) ∧ (gb128 ≠ s_) ∧ (s_ ≠ gb128) ∧ (gb129 ≠ s_) ∧ (s_ ≠ gb129) ∧ (Below w.heap.size w w')) ?_ ?_
   ·
    skip
    rintro gb143 w29 ⟨hS_, h0_, h1_, h2_, h3_, h4_, h5_, h6_, h7_, h8_, h9_, h10_, h11_, h12_, h13_⟩
    clear HO133 BK127 BK128 BK129 HB
    (try dsimp only at h0_ h1_ h2_ h3_ h4_ h5_ h6_ h7_ h8_ h9_ h10_ h11_ h12_ h13_)
    have HO133 := Aside0.mk h0_
    have BK127 := Aside0.mk h1_
    have BK128 := Aside0.mk h2_
    have BK129 := Aside0.mk h3_
    have BK143 := Aside0.mk h4_
    have GW143 := Aside0.mk h5_
    have GE143 := Aside0.mk h6_
    have NB127_143 := Aside0.mk h7_
    have NB143_127 := Aside0.mk h8_
    have NB128_143 := Aside0.mk h9_
    have NB143_128 := Aside0.mk h10_
    have NB129_143 := Aside0.mk h11_
    have NB143_129 := Aside0.mk h12_
    have HB := Aside0.mk h13_
    clear h0_ h1_ h2_ h3_ h4_ h5_ h6_ h7_ h8_ h9_ h10_ h11_ h12_ h13_
    have hHeld : w29.cell? ⟨gb127, 0, none⟩ = some (.string a0_0) ∧ w29.cell? ⟨gb127, 1, none⟩ = some (.string a0_1) ∧ w29.cell? ⟨gb128, 0, none⟩ = some (.string a1_0) ∧ w29.cell? ⟨gb128, 1, none⟩ = some (.string a1_1) ∧ w29.cell? ⟨gb129, 0, none⟩ = some (.string a2_0) ∧ w29.cell? ⟨gb129, 1, none⟩ = some (.string a2_1) := hS_
    refine norm_ (a' := ?_) ?_ ?_
    rotate_left
    · simp only [putAll, Act.put, List.setIfInBounds_toArray, List.set_cons_zero, List.set_cons_succ]; rfl
    refine two_ (i := 2) (j := 11) (Ni := some 22) (Nj := some 8) #[true, true, true, true, false, true, true, true, false, false, true, false, false, false] #[true, true, false, true, false, true, true, true, false, false, true, true, false, false] rfl rfl rfl rfl (two_of HT_.out (by kernel_rfl)) (by decide) (by decide) (fun K hK => ?_) (fun K hK => ?_)
    ·
     skip
     refine goes_ Try.func20 (by kernel_rfl) rfl #[.agg #[.string a0_0, .string a0_1], .agg #[.string a1_0, .string a1_1]] (by rfl) rfl rfl (by (try simp only [List.map_toArray, List.map_cons, List.map_nil]); first | done | rfl | (simp only [List.length_drop, List.length_take]; done) | (simp only [List.length_drop, List.length_take]; rfl)) ?_
     with_reducible refine (span_Meet.calls a0_0 a0_1 a1_0 a1_1 t135 t136 _ A8.out).mono ?_
     rintro e w30 ⟨rfl, hb⟩
     refine ⟨_, rfl, ?_⟩
     replace HO133 := Aside0.mk (Kd.R_below (pR HO133.out) hb)
     replace BK127 := Aside0.mk (blk_below BK127.out hb)
     replace BK128 := Aside0.mk (blk_below BK128.out hb)
     replace BK129 := Aside0.mk (blk_below BK129.out hb)
     replace BK143 := Aside0.mk (blk_below BK143.out hb)
     replace HB := Aside0.mk (below_step (pB HB.out) hb)
     (try clear hb)
     (try clear hb2)
     (try clear hk)
     (try clear hi)
     refine hK.out _ _ ⟨blk_cell BK127.out 0, blk_cell BK127.out 1, blk_cell BK128.out 0, blk_cell BK128.out 1, blk_cell BK129.out 0, blk_cell BK129.out 1⟩ (fun hHeld => ?_)
     clear hK K
     refine norm_ (a' := ?_) ?_ ?_
     rotate_left
     · show Act.put _ (some 22) _ = _; simp only [Act.put, List.setIfInBounds_toArray, List.set_cons_zero, List.set_cons_succ, i64_w, i32_w]; rfl
     exact norm_ rfl (hJ2_10 (gb143) _ ⟨hHeld, (pR HO133.out), (pb BK127.out), (pb BK128.out), (pb BK129.out), (pb BK143.out), GW143.out, GE143.out, NB127_143.out, NB143_127.out, NB128_143.out, NB143_128.out, NB129_143.out, NB143_129.out, (pB HB.out)⟩)
    skip
    refine box_step ?hg (N := 8) ?hd (cs := #[.string (⟨#[]⟩ : ByteArray), .string (⟨#[]⟩ : ByteArray)]) (t := 38) ?hr ?_; (case hd => rfl); (case hg => rfl); (case hr => first | (go_simp; done) | (go_simp; rfl))
    intro gb144 hg w30 hbox hb
    have BK144 := Aside0.mk (hbox)
    have GW144 := geL hg HB.out
    have GE144 := geL hg HB.out
    have NB127_144 := neL hg BK127.out
    have NB144_127 := neG hg BK127.out
    have NB128_144 := neL hg BK128.out
    have NB144_128 := neG hg BK128.out
    have NB129_144 := neL hg BK129.out
    have NB144_129 := neG hg BK129.out
    have NB143_144 := neL hg BK143.out
    have NB144_143 := neG hg BK143.out
    replace HO133 := Aside0.mk (Kd.R_below (Kd.R_elderB (pR HO133.out) gb144 (Nat.le_of_eq hg.symm)) hb)
    replace BK127 := Aside0.mk (blk_below BK127.out hb)
    replace BK128 := Aside0.mk (blk_below BK128.out hb)
    replace BK129 := Aside0.mk (blk_below BK129.out hb)
    replace BK143 := Aside0.mk (blk_below BK143.out hb)
    replace HB := Aside0.mk (below_step (pB HB.out) hb)
    clear hb hbox hg
    refine hK.out _ _ ⟨blk_cell BK127.out 0, blk_cell BK127.out 1, blk_cell BK128.out 0, blk_cell BK128.out 1, blk_cell BK129.out 0, blk_cell BK129.out 1⟩ (fun hHeld => ?_)
    clear hK K
    refine norm_ (a' := ?_) ?_ ?_
    rotate_left
    · show Act.put _ (some 8) _ = _; simp only [Act.put, List.setIfInBounds_toArray, List.set_cons_zero, List.set_cons_succ, i64_w, i32_w]; rfl
    exact norm_ rfl (hJ10_11 (gb143, gb144) _ ⟨hHeld, (by (with_reducible repeat (first | apply Kd.R_alloc | apply Kd.R_drewN | apply Kd.R_drew)); exact Kd.R_mono HO133.out (fun _ hk => by omega)), (pb BK127.out), (pb BK128.out), (pb BK129.out), (pb BK143.out), (pb BK144.out), GW143.out, GE143.out, NB127_143.out, NB143_127.out, NB128_143.out, NB143_128.out, NB129_143.out, NB143_129.out, NB144_143.out, NB143_144.out, GW144.out, GE144.out, NB127_144.out, NB144_127.out, NB128_144.out, NB144_128.out, NB129_144.out, NB144_129.out, (pB HB.out)⟩)
   intro hJ10
   refine join_ (σ := Nat) 7 #[true, true, false, true, false, true, true, true, false, false, false, true, false, false] (fun s_ => [(8, .pointer (some ⟨s_, 0, none⟩))]) (fun s_ w' => (w'.cell? ⟨gb127, 0, none⟩ = some (.string a0_0) ∧ w'.cell? ⟨gb127, 1, none⟩ = some (.string a0_1) ∧ w'.cell? ⟨gb128, 0, none⟩ = some (.string a1_0) ∧ w'.cell? ⟨gb128, 1, none⟩ = some (.string a1_1) ∧ w'.cell? ⟨gb129, 0, none⟩ = some (.string a2_0) ∧ w'.cell? ⟨gb129, 1, none⟩ = some (.string a2_1)) ∧ (Kd.R k38 38 w' w.heap.size (fun k_ => k_ ≠ gb127 ∧ k_ ≠ gb128 ∧ k_ ≠ gb129 ∧ k_ ≠ s_) (.slice Ao26 y131.length co26) y131) ∧ (w'.heap[gb127]? = some (.cells #[.string a0_0, .string a0_1] 38 (0, 0))) ∧ (w'.heap[gb128]? = some (.cells #[.string a1_0, .string a1_1] 38 (0, 0))) ∧ (w'.heap[gb129]? = some (.cells #[.string a2_0, .string a2_1] 38 (0, 0))) ∧ (w'.heap[s_]? = some (.cells #[.string (⟨#[]⟩ : ByteArray), .string (⟨#[]⟩ : ByteArray)] 38 (0, 0))) ∧ (w.heap.size ≤ s_) ∧ (w.heap.size ≤ s_) ∧ (gb127 ≠ s_) ∧ (s_ ≠ gb127) ∧ (gb128 ≠ s_) ∧ (s_ ≠ gb128) ∧ (gb129 ≠ s_) ∧ (s_ ≠ gb129) ∧ (Below w.heap.size w w')) ?_ ?_
   ·
    skip
    rintro gb144 w29 ⟨hS_, h0_, h1_, h2_, h3_, h4_, h5_, h6_, h7_, h8_, h9_, h10_, h11_, h12_, h13_⟩
    clear HO133 BK127 BK128 BK129 HB
    (try dsimp only at h0_ h1_ h2_ h3_ h4_ h5_ h6_ h7_ h8_ h9_ h10_ h11_ h12_ h13_)
    have HO133 := Aside0.mk h0_
    have BK127 := Aside0.mk h1_
    have BK128 := Aside0.mk h2_
    have BK129 := Aside0.mk h3_
    have BK144 := Aside0.mk h4_
    have GW144 := Aside0.mk h5_
    have GE144 := Aside0.mk h6_
    have NB127_144 := Aside0.mk h7_
    have NB144_127 := Aside0.mk h8_
    have NB128_144 := Aside0.mk h9_
    have NB144_128 := Aside0.mk h10_
    have NB129_144 := Aside0.mk h11_
    have NB144_129 := Aside0.mk h12_
    have HB := Aside0.mk h13_
    clear h0_ h1_ h2_ h3_ h4_ h5_ h6_ h7_ h8_ h9_ h10_ h11_ h12_ h13_
    have hHeld : w29.cell? ⟨gb127, 0, none⟩ = some (.string a0_0) ∧ w29.cell? ⟨gb127, 1, none⟩ = some (.string a0_1) ∧ w29.cell? ⟨gb128, 0, none⟩ = some (.string a1_0) ∧ w29.cell? ⟨gb128, 1, none⟩ = some (.string a1_1) ∧ w29.cell? ⟨gb129, 0, none⟩ = some (.string a2_0) ∧ w29.cell? ⟨gb129, 1, none⟩ = some (.string a2_1) := hS_
    refine norm_ (a' := ?_) ?_ ?_
    rotate_left
    · simp only [putAll, Act.put, List.setIfInBounds_toArray, List.set_cons_zero, List.set_cons_succ]; rfl
    refine two_ (i := 2) (j := 10) (Ni := some 22) (Nj := some 7) #[true, true, true, true, false, true, true, true, false, false, false, true, false, false] #[true, true, false, true, false, true, true, true, false, false, true, true, false, false] rfl rfl rfl rfl (two_of HT_.out (by kernel_rfl)) (by decide) (by decide) (fun K hK => ?_) (fun K hK => ?_)
    ·
     skip
     refine goes_ Try.func20 (by kernel_rfl) rfl #[.agg #[.string a0_0, .string a0_1], .agg #[.string a1_0, .string a1_1]] (by rfl) rfl rfl (by (try simp only [List.map_toArray, List.map_cons, List.map_nil]); first | done | rfl | (simp only [List.length_drop, List.length_take]; done) | (simp only [List.length_drop, List.length_take]; rfl)) ?_
     with_reducible refine (span_Meet.calls a0_0 a0_1 a1_0 a1_1 t135 t136 _ A8.out).mono ?_
     rintro e w30 ⟨rfl, hb⟩
     refine ⟨_, rfl, ?_⟩
     replace HO133 := Aside0.mk (Kd.R_below (pR HO133.out) hb)
     replace BK127 := Aside0.mk (blk_below BK127.out hb)
     replace BK128 := Aside0.mk (blk_below BK128.out hb)
     replace BK129 := Aside0.mk (blk_below BK129.out hb)
     replace BK144 := Aside0.mk (blk_below BK144.out hb)
     replace HB := Aside0.mk (below_step (pB HB.out) hb)
     (try clear hb)
     (try clear hb2)
     (try clear hk)
     (try clear hi)
     refine hK.out _ _ ⟨blk_cell BK127.out 0, blk_cell BK127.out 1, blk_cell BK128.out 0, blk_cell BK128.out 1, blk_cell BK129.out 0, blk_cell BK129.out 1⟩ (fun hHeld => ?_)
     clear hK K
     refine norm_ (a' := ?_) ?_ ?_
     rotate_left
     · show Act.put _ (some 22) _ = _; simp only [Act.put, List.setIfInBounds_toArray, List.set_cons_zero, List.set_cons_succ, i64_w, i32_w]; rfl
     exact norm_ rfl (hJ2_11 (gb144) _ ⟨hHeld, (pR HO133.out), (pb BK127.out), (pb BK128.out), (pb BK129.out), (pb BK144.out), GW144.out, GE144.out, NB127_144.out, NB144_127.out, NB128_144.out, NB144_128.out, NB129_144.out, NB144_129.out, (pB HB.out)⟩)
    skip
    refine box_step ?hg (N := 7) ?hd (cs := #[.string (⟨#[]⟩ : ByteArray), .string (⟨#[]⟩ : ByteArray)]) (t := 38) ?hr ?_; (case hd => rfl); (case hg => rfl); (case hr => first | (go_simp; done) | (go_simp; rfl))
    intro gb143 hg w30 hbox hb
    have BK143 := Aside0.mk (hbox)
    have GW143 := geL hg HB.out
    have GE143 := geL hg HB.out
    have NB127_143 := neL hg BK127.out
    have NB143_127 := neG hg BK127.out
    have NB128_143 := neL hg BK128.out
    have NB143_128 := neG hg BK128.out
    have NB129_143 := neL hg BK129.out
    have NB143_129 := neG hg BK129.out
    have NB144_143 := neL hg BK144.out
    have NB143_144 := neG hg BK144.out
    replace HO133 := Aside0.mk (Kd.R_below (Kd.R_elderB (pR HO133.out) gb143 (Nat.le_of_eq hg.symm)) hb)
    replace BK127 := Aside0.mk (blk_below BK127.out hb)
    replace BK128 := Aside0.mk (blk_below BK128.out hb)
    replace BK129 := Aside0.mk (blk_below BK129.out hb)
    replace BK144 := Aside0.mk (blk_below BK144.out hb)
    replace HB := Aside0.mk (below_step (pB HB.out) hb)
    clear hb hbox hg
    refine hK.out _ _ ⟨blk_cell BK127.out 0, blk_cell BK127.out 1, blk_cell BK128.out 0, blk_cell BK128.out 1, blk_cell BK129.out 0, blk_cell BK129.out 1⟩ (fun hHeld => ?_)
    clear hK K
    refine norm_ (a' := ?_) ?_ ?_
    rotate_left
    · show Act.put _ (some 7) _ = _; simp only [Act.put, List.setIfInBounds_toArray, List.set_cons_zero, List.set_cons_succ, i64_w, i32_w]; rfl
    exact norm_ rfl (hJ10_11 (gb143, gb144) _ ⟨hHeld, (by (with_reducible repeat (first | apply Kd.R_alloc | apply Kd.R_drewN | apply Kd.R_drew)); exact Kd.R_mono HO133.out (fun _ hk => by omega)), (pb BK127.out), (pb BK128.out), (pb BK129.out), (pb BK143.out), (pb BK144.out), GW143.out, GE143.out, NB127_143.out, NB143_127.out, NB128_143.out, NB143_128.out, NB129_143.out, NB143_129.out, NB144_143.out, NB143_144.out, GW144.out, GE144.out, NB127_144.out, NB144_127.out, NB128_144.out, NB144_128.out, NB129_144.out, NB144_129.out, (pB HB.out)⟩)
   intro hJ11
   refine three_ (i := 2) (j := 10) (k := 11) (Ni := some 22) (Nj := some 7) (Nk := some 8) #[true, true, true, true, false, true, true, true, false, false, false, false, false, false] #[true, true, false, true, false, true, true, true, false, false, true, false, false, false] #[true, true, false, true, false, true, true, true, false, false, false, true, false, false] rfl rfl rfl rfl rfl rfl (three_of HT_.out (by kernel_rfl)) (by decide) (by decide) (by decide) (fun K hK => ?_) (fun K hK => ?_) (fun K hK => ?_)
   ·
    skip
    refine goes_ Try.func20 (by kernel_rfl) rfl #[.agg #[.string a0_0, .string a0_1], .agg #[.string a1_0, .string a1_1]] (by rfl) rfl rfl (by (try simp only [List.map_toArray, List.map_cons, List.map_nil]); first | done | rfl | (simp only [List.length_drop, List.length_take]; done) | (simp only [List.length_drop, List.length_take]; rfl)) ?_
    with_reducible refine (span_Meet.calls a0_0 a0_1 a1_0 a1_1 t135 t136 _ A8.out).mono ?_
    rintro e w28 ⟨rfl, hb⟩
    refine ⟨_, rfl, ?_⟩
    replace HO133 := Aside0.mk (Kd.R_below (pR HO133.out) hb)
    replace BK127 := Aside0.mk (blk_below BK127.out hb)
    replace BK128 := Aside0.mk (blk_below BK128.out hb)
    replace BK129 := Aside0.mk (blk_below BK129.out hb)
    replace HB := Aside0.mk (below_step (pB HB.out) hb)
    (try clear hb)
    (try clear hb2)
    (try clear hk)
    (try clear hi)
    refine hK.out _ _ ⟨blk_cell BK127.out 0, blk_cell BK127.out 1, blk_cell BK128.out 0, blk_cell BK128.out 1, blk_cell BK129.out 0, blk_cell BK129.out 1⟩ (fun hHeld => ?_)
    clear hK K
    refine norm_ (a' := ?_) ?_ ?_
    rotate_left
    · show Act.put _ (some 22) _ = _; simp only [Act.put, List.setIfInBounds_toArray, List.set_cons_zero, List.set_cons_succ, i64_w, i32_w]; rfl
    exact norm_ rfl (hJ2 () _ ⟨hHeld, (by (with_reducible repeat (first | apply Kd.R_alloc | apply Kd.R_drewN | apply Kd.R_drew)); exact Kd.R_mono HO133.out (fun _ hk => by omega)), (pb BK127.out), (pb BK128.out), (pb BK129.out), (pB HB.out)⟩)
   ·
    skip
    refine box_step ?hg (N := 7) ?hd (cs := #[.string (⟨#[]⟩ : ByteArray), .string (⟨#[]⟩ : ByteArray)]) (t := 38) ?hr ?_; (case hd => rfl); (case hg => rfl); (case hr => first | (go_simp; done) | (go_simp; rfl))
    intro gb143 hg w28 hbox hb
    have BK143 := Aside0.mk (hbox)
    have GW143 := geL hg HB.out
    have GE143 := geL hg HB.out
    have NB127_143 := neL hg BK127.out
    have NB143_127 := neG hg BK127.out
    have NB128_143 := neL hg BK128.out
    have NB143_128 := neG hg BK128.out
    have NB129_143 := neL hg BK129.out
    have NB143_129 := neG hg BK129.out
    replace HO133 := Aside0.mk (Kd.R_below (Kd.R_elderB (pR HO133.out) gb143 (Nat.le_of_eq hg.symm)) hb)
    replace BK127 := Aside0.mk (blk_below BK127.out hb)
    replace BK128 := Aside0.mk (blk_below BK128.out hb)
    replace BK129 := Aside0.mk (blk_below BK129.out hb)
    replace HB := Aside0.mk (below_step (pB HB.out) hb)
    clear hb hbox hg
    refine hK.out _ _ ⟨blk_cell BK127.out 0, blk_cell BK127.out 1, blk_cell BK128.out 0, blk_cell BK128.out 1, blk_cell BK129.out 0, blk_cell BK129.out 1⟩ (fun hHeld => ?_)
    clear hK K
    refine norm_ (a' := ?_) ?_ ?_
    rotate_left
    · show Act.put _ (some 7) _ = _; simp only [Act.put, List.setIfInBounds_toArray, List.set_cons_zero, List.set_cons_succ, i64_w, i32_w]; rfl
    exact norm_ rfl (hJ10 (gb143) _ ⟨hHeld, (by (with_reducible repeat (first | apply Kd.R_alloc | apply Kd.R_drewN | apply Kd.R_drew)); exact Kd.R_mono HO133.out (fun _ hk => by omega)), (pb BK127.out), (pb BK128.out), (pb BK129.out), (pb BK143.out), GW143.out, GE143.out, NB127_143.out, NB143_127.out, NB128_143.out, NB143_128.out, NB129_143.out, NB143_129.out, (pB HB.out)⟩)
   skip
   refine box_step ?hg (N := 8) ?hd (cs := #[.string (⟨#[]⟩ : ByteArray), .string (⟨#[]⟩ : ByteArray)]) (t := 38) ?hr ?_; (case hd => rfl); (case hg => rfl); (case hr => first | (go_simp; done) | (go_simp; rfl))
   intro gb144 hg w28 hbox hb
   have BK144 := Aside0.mk (hbox)
   have GW144 := geL hg HB.out
   have GE144 := geL hg HB.out
   have NB127_144 := neL hg BK127.out
   have NB144_127 := neG hg BK127.out
   have NB128_144 := neL hg BK128.out
   have NB144_128 := neG hg BK128.out
   have NB129_144 := neL hg BK129.out
   have NB144_129 := neG hg BK129.out
   replace HO133 := Aside0.mk (Kd.R_below (Kd.R_elderB (pR HO133.out) gb144 (Nat.le_of_eq hg.symm)) hb)
   replace BK127 := Aside0.mk (blk_below BK127.out hb)
   replace BK128 := Aside0.mk (blk_below BK128.out hb)
   replace BK129 := Aside0.mk (blk_below BK129.out hb)
   replace HB := Aside0.mk (below_step (pB HB.out) hb)
   clear hb hbox hg
   refine hK.out _ _ ⟨blk_cell BK127.out 0, blk_cell BK127.out 1, blk_cell BK128.out 0, blk_cell BK128.out 1, blk_cell BK129.out 0, blk_cell BK129.out 1⟩ (fun hHeld => ?_)
   clear hK K
   refine norm_ (a' := ?_) ?_ ?_
   rotate_left
   · show Act.put _ (some 8) _ = _; simp only [Act.put, List.setIfInBounds_toArray, List.set_cons_zero, List.set_cons_succ, i64_w, i32_w]; rfl
   exact norm_ rfl (hJ11 (gb144) _ ⟨hHeld, (by (with_reducible repeat (first | apply Kd.R_alloc | apply Kd.R_drewN | apply Kd.R_drew)); exact Kd.R_mono HO133.out (fun _ hk => by omega)), (pb BK127.out), (pb BK128.out), (pb BK129.out), (pb BK144.out), GW144.out, GE144.out, NB127_144.out, NB144_127.out, NB128_144.out, NB144_128.out, NB129_144.out, NB144_129.out, (pB HB.out)⟩)
  rintro ⟨gb143, gb144⟩ w34 ⟨hS_, h0_, h1_, h2_, h3_, h4_, h5_, h6_, h7_, h8_, h9_, h10_, h11_, h12_, h13_, h14_, h15_, h16_, h17_, h18_, h19_, h20_, h21_, h22_, h23_, h24_⟩
  clear HO133 BK127 BK128 BK129 HB
  (try dsimp only at h0_ h1_ h2_ h3_ h4_ h5_ h6_ h7_ h8_ h9_ h10_ h11_ h12_ h13_ h14_ h15_ h16_ h17_ h18_ h19_ h20_ h21_ h22_ h23_ h24_)
  have HO133 := Aside0.mk h0_
  have BK127 := Aside0.mk h1_
  have BK128 := Aside0.mk h2_
  have BK129 := Aside0.mk h3_
  have BK143 := Aside0.mk h4_
  have BK144 := Aside0.mk h5_
  have GW143 := Aside0.mk h6_
  have GE143 := Aside0.mk h7_
  have NB127_143 := Aside0.mk h8_
  have NB143_127 := Aside0.mk h9_
  have NB128_143 := Aside0.mk h10_
  have NB143_128 := Aside0.mk h11_
  have NB129_143 := Aside0.mk h12_
  have NB143_129 := Aside0.mk h13_
  have NB144_143 := Aside0.mk h14_
  have NB143_144 := Aside0.mk h15_
  have GW144 := Aside0.mk h16_
  have GE144 := Aside0.mk h17_
  have NB127_144 := Aside0.mk h18_
  have NB144_127 := Aside0.mk h19_
  have NB128_144 := Aside0.mk h20_
  have NB144_128 := Aside0.mk h21_
  have NB129_144 := Aside0.mk h22_
  have NB144_129 := Aside0.mk h23_
  have HB := Aside0.mk h24_
  clear h0_ h1_ h2_ h3_ h4_ h5_ h6_ h7_ h8_ h9_ h10_ h11_ h12_ h13_ h14_ h15_ h16_ h17_ h18_ h19_ h20_ h21_ h22_ h23_ h24_
  have hHeld : w34.cell? ⟨gb127, 0, none⟩ = some (.string a0_0) ∧ w34.cell? ⟨gb127, 1, none⟩ = some (.string a0_1) ∧ w34.cell? ⟨gb128, 0, none⟩ = some (.string a1_0) ∧ w34.cell? ⟨gb128, 1, none⟩ = some (.string a1_1) ∧ w34.cell? ⟨gb129, 0, none⟩ = some (.string a2_0) ∧ w34.cell? ⟨gb129, 1, none⟩ = some (.string a2_1) := hS_
  refine norm_ (a' := ?_) ?_ ?_
  rotate_left
  · simp only [putAll, Act.put, List.setIfInBounds_toArray, List.set_cons_zero, List.set_cons_succ]; rfl
  refine one_ (i := 12) (N := none) #[true, true, true, true, true, true, true, true, true, true, true, true, true, false] rfl rfl (one_of HT_.out (by kernel_rfl)) (by decide) (fun K hK => ?_)
  have hs35 : w34.cell? ⟨gb143, 0, none⟩ = some (.string (⟨#[]⟩ : ByteArray)) := blk_cell BK143.out 0
  have hfs35 := blk_frozen BK143.out 0
  have hns35_0 := NB127_143.out
  have hns35_1 := NB128_143.out
  have hns35_2 := NB129_143.out
  have hns35_4 := NB144_143.out
  have hms35_0 := NB143_127.out
  have hms35_1 := NB143_128.out
  have hms35_2 := NB143_129.out
  have hms35_4 := NB143_144.out
  have hs36 : w34.cell? ⟨gb143, 1, none⟩ = some (.string (⟨#[]⟩ : ByteArray)) := blk_cell BK143.out 1
  have hfs36 := blk_frozen BK143.out 1
  have hns36_0 := NB127_143.out
  have hns36_1 := NB128_143.out
  have hns36_2 := NB129_143.out
  have hns36_4 := NB144_143.out
  have hms36_0 := NB143_127.out
  have hms36_1 := NB143_128.out
  have hms36_2 := NB143_129.out
  have hms36_4 := NB143_144.out
  refine skip_ (w1 := ?_) (by rfl) rfl ?_ ?_
  rotate_left
  · go_simp; rfl
  refine hK.out _ _ ⟨((cell_far (p := ⟨gb143, _, none⟩) NB127_143.out _).trans (((cell_far (p := ⟨gb143, _, none⟩) NB127_143.out _).trans (hHeld.1)))), ((cell_far (p := ⟨gb143, _, none⟩) NB127_143.out _).trans (((cell_far (p := ⟨gb143, _, none⟩) NB127_143.out _).trans (hHeld.2.1)))), ((cell_far (p := ⟨gb143, _, none⟩) NB128_143.out _).trans (((cell_far (p := ⟨gb143, _, none⟩) NB128_143.out _).trans (hHeld.2.2.1)))), ((cell_far (p := ⟨gb143, _, none⟩) NB128_143.out _).trans (((cell_far (p := ⟨gb143, _, none⟩) NB128_143.out _).trans (hHeld.2.2.2.1)))), ((cell_far (p := ⟨gb143, _, none⟩) NB129_143.out _).trans (((cell_far (p := ⟨gb143, _, none⟩) NB129_143.out _).trans (hHeld.2.2.2.2.1)))), ((cell_far (p := ⟨gb143, _, none⟩) NB129_143.out _).trans (((cell_far (p := ⟨gb143, _, none⟩) NB129_143.out _).trans (hHeld.2.2.2.2.2))))⟩ (fun hHeld => ?_)
  clear hK K
  refine one_ (i := 13) (N := none) #[true, true, true, true, true, true, true, true, true, true, true, true, true, true] rfl rfl (one_of HT_.out (by kernel_rfl)) (by decide) (fun K hK => ?_)
  have hs37 : w34.cell? ⟨gb144, 0, none⟩ = some (.string (⟨#[]⟩ : ByteArray)) := blk_cell BK144.out 0
  have hfs37 := blk_frozen BK144.out 0
  have hns37_0 := NB127_144.out
  have hns37_1 := NB128_144.out
  have hns37_2 := NB129_144.out
  have hns37_3 := NB143_144.out
  have hms37_0 := NB144_127.out
  have hms37_1 := NB144_128.out
  have hms37_2 := NB144_129.out
  have hms37_3 := NB144_143.out
  have hs38 : w34.cell? ⟨gb144, 1, none⟩ = some (.string (⟨#[]⟩ : ByteArray)) := blk_cell BK144.out 1
  have hfs38 := blk_frozen BK144.out 1
  have hns38_0 := NB127_144.out
  have hns38_1 := NB128_144.out
  have hns38_2 := NB129_144.out
  have hns38_3 := NB143_144.out
  have hms38_0 := NB144_127.out
  have hms38_1 := NB144_128.out
  have hms38_2 := NB144_129.out
  have hms38_3 := NB144_143.out
  refine skip_ (w1 := ?_) (by rfl) rfl ?_ ?_
  rotate_left
  · go_simp; rfl
  refine hK.out _ _ ⟨((cell_far (p := ⟨gb144, _, none⟩) NB127_144.out _).trans (((cell_far (p := ⟨gb144, _, none⟩) NB127_144.out _).trans (hHeld.1)))), ((cell_far (p := ⟨gb144, _, none⟩) NB127_144.out _).trans (((cell_far (p := ⟨gb144, _, none⟩) NB127_144.out _).trans (hHeld.2.1)))), ((cell_far (p := ⟨gb144, _, none⟩) NB128_144.out _).trans (((cell_far (p := ⟨gb144, _, none⟩) NB128_144.out _).trans (hHeld.2.2.1)))), ((cell_far (p := ⟨gb144, _, none⟩) NB128_144.out _).trans (((cell_far (p := ⟨gb144, _, none⟩) NB128_144.out _).trans (hHeld.2.2.2.1)))), ((cell_far (p := ⟨gb144, _, none⟩) NB129_144.out _).trans (((cell_far (p := ⟨gb144, _, none⟩) NB129_144.out _).trans (hHeld.2.2.2.2.1)))), ((cell_far (p := ⟨gb144, _, none⟩) NB129_144.out _).trans (((cell_far (p := ⟨gb144, _, none⟩) NB129_144.out _).trans (hHeld.2.2.2.2.2))))⟩ (fun hHeld => ?_)
  clear hK K
  refine done_ (done_of HT_.out (by kernel_rfl)) ?_
  have hnb39 := NB127_143.out
  have hnc39 := NB143_127.out
  have hnb40 := NB127_144.out
  have hnc40 := NB144_127.out
  have hcz41_0 : w34.cell? ⟨gb127, 0, none⟩ = some (.string a0_0) := blk_cell BK127.out 0
  have hcz41_1 : w34.cell? ⟨gb127, 1, none⟩ = some (.string a0_1) := blk_cell BK127.out 1
  have hfz41_0 := blk_frozen BK127.out 0
  have hfz41_1 := blk_frozen BK127.out 1
  have hnb42 := NB128_143.out
  have hnc42 := NB143_128.out
  have hnb43 := NB128_144.out
  have hnc43 := NB144_128.out
  have hcz44_0 : w34.cell? ⟨gb128, 0, none⟩ = some (.string a1_0) := blk_cell BK128.out 0
  have hcz44_1 : w34.cell? ⟨gb128, 1, none⟩ = some (.string a1_1) := blk_cell BK128.out 1
  have hfz44_0 := blk_frozen BK128.out 0
  have hfz44_1 := blk_frozen BK128.out 1
  have hnb45 := NB129_143.out
  have hnc45 := NB143_129.out
  have hnb46 := NB129_144.out
  have hnc46 := NB144_129.out
  have hcz47_0 : w34.cell? ⟨gb129, 0, none⟩ = some (.string a2_0) := blk_cell BK129.out 0
  have hcz47_1 : w34.cell? ⟨gb129, 1, none⟩ = some (.string a2_1) := blk_cell BK129.out 1
  have hfz47_0 := blk_frozen BK129.out 0
  have hfz47_1 := blk_frozen BK129.out 1
  try go_wp2_with (first | ((with_reducible refine gate_dst (N := 48) rfl ?_); refine Kd.R_lit Kd.string _ 9 ?hg (N := 48) ?hd (xs := ([(⟨#[]⟩ : ByteArray), a0_0, a0_1, a1_0, a1_1, a2_0, a2_1, a0_0 ++ (⟨#[0]⟩ : ByteArray), a1_1 ++ (⟨#[120]⟩ : ByteArray), (⟨#[255, 255]⟩ : ByteArray)] : List ByteArray)) (inner := [.string (⟨#[]⟩ : ByteArray), .string a0_0, .string a0_1, .string a1_0, .string a1_1, .string a2_0, .string a2_1, .string (a0_0 ++ (⟨#[0]⟩ : ByteArray)), .string (a1_1 ++ (⟨#[120]⟩ : ByteArray)), .string (⟨#[255, 255]⟩ : ByteArray)]) (ok := fun _ => True) (okp := fun _ => True) ?hr ?hp (fun _ hk => hk) trivial (Below.refl _ _) (Nat.le_refl _) (by simp) ?_; (case hd => rfl); (case hg => rfl); (case hr => first | (go_simp; done) | (go_simp; rfl)); (case hp => exact (Reps.one (show Kd.M Kd.string _ _ _ (⟨#[]⟩ : ByteArray) [.string (⟨#[]⟩ : ByteArray)] from rfl) (Reps.one (show Kd.M Kd.string _ _ _ a0_0 [.string a0_0] from rfl) (Reps.one (show Kd.M Kd.string _ _ _ a0_1 [.string a0_1] from rfl) (Reps.one (show Kd.M Kd.string _ _ _ a1_0 [.string a1_0] from rfl) (Reps.one (show Kd.M Kd.string _ _ _ a1_1 [.string a1_1] from rfl) (Reps.one (show Kd.M Kd.string _ _ _ a2_0 [.string a2_0] from rfl) (Reps.one (show Kd.M Kd.string _ _ _ a2_1 [.string a2_1] from rfl) (Reps.one (show Kd.M Kd.string _ _ _ (a0_0 ++ (⟨#[0]⟩ : ByteArray)) [.string (a0_0 ++ (⟨#[0]⟩ : ByteArray))] from rfl) (Reps.one (show Kd.M Kd.string _ _ _ (a1_1 ++ (⟨#[120]⟩ : ByteArray)) [.string (a1_1 ++ (⟨#[120]⟩ : ByteArray))] from rfl) (Reps.one (show Kd.M Kd.string _ _ _ (⟨#[255, 255]⟩ : ByteArray) [.string (⟨#[255, 255]⟩ : ByteArray)] from rfl) (Reps.none _ _)))))))))))); intro v146 w48 ho49 hb hg_ hnew_; clear hg_ hnew_; (first | rw [← Ny145.out] at ho49 | (simp only [Int.reduceToNat] at ho49; rw [← Ny145.out] at ho49)); have HO147 := Aside0.mk (Kd.R_lower ho49 (below_size (by repeat (first | (with_reducible first | exact HB.out | apply below_alloc | apply pw_below_drewN | apply below_drew1 | refine below_set ?_ GE127.out | refine below_set ?_ GE128.out | refine below_set ?_ GE129.out | refine below_set ?_ GE143.out | refine below_set ?_ GE144.out) | exact HB.out)))); replace HO133 := Aside0.mk (Kd.R_below (by (with_reducible repeat (first | apply Kd.R_alloc | apply Kd.R_drewN | apply Kd.R_drew)); exact (Kd.R_mono (Kd.R_mono (Kd.R_far (p := ⟨gb144, 1, none⟩) (Kd.R_far (p := ⟨gb144, 0, none⟩) (Kd.R_far (p := ⟨gb143, 1, none⟩) (Kd.R_far (p := ⟨gb143, 0, none⟩) (Kd.R_mono (Kd.R_mono HO133.out (fun k_ hk => (⟨hk, hk.2.2.2.1⟩ : _ ∧ k_ ≠ gb143))) (fun k_ hk => (⟨hk, hk.1.2.2.2.2⟩ : _ ∧ k_ ≠ gb144))) (fun _ hk => hk.1.2) (.string t137)) (fun _ hk => hk.1.2) (.string t138)) (fun _ hk => hk.2) (.string t141)) (fun _ hk => hk.2) (.string t142)) (fun _ h_ => h_.1)) (fun _ h_ => h_.1))) hb); replace BK127 := Aside0.mk (blk_below (g := gb127) (o := .cells #[.string a0_0, .string a0_1] 38 (0, 0)) (by (with_reducible repeat (first | refine blk_drewN ?_ _ | refine blk_drew ?_ | refine blk_alloc ?_ _)); refine blk_far ?_ NB127_144.out _; (with_reducible repeat (first | refine blk_drewN ?_ _ | refine blk_drew ?_ | refine blk_alloc ?_ _)); refine blk_far ?_ NB127_144.out _; (with_reducible repeat (first | refine blk_drewN ?_ _ | refine blk_drew ?_ | refine blk_alloc ?_ _)); refine blk_far ?_ NB127_143.out _; (with_reducible repeat (first | refine blk_drewN ?_ _ | refine blk_drew ?_ | refine blk_alloc ?_ _)); refine blk_far ?_ NB127_143.out _; (with_reducible repeat (first | refine blk_drewN ?_ _ | refine blk_drew ?_ | refine blk_alloc ?_ _)); exact BK127.out) hb); replace BK128 := Aside0.mk (blk_below (g := gb128) (o := .cells #[.string a1_0, .string a1_1] 38 (0, 0)) (by (with_reducible repeat (first | refine blk_drewN ?_ _ | refine blk_drew ?_ | refine blk_alloc ?_ _)); refine blk_far ?_ NB128_144.out _; (with_reducible repeat (first | refine blk_drewN ?_ _ | refine blk_drew ?_ | refine blk_alloc ?_ _)); refine blk_far ?_ NB128_144.out _; (with_reducible repeat (first | refine blk_drewN ?_ _ | refine blk_drew ?_ | refine blk_alloc ?_ _)); refine blk_far ?_ NB128_143.out _; (with_reducible repeat (first | refine blk_drewN ?_ _ | refine blk_drew ?_ | refine blk_alloc ?_ _)); refine blk_far ?_ NB128_143.out _; (with_reducible repeat (first | refine blk_drewN ?_ _ | refine blk_drew ?_ | refine blk_alloc ?_ _)); exact BK128.out) hb); replace BK129 := Aside0.mk (blk_below (g := gb129) (o := .cells #[.string a2_0, .string a2_1] 38 (0, 0)) (by (with_reducible repeat (first | refine blk_drewN ?_ _ | refine blk_drew ?_ | refine blk_alloc ?_ _)); refine blk_far ?_ NB129_144.out _; (with_reducible repeat (first | refine blk_drewN ?_ _ | refine blk_drew ?_ | refine blk_alloc ?_ _)); refine blk_far ?_ NB129_144.out _; (with_reducible repeat (first | refine blk_drewN ?_ _ | refine blk_drew ?_ | refine blk_alloc ?_ _)); refine blk_far ?_ NB129_143.out _; (with_reducible repeat (first | refine blk_drewN ?_ _ | refine blk_drew ?_ | refine blk_alloc ?_ _)); refine blk_far ?_ NB129_143.out _; (with_reducible repeat (first | refine blk_drewN ?_ _ | refine blk_drew ?_ | refine blk_alloc ?_ _)); exact BK129.out) hb); replace BK143 := Aside0.mk (blk_below (g := gb143) (o := .cells #[.string t137, .string t138] 38 (0, 0)) (by (with_reducible repeat (first | refine blk_drewN ?_ _ | refine blk_drew ?_ | refine blk_alloc ?_ _)); refine blk_far ?_ NB143_144.out _; (with_reducible repeat (first | refine blk_drewN ?_ _ | refine blk_drew ?_ | refine blk_alloc ?_ _)); refine blk_far ?_ NB143_144.out _; (with_reducible repeat (first | refine blk_drewN ?_ _ | refine blk_drew ?_ | refine blk_alloc ?_ _)); refine blk_put (cs := #[.string t137, .string (⟨#[]⟩ : ByteArray)]) ?_ 1 _ rfl; (with_reducible repeat (first | refine blk_drewN ?_ _ | refine blk_drew ?_ | refine blk_alloc ?_ _)); refine blk_put (cs := #[.string (⟨#[]⟩ : ByteArray), .string (⟨#[]⟩ : ByteArray)]) ?_ 0 _ rfl; (with_reducible repeat (first | refine blk_drewN ?_ _ | refine blk_drew ?_ | refine blk_alloc ?_ _)); exact BK143.out) hb); replace BK144 := Aside0.mk (blk_below (g := gb144) (o := .cells #[.string t141, .string t142] 38 (0, 0)) (by (with_reducible repeat (first | refine blk_drewN ?_ _ | refine blk_drew ?_ | refine blk_alloc ?_ _)); refine blk_put (cs := #[.string t141, .string (⟨#[]⟩ : ByteArray)]) ?_ 1 _ rfl; (with_reducible repeat (first | refine blk_drewN ?_ _ | refine blk_drew ?_ | refine blk_alloc ?_ _)); refine blk_put (cs := #[.string (⟨#[]⟩ : ByteArray), .string (⟨#[]⟩ : ByteArray)]) ?_ 0 _ rfl; (with_reducible repeat (first | refine blk_drewN ?_ _ | refine blk_drew ?_ | refine blk_alloc ?_ _)); refine blk_far ?_ NB144_143.out _; (with_reducible repeat (first | refine blk_drewN ?_ _ | refine blk_drew ?_ | refine blk_alloc ?_ _)); refine blk_far ?_ NB144_143.out _; (with_reducible repeat (first | refine blk_drewN ?_ _ | refine blk_drew ?_ | refine blk_alloc ?_ _)); exact BK144.out) hb); replace HB := Aside0.mk (below_step (by repeat (first | (with_reducible first | exact HB.out | apply below_alloc | apply pw_below_drewN | apply below_drew1 | refine below_set ?_ GE127.out | refine below_set ?_ GE128.out | refine below_set ?_ GE129.out | refine below_set ?_ GE143.out | refine below_set ?_ GE144.out) | exact HB.out)) hb); clear hb ho49))
  go_loopg [10] k (fun kq v10 w' => ∃ (x10_1 : Int), v10 = .int .i64 x10_1 ∧ Aside0 (gazetteerlaw5_SpanMeets.l0 kq y145 x10_1 a0_0 a0_1 a1_0 a1_1 a2_0 a2_1 t137 t138 t141 t142 = some r) ∧ Aside0 (kq ≤ k) ∧ Aside0 (Kd.R Kd.string 9 w' w.heap.size (fun _ => True) v146 y145) ∧ Aside0 (w'.heap[gb127]? = some (.cells #[.string a0_0, .string a0_1] 38 (0, 0))) ∧ Aside0 (w'.heap[gb128]? = some (.cells #[.string a1_0, .string a1_1] 38 (0, 0))) ∧ Aside0 (w'.heap[gb129]? = some (.cells #[.string a2_0, .string a2_1] 38 (0, 0))) ∧ Aside0 (w'.heap[gb143]? = some (.cells #[.string t137, .string t138] 38 (0, 0))) ∧ Aside0 (w'.heap[gb144]? = some (.cells #[.string t141, .string t142] 38 (0, 0))) ∧ Aside0 (Below w.heap.size w w'))
  case atStart => exact ⟨(0), (by first | rfl | (simp; done) | (simp [*]; done)), H', ⟨Nat.le_refl _⟩, ⟨by (with_reducible repeat (first | apply Kd.R_alloc | apply Kd.R_drewN | apply Kd.R_drew)); exact HO147.out⟩, ⟨by (with_reducible repeat (first | refine blk_drewN ?_ _ | refine blk_drew ?_ | refine blk_alloc ?_ _)); exact BK127.out⟩, ⟨by (with_reducible repeat (first | refine blk_drewN ?_ _ | refine blk_drew ?_ | refine blk_alloc ?_ _)); exact BK128.out⟩, ⟨by (with_reducible repeat (first | refine blk_drewN ?_ _ | refine blk_drew ?_ | refine blk_alloc ?_ _)); exact BK129.out⟩, ⟨by (with_reducible repeat (first | refine blk_drewN ?_ _ | refine blk_drew ?_ | refine blk_alloc ?_ _)); exact BK143.out⟩, ⟨by (with_reducible repeat (first | refine blk_drewN ?_ _ | refine blk_drew ?_ | refine blk_alloc ?_ _)); exact BK144.out⟩, ⟨by repeat (first | (with_reducible first | exact HB.out | apply below_alloc | apply pw_below_drewN | apply below_drew1 | refine below_set ?_ GE127.out | refine below_set ?_ GE128.out | refine below_set ?_ GE129.out | refine below_set ?_ GE143.out | refine below_set ?_ GE144.out) | exact HB.out)⟩⟩
  case round =>
   clear H'
   try clear c2
   try clear p2
   try clear c3
   try clear c4
   try clear c20
   try clear c39
   try clear c40
   try clear c42
   try clear c43
   try clear c45
   try clear c46
   try clear hcz41_0
   try clear hcz41_1
   try clear hcz44_0
   try clear hcz44_1
   try clear hcz47_0
   try clear hcz47_1
   try clear hfz41_0
   try clear hfz41_1
   try clear hfz44_0
   try clear hfz44_1
   try clear hfz47_0
   try clear hfz47_1
   obtain ⟨x10_1, rfl, HA, HK1, HO_9, BK127, BK128, BK129, BK143, BK144, HB⟩ := hrel
   cases gk with
   | zero => exact absurd HA.out (by simp [gazetteerlaw5_SpanMeets.l0])
   | succ k1 =>
    have H := HA.out
    clear HA
    simp only [gazetteerlaw5_SpanMeets.l0] at H
    by_cases c50 : x10_1 < (y145.length : Int)
    rotate_left
    ·
     rw [if_neg c50] at H
     have c50b0 : decide (x10_1 < (y145.length : Int)) = false := decide_eq_false c50
     clear c50
     replace H := Option.bind_eq_some_iff.mp H
     obtain ⟨t164, A840, H⟩ := H
     replace H : (if t164 = true then ((span_Within.f a1_0 a1_1 a2_0 a2_1).bind fun t165 => (if t165 = true then ((span_Within.f a0_0 a0_1 a2_0 a2_1).bind fun t166 => (if t166 = true then ((span_Within.f t137 t138 a0_0 a0_1).bind fun t167 => (if t167 = true then ((span_Within.f t137 t138 a2_0 a2_1).bind fun t168 => (some t168)) else (some false))) else (some false))) else ((span_Within.f t137 t138 a0_0 a0_1).bind fun t169 => (if t169 = true then ((span_Within.f t137 t138 a2_0 a2_1).bind fun t170 => (some t170)) else (some false))))) else ((span_Within.f t137 t138 a0_0 a0_1).bind fun t171 => (if t171 = true then ((span_Within.f t137 t138 a2_0 a2_1).bind fun t172 => (some t172)) else (some false)))) = some r := H
     have A84 := Aside0.mk A840
     clear A840
     by_cases c85 : t164 = true
     rotate_left
     ·
      replace c85 := Bool.eq_false_iff.mpr c85
      subst c85
      have H1 : ((span_Within.f t137 t138 a0_0 a0_1).bind fun t171 => (if t171 = true then ((span_Within.f t137 t138 a2_0 a2_1).bind fun t172 => (some t172)) else (some false))) = some r := by rw [if_neg (show ¬ (false = true) by decide)] at H; exact H
      clear H
      have H := H1
      clear H1
      replace H := Option.bind_eq_some_iff.mp H
      obtain ⟨t171, A1450, H⟩ := H
      replace H : (if t171 = true then ((span_Within.f t137 t138 a2_0 a2_1).bind fun t172 => (some t172)) else (some false)) = some r := H
      have A145 := Aside0.mk A1450
      clear A1450
      by_cases c146 : t171 = true
      rotate_left
      · replace c146 := Bool.eq_false_iff.mpr c146
        subst c146
        have H1 : (some false) = some r := by rw [if_neg (show ¬ (false = true) by decide)] at H; exact H
        clear H
        have H := H1
        clear H1
        exact absurd H (by rw [HLT.out]; repeat' first | (with_reducible exact dead_none) | (with_reducible exact dead_false) | (with_reducible refine dead_ite ?_ ?_) | (with_reducible refine dead_bind (fun _ => ?_)) | (refine dead_ite ?_ ?_) | (refine dead_bind (fun _ => ?_)) | (simp; done))
      subst c146
      have H1 : ((span_Within.f t137 t138 a2_0 a2_1).bind fun t172 => (some t172)) = some r := by rw [if_pos rfl] at H; exact H
      clear H
      have H := H1
      clear H1
      replace H := Option.bind_eq_some_iff.mp H
      obtain ⟨t172, A1470, H⟩ := H
      replace H : (some t172) = some r := H
      have A147 := Aside0.mk A1470
      clear A1470
      obtain rfl := Option.some.inj H
      obtain ⟨Ao148, co148, eo148⟩ := Kd.R_slice HO_9.out
      subst eo148
      have hnb149 := NB127_128.out
      have hnc149 := NB128_127.out
      have hnb150 := NB127_129.out
      have hnc150 := NB129_127.out
      have hnb151 := NB127_143.out
      have hnc151 := NB143_127.out
      have hnb152 := NB127_144.out
      have hnc152 := NB144_127.out
      have hcz153_0 : wr.cell? ⟨gb127, 0, none⟩ = some (.string a0_0) := blk_cell BK127.out 0
      have hcz153_1 : wr.cell? ⟨gb127, 1, none⟩ = some (.string a0_1) := blk_cell BK127.out 1
      have hfz153_0 := blk_frozen BK127.out 0
      have hfz153_1 := blk_frozen BK127.out 1
      have hnb154 := NB128_129.out
      have hnc154 := NB129_128.out
      have hnb155 := NB128_143.out
      have hnc155 := NB143_128.out
      have hnb156 := NB128_144.out
      have hnc156 := NB144_128.out
      have hcz157_0 : wr.cell? ⟨gb128, 0, none⟩ = some (.string a1_0) := blk_cell BK128.out 0
      have hcz157_1 : wr.cell? ⟨gb128, 1, none⟩ = some (.string a1_1) := blk_cell BK128.out 1
      have hfz157_0 := blk_frozen BK128.out 0
      have hfz157_1 := blk_frozen BK128.out 1
      go_wp2_with (first | ((with_reducible refine gate_callee (f := 24) rfl ?_); refine goesL_ (some 114) rfl rfl Try.func24 (by kernel_rfl) rfl #[.agg #[.string a0_0, .string a0_1], .agg #[.string a1_0, .string a1_1]] rfl (by (try simp only [List.map_toArray, List.map_cons, List.map_nil]); first | done | rfl | (simp only [List.length_drop, List.length_take]; done) | (simp only [List.length_drop, List.length_take]; rfl)) ?_; (with_reducible refine (span_Within.calls a0_0 a0_1 a1_0 a1_1 false _ A84.out).mono ?_); rintro e w158 ⟨rfl, hb⟩; refine ⟨_, rfl, ?_⟩; replace HO_9 := Aside0.mk (Kd.R_below (pR HO_9.out) hb); replace BK127 := Aside0.mk (blk_below BK127.out hb); replace BK128 := Aside0.mk (blk_below BK128.out hb); replace BK129 := Aside0.mk (blk_below BK129.out hb); replace BK143 := Aside0.mk (blk_below BK143.out hb); replace BK144 := Aside0.mk (blk_below BK144.out hb); replace HB := Aside0.mk (below_step (pB HB.out) hb); (try clear hb); (try clear hb2); (try clear hk); (try clear hi); have hnb159 := NB143_129.out; have hnc159 := NB129_143.out; have hnb160 := NB143_144.out; have hnc160 := NB144_143.out; have hcz161_0 : w158.cell? ⟨gb143, 0, none⟩ = some (.string t137) := blk_cell BK143.out 0; have hcz161_1 : w158.cell? ⟨gb143, 1, none⟩ = some (.string t138) := blk_cell BK143.out 1; have hfz161_0 := blk_frozen BK143.out 0; have hfz161_1 := blk_frozen BK143.out 1; have hcz162_0 : w158.cell? ⟨gb127, 0, none⟩ = some (.string a0_0) := blk_cell BK127.out 0; have hcz162_1 : w158.cell? ⟨gb127, 1, none⟩ = some (.string a0_1) := blk_cell BK127.out 1; have hfz162_0 := blk_frozen BK127.out 0; have hfz162_1 := blk_frozen BK127.out 1) | (go_at_call 24; (with_reducible refine (span_Within.calls t137 t138 a0_0 a0_1 true _ A145.out).mono ?_); rintro e w163 ⟨rfl, hb⟩; replace HO_9 := Aside0.mk (Kd.R_below (pR HO_9.out) hb); replace BK127 := Aside0.mk (blk_below BK127.out hb); replace BK128 := Aside0.mk (blk_below BK128.out hb); replace BK129 := Aside0.mk (blk_below BK129.out hb); replace BK143 := Aside0.mk (blk_below BK143.out hb); replace BK144 := Aside0.mk (blk_below BK144.out hb); replace HB := Aside0.mk (below_step (pB HB.out) hb); (try clear hb); (try clear hb2); (try clear hk); (try clear hi); have hcz164_0 : w163.cell? ⟨gb143, 0, none⟩ = some (.string t137) := blk_cell BK143.out 0; have hcz164_1 : w163.cell? ⟨gb143, 1, none⟩ = some (.string t138) := blk_cell BK143.out 1; have hfz164_0 := blk_frozen BK143.out 0; have hfz164_1 := blk_frozen BK143.out 1; have hnb165 := NB129_144.out; have hnc165 := NB144_129.out; have hcz166_0 : w163.cell? ⟨gb129, 0, none⟩ = some (.string a2_0) := blk_cell BK129.out 0; have hcz166_1 : w163.cell? ⟨gb129, 1, none⟩ = some (.string a2_1) := blk_cell BK129.out 1; have hfz166_0 := blk_frozen BK129.out 0; have hfz166_1 := blk_frozen BK129.out 1) | (go_at_call 24; (with_reducible refine (span_Within.calls t137 t138 a2_0 a2_1 t172 _ A147.out).mono ?_); rintro e w167 ⟨rfl, hb⟩; replace HO_9 := Aside0.mk (Kd.R_below (pR HO_9.out) hb); replace BK127 := Aside0.mk (blk_below BK127.out hb); replace BK128 := Aside0.mk (blk_below BK128.out hb); replace BK129 := Aside0.mk (blk_below BK129.out hb); replace BK143 := Aside0.mk (blk_below BK143.out hb); replace BK144 := Aside0.mk (blk_below BK144.out hb); replace HB := Aside0.mk (below_step (pB HB.out) hb); (try clear hb); (try clear hb2); (try clear hk); (try clear hi)))
      go_ret
      exact ⟨by first | rfl | (simp [errW_none, errW_some] <;> rfl) | (simp [*, errW_none, errW_some] <;> rfl), by repeat (first | (with_reducible first | exact HB.out | apply below_alloc | apply pw_below_drewN | apply below_drew1 | refine below_set ?_ GE127.out | refine below_set ?_ GE128.out | refine below_set ?_ GE129.out | refine below_set ?_ GE143.out | refine below_set ?_ GE144.out) | exact HB.out)⟩
     subst c85
     have H1 : ((span_Within.f a1_0 a1_1 a2_0 a2_1).bind fun t165 => (if t165 = true then ((span_Within.f a0_0 a0_1 a2_0 a2_1).bind fun t166 => (if t166 = true then ((span_Within.f t137 t138 a0_0 a0_1).bind fun t167 => (if t167 = true then ((span_Within.f t137 t138 a2_0 a2_1).bind fun t168 => (some t168)) else (some false))) else (some false))) else ((span_Within.f t137 t138 a0_0 a0_1).bind fun t169 => (if t169 = true then ((span_Within.f t137 t138 a2_0 a2_1).bind fun t170 => (some t170)) else (some false))))) = some r := by rw [if_pos rfl] at H; exact H
     clear H
     have H := H1
     clear H1
     replace H := Option.bind_eq_some_iff.mp H
     obtain ⟨t165, A860, H⟩ := H
     replace H : (if t165 = true then ((span_Within.f a0_0 a0_1 a2_0 a2_1).bind fun t166 => (if t166 = true then ((span_Within.f t137 t138 a0_0 a0_1).bind fun t167 => (if t167 = true then ((span_Within.f t137 t138 a2_0 a2_1).bind fun t168 => (some t168)) else (some false))) else (some false))) else ((span_Within.f t137 t138 a0_0 a0_1).bind fun t169 => (if t169 = true then ((span_Within.f t137 t138 a2_0 a2_1).bind fun t170 => (some t170)) else (some false)))) = some r := H
     have A86 := Aside0.mk A860
     clear A860
     by_cases c87 : t165 = true
     rotate_left
     ·
      replace c87 := Bool.eq_false_iff.mpr c87
      subst c87
      have H1 : ((span_Within.f t137 t138 a0_0 a0_1).bind fun t169 => (if t169 = true then ((span_Within.f t137 t138 a2_0 a2_1).bind fun t170 => (some t170)) else (some false))) = some r := by rw [if_neg (show ¬ (false = true) by decide)] at H; exact H
      clear H
      have H := H1
      clear H1
      replace H := Option.bind_eq_some_iff.mp H
      obtain ⟨t169, A1190, H⟩ := H
      replace H : (if t169 = true then ((span_Within.f t137 t138 a2_0 a2_1).bind fun t170 => (some t170)) else (some false)) = some r := H
      have A119 := Aside0.mk A1190
      clear A1190
      by_cases c120 : t169 = true
      rotate_left
      · replace c120 := Bool.eq_false_iff.mpr c120
        subst c120
        have H1 : (some false) = some r := by rw [if_neg (show ¬ (false = true) by decide)] at H; exact H
        clear H
        have H := H1
        clear H1
        exact absurd H (by rw [HLT.out]; repeat' first | (with_reducible exact dead_none) | (with_reducible exact dead_false) | (with_reducible refine dead_ite ?_ ?_) | (with_reducible refine dead_bind (fun _ => ?_)) | (refine dead_ite ?_ ?_) | (refine dead_bind (fun _ => ?_)) | (simp; done))
      subst c120
      have H1 : ((span_Within.f t137 t138 a2_0 a2_1).bind fun t170 => (some t170)) = some r := by rw [if_pos rfl] at H; exact H
      clear H
      have H := H1
      clear H1
      replace H := Option.bind_eq_some_iff.mp H
      obtain ⟨t170, A1210, H⟩ := H
      replace H : (some t170) = some r := H
      have A121 := Aside0.mk A1210
      clear A1210
      obtain rfl := Option.some.inj H
      obtain ⟨Ao122, co122, eo122⟩ := Kd.R_slice HO_9.out
      subst eo122
      have hnb123 := NB127_128.out
      have hnc123 := NB128_127.out
      have hnb124 := NB127_129.out
      have hnc124 := NB129_127.out
      have hnb125 := NB127_143.out
      have hnc125 := NB143_127.out
      have hnb126 := NB127_144.out
      have hnc126 := NB144_127.out
      have hcz127_0 : wr.cell? ⟨gb127, 0, none⟩ = some (.string a0_0) := blk_cell BK127.out 0
      have hcz127_1 : wr.cell? ⟨gb127, 1, none⟩ = some (.string a0_1) := blk_cell BK127.out 1
      have hfz127_0 := blk_frozen BK127.out 0
      have hfz127_1 := blk_frozen BK127.out 1
      have hnb128 := NB128_129.out
      have hnc128 := NB129_128.out
      have hnb129 := NB128_143.out
      have hnc129 := NB143_128.out
      have hnb130 := NB128_144.out
      have hnc130 := NB144_128.out
      have hcz131_0 : wr.cell? ⟨gb128, 0, none⟩ = some (.string a1_0) := blk_cell BK128.out 0
      have hcz131_1 : wr.cell? ⟨gb128, 1, none⟩ = some (.string a1_1) := blk_cell BK128.out 1
      have hfz131_0 := blk_frozen BK128.out 0
      have hfz131_1 := blk_frozen BK128.out 1
      go_wp2_with (first | ((with_reducible refine gate_callee (f := 24) rfl ?_); refine goesL_ (some 114) rfl rfl Try.func24 (by kernel_rfl) rfl #[.agg #[.string a0_0, .string a0_1], .agg #[.string a1_0, .string a1_1]] rfl (by (try simp only [List.map_toArray, List.map_cons, List.map_nil]); first | done | rfl | (simp only [List.length_drop, List.length_take]; done) | (simp only [List.length_drop, List.length_take]; rfl)) ?_; (with_reducible refine (span_Within.calls a0_0 a0_1 a1_0 a1_1 true _ A84.out).mono ?_); rintro e w132 ⟨rfl, hb⟩; refine ⟨_, rfl, ?_⟩; replace HO_9 := Aside0.mk (Kd.R_below (pR HO_9.out) hb); replace BK127 := Aside0.mk (blk_below BK127.out hb); replace BK128 := Aside0.mk (blk_below BK128.out hb); replace BK129 := Aside0.mk (blk_below BK129.out hb); replace BK143 := Aside0.mk (blk_below BK143.out hb); replace BK144 := Aside0.mk (blk_below BK144.out hb); replace HB := Aside0.mk (below_step (pB HB.out) hb); (try clear hb); (try clear hb2); (try clear hk); (try clear hi); have hcz133_0 : w132.cell? ⟨gb128, 0, none⟩ = some (.string a1_0) := blk_cell BK128.out 0; have hcz133_1 : w132.cell? ⟨gb128, 1, none⟩ = some (.string a1_1) := blk_cell BK128.out 1; have hfz133_0 := blk_frozen BK128.out 0; have hfz133_1 := blk_frozen BK128.out 1; have hnb134 := NB129_143.out; have hnc134 := NB143_129.out; have hnb135 := NB129_144.out; have hnc135 := NB144_129.out; have hcz136_0 : w132.cell? ⟨gb129, 0, none⟩ = some (.string a2_0) := blk_cell BK129.out 0; have hcz136_1 : w132.cell? ⟨gb129, 1, none⟩ = some (.string a2_1) := blk_cell BK129.out 1; have hfz136_0 := blk_frozen BK129.out 0; have hfz136_1 := blk_frozen BK129.out 1) | (go_at_call 24; (with_reducible refine (span_Within.calls a1_0 a1_1 a2_0 a2_1 false _ A86.out).mono ?_); rintro e w137 ⟨rfl, hb⟩; replace HO_9 := Aside0.mk (Kd.R_below (pR HO_9.out) hb); replace BK127 := Aside0.mk (blk_below BK127.out hb); replace BK128 := Aside0.mk (blk_below BK128.out hb); replace BK129 := Aside0.mk (blk_below BK129.out hb); replace BK143 := Aside0.mk (blk_below BK143.out hb); replace BK144 := Aside0.mk (blk_below BK144.out hb); replace HB := Aside0.mk (below_step (pB HB.out) hb); (try clear hb); (try clear hb2); (try clear hk); (try clear hi); have hnb138 := NB143_144.out; have hnc138 := NB144_143.out; have hcz139_0 : w137.cell? ⟨gb143, 0, none⟩ = some (.string t137) := blk_cell BK143.out 0; have hcz139_1 : w137.cell? ⟨gb143, 1, none⟩ = some (.string t138) := blk_cell BK143.out 1; have hfz139_0 := blk_frozen BK143.out 0; have hfz139_1 := blk_frozen BK143.out 1; have hcz140_0 : w137.cell? ⟨gb127, 0, none⟩ = some (.string a0_0) := blk_cell BK127.out 0; have hcz140_1 : w137.cell? ⟨gb127, 1, none⟩ = some (.string a0_1) := blk_cell BK127.out 1; have hfz140_0 := blk_frozen BK127.out 0; have hfz140_1 := blk_frozen BK127.out 1) | (go_at_call 24; (with_reducible refine (span_Within.calls t137 t138 a0_0 a0_1 true _ A119.out).mono ?_); rintro e w141 ⟨rfl, hb⟩; replace HO_9 := Aside0.mk (Kd.R_below (pR HO_9.out) hb); replace BK127 := Aside0.mk (blk_below BK127.out hb); replace BK128 := Aside0.mk (blk_below BK128.out hb); replace BK129 := Aside0.mk (blk_below BK129.out hb); replace BK143 := Aside0.mk (blk_below BK143.out hb); replace BK144 := Aside0.mk (blk_below BK144.out hb); replace HB := Aside0.mk (below_step (pB HB.out) hb); (try clear hb); (try clear hb2); (try clear hk); (try clear hi); have hcz142_0 : w141.cell? ⟨gb143, 0, none⟩ = some (.string t137) := blk_cell BK143.out 0; have hcz142_1 : w141.cell? ⟨gb143, 1, none⟩ = some (.string t138) := blk_cell BK143.out 1; have hfz142_0 := blk_frozen BK143.out 0; have hfz142_1 := blk_frozen BK143.out 1; have hcz143_0 : w141.cell? ⟨gb129, 0, none⟩ = some (.string a2_0) := blk_cell BK129.out 0; have hcz143_1 : w141.cell? ⟨gb129, 1, none⟩ = some (.string a2_1) := blk_cell BK129.out 1; have hfz143_0 := blk_frozen BK129.out 0; have hfz143_1 := blk_frozen BK129.out 1) | (go_at_call 24; (with_reducible refine (span_Within.calls t137 t138 a2_0 a2_1 t170 _ A121.out).mono ?_); rintro e w144 ⟨rfl, hb⟩; replace HO_9 := Aside0.mk (Kd.R_below (pR HO_9.out) hb); replace BK127 := Aside0.mk (blk_below BK127.out hb); replace BK128 := Aside0.mk (blk_below BK128.out hb); replace BK129 := Aside0.mk (blk_below BK129.out hb); replace BK143 := Aside0.mk (blk_below BK143.out hb); replace BK144 := Aside0.mk (blk_below BK144.out hb); replace HB := Aside0.mk (below_step (pB HB.out) hb); (try clear hb); (try clear hb2); (try clear hk); (try clear hi)))
      go_ret
      exact ⟨by first | rfl | (simp [errW_none, errW_some] <;> rfl) | (simp [*, errW_none, errW_some] <;> rfl), by repeat (first | (with_reducible first | exact HB.out | apply below_alloc | apply pw_below_drewN | apply below_drew1 | refine below_set ?_ GE127.out | refine below_set ?_ GE128.out | refine below_set ?_ GE129.out | refine below_set ?_ GE143.out | refine below_set ?_ GE144.out) | exact HB.out)⟩
     subst c87
     have H1 : ((span_Within.f a0_0 a0_1 a2_0 a2_1).bind fun t166 => (if t166 = true then ((span_Within.f t137 t138 a0_0 a0_1).bind fun t167 => (if t167 = true then ((span_Within.f t137 t138 a2_0 a2_1).bind fun t168 => (some t168)) else (some false))) else (some false))) = some r := by rw [if_pos rfl] at H; exact H
     clear H
     have H := H1
     clear H1
     replace H := Option.bind_eq_some_iff.mp H
     obtain ⟨t166, A880, H⟩ := H
     replace H : (if t166 = true then ((span_Within.f t137 t138 a0_0 a0_1).bind fun t167 => (if t167 = true then ((span_Within.f t137 t138 a2_0 a2_1).bind fun t168 => (some t168)) else (some false))) else (some false)) = some r := H
     have A88 := Aside0.mk A880
     clear A880
     by_cases c89 : t166 = true
     rotate_left
     · replace c89 := Bool.eq_false_iff.mpr c89
       subst c89
       have H1 : (some false) = some r := by rw [if_neg (show ¬ (false = true) by decide)] at H; exact H
       clear H
       have H := H1
       clear H1
       exact absurd H (by rw [HLT.out]; repeat' first | (with_reducible exact dead_none) | (with_reducible exact dead_false) | (with_reducible refine dead_ite ?_ ?_) | (with_reducible refine dead_bind (fun _ => ?_)) | (refine dead_ite ?_ ?_) | (refine dead_bind (fun _ => ?_)) | (simp; done))
     subst c89
     have H1 : ((span_Within.f t137 t138 a0_0 a0_1).bind fun t167 => (if t167 = true then ((span_Within.f t137 t138 a2_0 a2_1).bind fun t168 => (some t168)) else (some false))) = some r := by rw [if_pos rfl] at H; exact H
     clear H
     have H := H1
     clear H1
     replace H := Option.bind_eq_some_iff.mp H
     obtain ⟨t167, A900, H⟩ := H
     replace H : (if t167 = true then ((span_Within.f t137 t138 a2_0 a2_1).bind fun t168 => (some t168)) else (some false)) = some r := H
     have A90 := Aside0.mk A900
     clear A900
     by_cases c91 : t167 = true
     rotate_left
     · replace c91 := Bool.eq_false_iff.mpr c91
       subst c91
       have H1 : (some false) = some r := by rw [if_neg (show ¬ (false = true) by decide)] at H; exact H
       clear H
       have H := H1
       clear H1
       exact absurd H (by rw [HLT.out]; repeat' first | (with_reducible exact dead_none) | (with_reducible exact dead_false) | (with_reducible refine dead_ite ?_ ?_) | (with_reducible refine dead_bind (fun _ => ?_)) | (refine dead_ite ?_ ?_) | (refine dead_bind (fun _ => ?_)) | (simp; done))
     subst c91
     have H1 : ((span_Within.f t137 t138 a2_0 a2_1).bind fun t168 => (some t168)) = some r := by rw [if_pos rfl] at H; exact H
     clear H
     have H := H1
     clear H1
     replace H := Option.bind_eq_some_iff.mp H
     obtain ⟨t168, A920, H⟩ := H
     replace H : (some t168) = some r := H
     have A92 := Aside0.mk A920
     clear A920
     obtain rfl := Option.some.inj H
     obtain ⟨Ao93, co93, eo93⟩ := Kd.R_slice HO_9.out
     subst eo93
     have hnb94 := NB127_128.out
     have hnc94 := NB128_127.out
     have hnb95 := NB127_129.out
     have hnc95 := NB129_127.out
     have hnb96 := NB127_143.out
     have hnc96 := NB143_127.out
     have hnb97 := NB127_144.out
     have hnc97 := NB144_127.out
     have hcz98_0 : wr.cell? ⟨gb127, 0, none⟩ = some (.string a0_0) := blk_cell BK127.out 0
     have hcz98_1 : wr.cell? ⟨gb127, 1, none⟩ = some (.string a0_1) := blk_cell BK127.out 1
     have hfz98_0 := blk_frozen BK127.out 0
     have hfz98_1 := blk_frozen BK127.out 1
     have hnb99 := NB128_129.out
     have hnc99 := NB129_128.out
     have hnb100 := NB128_143.out
     have hnc100 := NB143_128.out
     have hnb101 := NB128_144.out
     have hnc101 := NB144_128.out
     have hcz102_0 : wr.cell? ⟨gb128, 0, none⟩ = some (.string a1_0) := blk_cell BK128.out 0
     have hcz102_1 : wr.cell? ⟨gb128, 1, none⟩ = some (.string a1_1) := blk_cell BK128.out 1
     have hfz102_0 := blk_frozen BK128.out 0
     have hfz102_1 := blk_frozen BK128.out 1
     go_wp2_with (first | ((with_reducible refine gate_callee (f := 24) rfl ?_); refine goesL_ (some 114) rfl rfl Try.func24 (by kernel_rfl) rfl #[.agg #[.string a0_0, .string a0_1], .agg #[.string a1_0, .string a1_1]] rfl (by (try simp only [List.map_toArray, List.map_cons, List.map_nil]); first | done | rfl | (simp only [List.length_drop, List.length_take]; done) | (simp only [List.length_drop, List.length_take]; rfl)) ?_; (with_reducible refine (span_Within.calls a0_0 a0_1 a1_0 a1_1 true _ A84.out).mono ?_); rintro e w103 ⟨rfl, hb⟩; refine ⟨_, rfl, ?_⟩; replace HO_9 := Aside0.mk (Kd.R_below (pR HO_9.out) hb); replace BK127 := Aside0.mk (blk_below BK127.out hb); replace BK128 := Aside0.mk (blk_below BK128.out hb); replace BK129 := Aside0.mk (blk_below BK129.out hb); replace BK143 := Aside0.mk (blk_below BK143.out hb); replace BK144 := Aside0.mk (blk_below BK144.out hb); replace HB := Aside0.mk (below_step (pB HB.out) hb); (try clear hb); (try clear hb2); (try clear hk); (try clear hi); have hcz104_0 : w103.cell? ⟨gb128, 0, none⟩ = some (.string a1_0) := blk_cell BK128.out 0; have hcz104_1 : w103.cell? ⟨gb128, 1, none⟩ = some (.string a1_1) := blk_cell BK128.out 1; have hfz104_0 := blk_frozen BK128.out 0; have hfz104_1 := blk_frozen BK128.out 1; have hnb105 := NB129_143.out; have hnc105 := NB143_129.out; have hnb106 := NB129_144.out; have hnc106 := NB144_129.out; have hcz107_0 : w103.cell? ⟨gb129, 0, none⟩ = some (.string a2_0) := blk_cell BK129.out 0; have hcz107_1 : w103.cell? ⟨gb129, 1, none⟩ = some (.string a2_1) := blk_cell BK129.out 1; have hfz107_0 := blk_frozen BK129.out 0; have hfz107_1 := blk_frozen BK129.out 1) | (go_at_call 24; (with_reducible refine (span_Within.calls a1_0 a1_1 a2_0 a2_1 true _ A86.out).mono ?_); rintro e w108 ⟨rfl, hb⟩; replace HO_9 := Aside0.mk (Kd.R_below (pR HO_9.out) hb); replace BK127 := Aside0.mk (blk_below BK127.out hb); replace BK128 := Aside0.mk (blk_below BK128.out hb); replace BK129 := Aside0.mk (blk_below BK129.out hb); replace BK143 := Aside0.mk (blk_below BK143.out hb); replace BK144 := Aside0.mk (blk_below BK144.out hb); replace HB := Aside0.mk (below_step (pB HB.out) hb); (try clear hb); (try clear hb2); (try clear hk); (try clear hi); have hcz109_0 : w108.cell? ⟨gb127, 0, none⟩ = some (.string a0_0) := blk_cell BK127.out 0; have hcz109_1 : w108.cell? ⟨gb127, 1, none⟩ = some (.string a0_1) := blk_cell BK127.out 1; have hfz109_0 := blk_frozen BK127.out 0; have hfz109_1 := blk_frozen BK127.out 1; have hcz110_0 : w108.cell? ⟨gb129, 0, none⟩ = some (.string a2_0) := blk_cell BK129.out 0; have hcz110_1 : w108.cell? ⟨gb129, 1, none⟩ = some (.string a2_1) := blk_cell BK129.out 1; have hfz110_0 := blk_frozen BK129.out 0; have hfz110_1 := blk_frozen BK129.out 1) | (go_at_call 24; (with_reducible refine (span_Within.calls a0_0 a0_1 a2_0 a2_1 true _ A88.out).mono ?_); rintro e w111 ⟨rfl, hb⟩; replace HO_9 := Aside0.mk (Kd.R_below (pR HO_9.out) hb); replace BK127 := Aside0.mk (blk_below BK127.out hb); replace BK128 := Aside0.mk (blk_below BK128.out hb); replace BK129 := Aside0.mk (blk_below BK129.out hb); replace BK143 := Aside0.mk (blk_below BK143.out hb); replace BK144 := Aside0.mk (blk_below BK144.out hb); replace HB := Aside0.mk (below_step (pB HB.out) hb); (try clear hb); (try clear hb2); (try clear hk); (try clear hi); have hnb112 := NB143_144.out; have hnc112 := NB144_143.out; have hcz113_0 : w111.cell? ⟨gb143, 0, none⟩ = some (.string t137) := blk_cell BK143.out 0; have hcz113_1 : w111.cell? ⟨gb143, 1, none⟩ = some (.string t138) := blk_cell BK143.out 1; have hfz113_0 := blk_frozen BK143.out 0; have hfz113_1 := blk_frozen BK143.out 1; have hcz114_0 : w111.cell? ⟨gb127, 0, none⟩ = some (.string a0_0) := blk_cell BK127.out 0; have hcz114_1 : w111.cell? ⟨gb127, 1, none⟩ = some (.string a0_1) := blk_cell BK127.out 1; have hfz114_0 := blk_frozen BK127.out 0; have hfz114_1 := blk_frozen BK127.out 1) | (go_at_call 24; (with_reducible refine (span_Within.calls t137 t138 a0_0 a0_1 true _ A90.out).mono ?_); rintro e w115 ⟨rfl, hb⟩; replace HO_9 := Aside0.mk (Kd.R_below (pR HO_9.out) hb); replace BK127 := Aside0.mk (blk_below BK127.out hb); replace BK128 := Aside0.mk (blk_below BK128.out hb); replace BK129 := Aside0.mk (blk_below BK129.out hb); replace BK143 := Aside0.mk (blk_below BK143.out hb); replace BK144 := Aside0.mk (blk_below BK144.out hb); replace HB := Aside0.mk (below_step (pB HB.out) hb); (try clear hb); (try clear hb2); (try clear hk); (try clear hi); have hcz116_0 : w115.cell? ⟨gb143, 0, none⟩ = some (.string t137) := blk_cell BK143.out 0; have hcz116_1 : w115.cell? ⟨gb143, 1, none⟩ = some (.string t138) := blk_cell BK143.out 1; have hfz116_0 := blk_frozen BK143.out 0; have hfz116_1 := blk_frozen BK143.out 1; have hcz117_0 : w115.cell? ⟨gb129, 0, none⟩ = some (.string a2_0) := blk_cell BK129.out 0; have hcz117_1 : w115.cell? ⟨gb129, 1, none⟩ = some (.string a2_1) := blk_cell BK129.out 1; have hfz117_0 := blk_frozen BK129.out 0; have hfz117_1 := blk_frozen BK129.out 1) | (go_at_call 24; (with_reducible refine (span_Within.calls t137 t138 a2_0 a2_1 t168 _ A92.out).mono ?_); rintro e w118 ⟨rfl, hb⟩; replace HO_9 := Aside0.mk (Kd.R_below (pR HO_9.out) hb); replace BK127 := Aside0.mk (blk_below BK127.out hb); replace BK128 := Aside0.mk (blk_below BK128.out hb); replace BK129 := Aside0.mk (blk_below BK129.out hb); replace BK143 := Aside0.mk (blk_below BK143.out hb); replace BK144 := Aside0.mk (blk_below BK144.out hb); replace HB := Aside0.mk (below_step (pB HB.out) hb); (try clear hb); (try clear hb2); (try clear hk); (try clear hi)))
     go_ret
     exact ⟨by first | rfl | (simp [errW_none, errW_some] <;> rfl) | (simp [*, errW_none, errW_some] <;> rfl), by repeat (first | (with_reducible first | exact HB.out | apply below_alloc | apply pw_below_drewN | apply below_drew1 | refine below_set ?_ GE127.out | refine below_set ?_ GE128.out | refine below_set ?_ GE129.out | refine below_set ?_ GE143.out | refine below_set ?_ GE144.out) | exact HB.out)⟩
    rw [if_pos c50] at H
    have c50b0 : decide (x10_1 < (y145.length : Int)) = true := decide_eq_true c50
    clear c50
    have HC51 := Aside0.mk H
    clear H
    obtain ⟨Ao52, co52, eo52⟩ := Kd.R_slice HO_9.out
    subst eo52
    go_upto_region 10 with (fail)
    go_cut [11] (fun v11 wc => ∃ (kq : Nat) (x11_50 : Bool), v11 = .bool x11_50 ∧ Aside0 (gazetteerlaw5_SpanMeets.j1 kq y145 x10_1 x11_50 a0_0 a0_1 a1_0 a1_1 a2_0 a2_1 t137 t138 t141 t142 = some r) ∧ Aside0 (kq ≤ k1) ∧ Aside0 (Kd.R Kd.string 9 wc w.heap.size (fun _ => True) (.slice Ao52 y145.length co52) y145) ∧ Aside0 (wc.heap[gb127]? = some (.cells #[.string a0_0, .string a0_1] 38 (0, 0))) ∧ Aside0 (wc.heap[gb128]? = some (.cells #[.string a1_0, .string a1_1] 38 (0, 0))) ∧ Aside0 (wc.heap[gb129]? = some (.cells #[.string a2_0, .string a2_1] 38 (0, 0))) ∧ Aside0 (wc.heap[gb143]? = some (.cells #[.string t137, .string t138] 38 (0, 0))) ∧ Aside0 (wc.heap[gb144]? = some (.cells #[.string t141, .string t142] 38 (0, 0))) ∧ Aside0 (Below w.heap.size w wc))
    case first =>
     have H := HC51.out
     clear HC51
     by_cases c53 : 0 ≤ x10_1
     rotate_left
     · rw [if_neg c53] at H
       exact absurd H (by simp)
     rw [if_pos c53] at H
     have c53b0 : decide (0 ≤ x10_1) = true := decide_eq_true c53
     clear c53
     (first | rw [c53b0] | (simp only [i64_w, i32_w]; rw [c53b0]) | skip)
     replace H := Option.bind_eq_some_iff.mp H
     obtain ⟨t149, A540, H⟩ := H
     replace H : (if t149 = true then ((gazetteerref5_Has.f a1_0 a1_1 (rdOf ByteArray.empty y145 x10_1)).bind fun t151 => (if t151 = true then ((gazetteerref5_Has.f a2_0 a2_1 (rdOf ByteArray.empty y145 x10_1)).bind fun t153 => (gazetteerlaw5_SpanMeets.j1 k1 y145 x10_1 t153 a0_0 a0_1 a1_0 a1_1 a2_0 a2_1 t137 t138 t141 t142)) else (gazetteerlaw5_SpanMeets.j1 k1 y145 x10_1 false a0_0 a0_1 a1_0 a1_1 a2_0 a2_1 t137 t138 t141 t142))) else (gazetteerlaw5_SpanMeets.j1 k1 y145 x10_1 false a0_0 a0_1 a1_0 a1_1 a2_0 a2_1 t137 t138 t141 t142)) = some r := H
     have A54 := Aside0.mk A540
     clear A540
     by_cases c55 : t149 = true
     rotate_left
     ·
      replace c55 := Bool.eq_false_iff.mpr c55
      subst c55
      have H1 : (gazetteerlaw5_SpanMeets.j1 k1 y145 x10_1 false a0_0 a0_1 a1_0 a1_1 a2_0 a2_1 t137 t138 t141 t142) = some r := by rw [if_neg (show ¬ (false = true) by decide)] at H; exact H
      clear H
      have H := H1
      clear H1
      have H' := Aside0.mk H
      clear H
      try go_wp2
      replace HO_9 := Aside0.mk (Kd.R_drew HO_9.out)
      replace BK127 := Aside0.mk (blk_drew BK127.out)
      replace BK128 := Aside0.mk (blk_drew BK128.out)
      replace BK129 := Aside0.mk (blk_drew BK129.out)
      replace BK143 := Aside0.mk (blk_drew BK143.out)
      replace BK144 := Aside0.mk (blk_drew BK144.out)
      replace HB := Aside0.mk (below_drew1 HB.out)
      have p148 : 0 ≤ (x10_1 : Int) := of_decide_eq_true (by first | (with_reducible assumption) | assumption)
      have q148 : x10_1 < (y145.length : Int) := of_decide_eq_true (by first | (with_reducible assumption) | assumption)
      obtain ⟨ad148, e148, hx148_0⟩ := Kd.at_string (Kd.R_reads' HO_9.out).2.2 x10_1 p148 q148
      cases e148
      replace p148 := eq_true p148
      replace q148 := eq_true q148
      refine start_ (n := 23) (S := fun w' => w'.cell? ⟨gb127, 0, none⟩ = some (.string a0_0) ∧ w'.cell? ⟨gb127, 1, none⟩ = some (.string a0_1) ∧ w'.cell? (ad148.add (x10_1).toNat) = some (.string (rdOf ByteArray.empty y145 x10_1))) (ds := []) #[false, false, false, false, false, false, false, false, false, false, false, false, false, false, false, false, false, false, false, false, false, false, false] (by kernel_rfl) rfl rfl ⟨blk_cell BK127.out 0, blk_cell BK127.out 1, hx148_0⟩ (fun hHeld => ?_); refine with_tabW gazetteerlaw5_SpanMeets.tab10 gazetteerlaw5_SpanMeets.bits10 (fun HT_ HW_ => ?_)
      generalize wr.drew = w66 at HO_9 BK127 BK128 BK129 BK143 BK144 HB hx148_0 hHeld ⊢
      refine pure_ (i := 1) (N := some 56) (v := ?_) (a' := ?_) #[false, true, false, false, false, false, false, false, false, false, false, false, false, false, false, false, false, false, false, false, false, false, false] rfl rfl (any_of HT_.out (by kernel_rfl)) (fun _ _ _ h => h) (Or.inl ⟨by rfl, ?_⟩) ?_ ?_
      rotate_left
      · intro w'
        go_simp
        with_reducible rfl
      rotate_left
      · simp only [Act.put, List.setIfInBounds_toArray, List.set_cons_zero, List.set_cons_succ, i64_w, i32_w]; rfl
      refine pure_ (i := 2) (N := some 57) (v := ?_) (a' := ?_) #[false, true, true, false, false, false, false, false, false, false, false, false, false, false, false, false, false, false, false, false, false, false, false] rfl rfl (any_of HT_.out (by kernel_rfl)) (fun _ _ _ h => h) (Or.inl ⟨by rfl, ?_⟩) ?_ ?_
      rotate_left
      · intro w'
        go_simp
        with_reducible rfl
      rotate_left
      · simp only [Act.put, List.setIfInBounds_toArray, List.set_cons_zero, List.set_cons_succ, i64_w, i32_w]; rfl
      refine pure_ (i := 3) (N := some 58) (v := ?_) (a' := ?_) #[false, true, true, true, false, false, false, false, false, false, false, false, false, false, false, false, false, false, false, false, false, false, false] rfl rfl (any_of HT_.out (by kernel_rfl)) (fun _ _ _ h => h) (Or.inl ⟨by rfl, ?_⟩) ?_ ?_
      rotate_left
      · intro w'
        go_simp
        with_reducible rfl
      rotate_left
      · simp only [Act.put, List.setIfInBounds_toArray, List.set_cons_zero, List.set_cons_succ, i64_w, i32_w]; rfl
      refine take_ (i := 0) (N := some 55) (v := ?_) (a' := ?_) #[true, true, true, true, false, false, false, false, false, false, false, false, false, false, false, false, false, false, false, false, false, false, false] rfl rfl (take_ofW HT_.out HW_.out (by kernel_rfl)) (fun _ _ _ h => h) (Or.inl ⟨by rfl, ?_⟩) hHeld ?_ ?_
      rotate_left
      · rintro w' ⟨s0, s1, s2⟩; go_simp; with_reducible rfl
      rotate_left
      · simp only [Act.put, List.setIfInBounds_toArray, List.set_cons_zero, List.set_cons_succ, i64_w, i32_w]; rfl
      refine take_ (i := 4) (N := some 59) (v := ?_) (a' := ?_) #[true, true, true, true, true, false, false, false, false, false, false, false, false, false, false, false, false, false, false, false, false, false, false] rfl rfl (take_ofW HT_.out HW_.out (by kernel_rfl)) (fun _ _ _ h => h) (Or.inl ⟨by rfl, ?_⟩) hHeld ?_ ?_
      rotate_left
      · rintro w' ⟨s0, s1, s2⟩; go_simp; with_reducible rfl
      rotate_left
      · simp only [Act.put, List.setIfInBounds_toArray, List.set_cons_zero, List.set_cons_succ, i64_w, i32_w]; rfl
      refine one_ (i := 5) (N := some 60) #[true, true, true, true, true, true, false, false, false, false, false, false, false, false, false, false, false, false, false, false, false, false, false] rfl rfl (one_of HT_.out (by kernel_rfl)) (by decide) (fun K hK => ?_)
      refine goes_ Try.func21 (by kernel_rfl) rfl #[.agg #[.string a0_0, .string a0_1], .string (rdOf ByteArray.empty y145 x10_1)] (by rfl) rfl rfl (by (try simp only [List.map_toArray, List.map_cons, List.map_nil]); first | done | rfl | (simp only [List.length_drop, List.length_take]; done) | (simp only [List.length_drop, List.length_take]; rfl)) ?_
      with_reducible refine (gazetteerref5_Has.calls a0_0 a0_1 (rdOf ByteArray.empty y145 x10_1) false _ A54.out).mono ?_
      rintro e w67 ⟨rfl, hb⟩
      have HS2_ := (hb.cell (World.block_lt_of_cell? _ _ (hHeld.2.2))).trans (hHeld.2.2)
      refine ⟨_, rfl, ?_⟩
      replace HO_9 := Aside0.mk (Kd.R_below (pR HO_9.out) hb)
      replace BK127 := Aside0.mk (blk_below BK127.out hb)
      replace BK128 := Aside0.mk (blk_below BK128.out hb)
      replace BK129 := Aside0.mk (blk_below BK129.out hb)
      replace BK143 := Aside0.mk (blk_below BK143.out hb)
      replace BK144 := Aside0.mk (blk_below BK144.out hb)
      replace HB := Aside0.mk (below_step (pB HB.out) hb)
      (try clear hb)
      (try clear hb2)
      (try clear hk)
      (try clear hi)
      refine hK.out _ _ ⟨blk_cell BK127.out 0, blk_cell BK127.out 1, HS2_⟩ (fun hHeld => ?_)
      clear hK K
      refine norm_ (a' := ?_) ?_ ?_
      rotate_left
      · show Act.put _ (some 60) _ = _; simp only [Act.put, List.setIfInBounds_toArray, List.set_cons_zero, List.set_cons_succ, i64_w, i32_w]; rfl
      refine pure_ (i := 6) (N := some 61) (v := ?_) (a' := ?_) #[true, true, true, true, true, true, true, false, false, false, false, false, false, false, false, false, false, false, false, false, false, false, false] rfl rfl (any_of HT_.out (by kernel_rfl)) (fun _ _ _ h => h) (Or.inl ⟨by rfl, ?_⟩) ?_ ?_
      rotate_left
      · intro w'
        go_simp
        with_reducible rfl
      rotate_left
      · simp only [Act.put, List.setIfInBounds_toArray, List.set_cons_zero, List.set_cons_succ, i64_w, i32_w]; rfl
      refine pure_ (i := 7) (N := some 62) (v := undef) (a' := ?_) #[true, true, true, true, true, true, true, true, false, false, false, false, false, false, false, false, false, false, false, false, false, false, false] rfl rfl (any_of HT_.out (by kernel_rfl)) (fun _ _ _ h => h) (Or.inr ⟨by rfl, rfl⟩) ?_ ?_
      rotate_left
      · simp only [Act.put, List.setIfInBounds_toArray, List.set_cons_zero, List.set_cons_succ, i64_w, i32_w]; rfl
      refine pure_ (i := 8) (N := some 63) (v := undef) (a' := ?_) #[true, true, true, true, true, true, true, true, true, false, false, false, false, false, false, false, false, false, false, false, false, false, false] rfl rfl (any_of HT_.out (by kernel_rfl)) (fun _ _ _ h => h) (Or.inr ⟨by rfl, rfl⟩) ?_ ?_
      rotate_left
      · simp only [Act.put, List.setIfInBounds_toArray, List.set_cons_zero, List.set_cons_succ, i64_w, i32_w]; rfl
      refine pure_ (i := 9) (N := some 64) (v := undef) (a' := ?_) #[true, true, true, true, true, true, true, true, true, true, false, false, false, false, false, false, false, false, false, false, false, false, false] rfl rfl (any_of HT_.out (by kernel_rfl)) (fun _ _ _ h => h) (Or.inr ⟨by rfl, rfl⟩) ?_ ?_
      rotate_left
      · simp only [Act.put, List.setIfInBounds_toArray, List.set_cons_zero, List.set_cons_succ, i64_w, i32_w]; rfl
      refine pure_ (i := 10) (N := some 65) (v := undef) (a' := ?_) #[true, true, true, true, true, true, true, true, true, true, true, false, false, false, false, false, false, false, false, false, false, false, false] rfl rfl (any_of HT_.out (by kernel_rfl)) (fun _ _ _ h => h) (Or.inr ⟨by rfl, rfl⟩) ?_ ?_
      rotate_left
      · simp only [Act.put, List.setIfInBounds_toArray, List.set_cons_zero, List.set_cons_succ, i64_w, i32_w]; rfl
      refine pure_ (i := 11) (N := some 66) (v := undef) (a' := ?_) #[true, true, true, true, true, true, true, true, true, true, true, true, false, false, false, false, false, false, false, false, false, false, false] rfl rfl (any_of HT_.out (by kernel_rfl)) (fun _ _ _ h => h) (Or.inr ⟨by rfl, rfl⟩) ?_ ?_
      rotate_left
      · simp only [Act.put, List.setIfInBounds_toArray, List.set_cons_zero, List.set_cons_succ, i64_w, i32_w]; rfl
      refine pure_ (i := 12) (N := some 67) (v := undef) (a' := ?_) #[true, true, true, true, true, true, true, true, true, true, true, true, true, false, false, false, false, false, false, false, false, false, false] rfl rfl (any_of HT_.out (by kernel_rfl)) (fun _ _ _ h => h) (Or.inr ⟨by rfl, rfl⟩) ?_ ?_
      rotate_left
      · simp only [Act.put, List.setIfInBounds_toArray, List.set_cons_zero, List.set_cons_succ, i64_w, i32_w]; rfl
      refine pure_ (i := 13) (N := some 68) (v := ?_) (a' := ?_) #[true, true, true, true, true, true, true, true, true, true, true, true, true, true, false, false, false, false, false, false, false, false, false] rfl rfl (any_of HT_.out (by kernel_rfl)) (fun _ _ _ h => h) (Or.inl ⟨by rfl, ?_⟩) ?_ ?_
      rotate_left
      · intro w'
        go_simp
        with_reducible rfl
      rotate_left
      · simp only [Act.put, List.setIfInBounds_toArray, List.set_cons_zero, List.set_cons_succ, i64_w, i32_w]; rfl
      refine pure_ (i := 14) (N := some 69) (v := ?_) (a' := ?_) #[true, true, true, true, true, true, true, true, true, true, true, true, true, true, true, false, false, false, false, false, false, false, false] rfl rfl (any_of HT_.out (by kernel_rfl)) (fun _ _ _ h => h) (Or.inl ⟨by rfl, ?_⟩) ?_ ?_
      rotate_left
      · intro w'
        go_simp
        with_reducible rfl
      rotate_left
      · simp only [Act.put, List.setIfInBounds_toArray, List.set_cons_zero, List.set_cons_succ, i64_w, i32_w]; rfl
      refine pure_ (i := 15) (N := some 70) (v := undef) (a' := ?_) #[true, true, true, true, true, true, true, true, true, true, true, true, true, true, true, true, false, false, false, false, false, false, false] rfl rfl (any_of HT_.out (by kernel_rfl)) (fun _ _ _ h => h) (Or.inr ⟨by rfl, rfl⟩) ?_ ?_
      rotate_left
      · simp only [Act.put, List.setIfInBounds_toArray, List.set_cons_zero, List.set_cons_succ, i64_w, i32_w]; rfl
      refine pure_ (i := 16) (N := some 71) (v := undef) (a' := ?_) #[true, true, true, true, true, true, true, true, true, true, true, true, true, true, true, true, true, false, false, false, false, false, false] rfl rfl (any_of HT_.out (by kernel_rfl)) (fun _ _ _ h => h) (Or.inr ⟨by rfl, rfl⟩) ?_ ?_
      rotate_left
      · simp only [Act.put, List.setIfInBounds_toArray, List.set_cons_zero, List.set_cons_succ, i64_w, i32_w]; rfl
      refine pure_ (i := 17) (N := some 72) (v := undef) (a' := ?_) #[true, true, true, true, true, true, true, true, true, true, true, true, true, true, true, true, true, true, false, false, false, false, false] rfl rfl (any_of HT_.out (by kernel_rfl)) (fun _ _ _ h => h) (Or.inr ⟨by rfl, rfl⟩) ?_ ?_
      rotate_left
      · simp only [Act.put, List.setIfInBounds_toArray, List.set_cons_zero, List.set_cons_succ, i64_w, i32_w]; rfl
      refine pure_ (i := 18) (N := some 73) (v := undef) (a' := ?_) #[true, true, true, true, true, true, true, true, true, true, true, true, true, true, true, true, true, true, true, false, false, false, false] rfl rfl (any_of HT_.out (by kernel_rfl)) (fun _ _ _ h => h) (Or.inr ⟨by rfl, rfl⟩) ?_ ?_
      rotate_left
      · simp only [Act.put, List.setIfInBounds_toArray, List.set_cons_zero, List.set_cons_succ, i64_w, i32_w]; rfl
      refine pure_ (i := 19) (N := some 74) (v := undef) (a' := ?_) #[true, true, true, true, true, true, true, true, true, true, true, true, true, true, true, true, true, true, true, true, false, false, false] rfl rfl (any_of HT_.out (by kernel_rfl)) (fun _ _ _ h => h) (Or.inr ⟨by rfl, rfl⟩) ?_ ?_
      rotate_left
      · simp only [Act.put, List.setIfInBounds_toArray, List.set_cons_zero, List.set_cons_succ, i64_w, i32_w]; rfl
      refine pure_ (i := 20) (N := some 75) (v := undef) (a' := ?_) #[true, true, true, true, true, true, true, true, true, true, true, true, true, true, true, true, true, true, true, true, true, false, false] rfl rfl (any_of HT_.out (by kernel_rfl)) (fun _ _ _ h => h) (Or.inr ⟨by rfl, rfl⟩) ?_ ?_
      rotate_left
      · simp only [Act.put, List.setIfInBounds_toArray, List.set_cons_zero, List.set_cons_succ, i64_w, i32_w]; rfl
      refine pure_ (i := 21) (N := some 76) (v := ?_) (a' := ?_) #[true, true, true, true, true, true, true, true, true, true, true, true, true, true, true, true, true, true, true, true, true, true, false] rfl rfl (any_of HT_.out (by kernel_rfl)) (fun _ _ _ h => h) (Or.inl ⟨by rfl, ?_⟩) ?_ ?_
      rotate_left
      · intro w'
        go_simp
        with_reducible rfl
      rotate_left
      · simp only [Act.put, List.setIfInBounds_toArray, List.set_cons_zero, List.set_cons_succ, i64_w, i32_w]; rfl
      refine pure_ (i := 22) (N := some 11) (v := ?_) (a' := ?_) #[true, true, true, true, true, true, true, true, true, true, true, true, true, true, true, true, true, true, true, true, true, true, true] rfl rfl (any_of HT_.out (by kernel_rfl)) (fun _ _ _ h => h) (Or.inl ⟨by rfl, ?_⟩) ?_ ?_
      rotate_left
      · intro w'
        go_simp
        with_reducible rfl
      rotate_left
      · simp only [Act.put, List.setIfInBounds_toArray, List.set_cons_zero, List.set_cons_succ, i64_w, i32_w]; rfl
      refine done_ (done_of HT_.out (by kernel_rfl)) ?_
      try go_wp2
      go_meet
      case rel => exact ⟨_, (false), (by first | rfl | (simp; done) | (simp [*]; done)), H', ⟨by have := HK1.out; first | omega | exact Nat.le_refl _⟩, ⟨by (with_reducible repeat (first | apply Kd.R_alloc | apply Kd.R_drewN | apply Kd.R_drew)); exact HO_9.out⟩, ⟨by (with_reducible repeat (first | refine blk_drewN ?_ _ | refine blk_drew ?_ | refine blk_alloc ?_ _)); exact BK127.out⟩, ⟨by (with_reducible repeat (first | refine blk_drewN ?_ _ | refine blk_drew ?_ | refine blk_alloc ?_ _)); exact BK128.out⟩, ⟨by (with_reducible repeat (first | refine blk_drewN ?_ _ | refine blk_drew ?_ | refine blk_alloc ?_ _)); exact BK129.out⟩, ⟨by (with_reducible repeat (first | refine blk_drewN ?_ _ | refine blk_drew ?_ | refine blk_alloc ?_ _)); exact BK143.out⟩, ⟨by (with_reducible repeat (first | refine blk_drewN ?_ _ | refine blk_drew ?_ | refine blk_alloc ?_ _)); exact BK144.out⟩, ⟨by repeat (first | (with_reducible first | exact HB.out | apply below_alloc | apply pw_below_drewN | apply below_drew1 | refine below_set ?_ GE127.out | refine below_set ?_ GE128.out | refine below_set ?_ GE129.out | refine below_set ?_ GE143.out | refine below_set ?_ GE144.out) | exact HB.out)⟩⟩
     subst c55
     have H1 : ((gazetteerref5_Has.f a1_0 a1_1 (rdOf ByteArray.empty y145 x10_1)).bind fun t151 => (if t151 = true then ((gazetteerref5_Has.f a2_0 a2_1 (rdOf ByteArray.empty y145 x10_1)).bind fun t153 => (gazetteerlaw5_SpanMeets.j1 k1 y145 x10_1 t153 a0_0 a0_1 a1_0 a1_1 a2_0 a2_1 t137 t138 t141 t142)) else (gazetteerlaw5_SpanMeets.j1 k1 y145 x10_1 false a0_0 a0_1 a1_0 a1_1 a2_0 a2_1 t137 t138 t141 t142))) = some r := by rw [if_pos rfl] at H; exact H
     clear H
     have H := H1
     clear H1
     replace H := Option.bind_eq_some_iff.mp H
     obtain ⟨t151, A560, H⟩ := H
     replace H : (if t151 = true then ((gazetteerref5_Has.f a2_0 a2_1 (rdOf ByteArray.empty y145 x10_1)).bind fun t153 => (gazetteerlaw5_SpanMeets.j1 k1 y145 x10_1 t153 a0_0 a0_1 a1_0 a1_1 a2_0 a2_1 t137 t138 t141 t142)) else (gazetteerlaw5_SpanMeets.j1 k1 y145 x10_1 false a0_0 a0_1 a1_0 a1_1 a2_0 a2_1 t137 t138 t141 t142)) = some r := H
     have A56 := Aside0.mk A560
     clear A560
     by_cases c57 : t151 = true
     rotate_left
     ·
      replace c57 := Bool.eq_false_iff.mpr c57
      subst c57
      have H1 : (gazetteerlaw5_SpanMeets.j1 k1 y145 x10_1 false a0_0 a0_1 a1_0 a1_1 a2_0 a2_1 t137 t138 t141 t142) = some r := by rw [if_neg (show ¬ (false = true) by decide)] at H; exact H
      clear H
      have H := H1
      clear H1
      have H' := Aside0.mk H
      clear H
      try go_wp2
      replace HO_9 := Aside0.mk (Kd.R_drew HO_9.out)
      replace BK127 := Aside0.mk (blk_drew BK127.out)
      replace BK128 := Aside0.mk (blk_drew BK128.out)
      replace BK129 := Aside0.mk (blk_drew BK129.out)
      replace BK143 := Aside0.mk (blk_drew BK143.out)
      replace BK144 := Aside0.mk (blk_drew BK144.out)
      replace HB := Aside0.mk (below_drew1 HB.out)
      have p148 : 0 ≤ (x10_1 : Int) := of_decide_eq_true (by first | (with_reducible assumption) | assumption)
      have q148 : x10_1 < (y145.length : Int) := of_decide_eq_true (by first | (with_reducible assumption) | assumption)
      obtain ⟨ad148, e148, hx148_0⟩ := Kd.at_string (Kd.R_reads' HO_9.out).2.2 x10_1 p148 q148
      cases e148
      replace p148 := eq_true p148
      replace q148 := eq_true q148
      have p150 : 0 ≤ (x10_1 : Int) := of_decide_eq_true (by first | (with_reducible assumption) | assumption)
      have q150 : x10_1 < (y145.length : Int) := of_decide_eq_true (by first | (with_reducible assumption) | assumption)
      obtain ⟨ad150, e150, hx150_0⟩ := Kd.at_string (Kd.R_reads' HO_9.out).2.2 x10_1 p150 q150
      obtain rfl : ad148 = ad150 := (by injection e150)
      replace p150 := eq_true p150
      replace q150 := eq_true q150
      refine start_ (n := 23) (S := fun w' => w'.cell? ⟨gb127, 0, none⟩ = some (.string a0_0) ∧ w'.cell? ⟨gb127, 1, none⟩ = some (.string a0_1) ∧ w'.cell? ⟨gb128, 0, none⟩ = some (.string a1_0) ∧ w'.cell? ⟨gb128, 1, none⟩ = some (.string a1_1) ∧ w'.cell? (ad148.add (x10_1).toNat) = some (.string (rdOf ByteArray.empty y145 x10_1)) ∧ w'.cell? (ad148.add (x10_1).toNat) = some (.string (rdOf ByteArray.empty y145 x10_1))) (ds := []) #[false, false, false, false, false, false, false, false, false, false, false, false, false, false, false, false, false, false, false, false, false, false, false] (by kernel_rfl) rfl rfl ⟨blk_cell BK127.out 0, blk_cell BK127.out 1, blk_cell BK128.out 0, blk_cell BK128.out 1, hx148_0, hx150_0⟩ (fun hHeld => ?_); refine with_tabW gazetteerlaw5_SpanMeets.tab10 gazetteerlaw5_SpanMeets.bits10 (fun HT_ HW_ => ?_)
      generalize wr.drew = w63 at HO_9 BK127 BK128 BK129 BK143 BK144 HB hx148_0 hx150_0 hHeld ⊢
      refine pure_ (i := 1) (N := some 56) (v := ?_) (a' := ?_) #[false, true, false, false, false, false, false, false, false, false, false, false, false, false, false, false, false, false, false, false, false, false, false] rfl rfl (any_of HT_.out (by kernel_rfl)) (fun _ _ _ h => h) (Or.inl ⟨by rfl, ?_⟩) ?_ ?_
      rotate_left
      · intro w'
        go_simp
        with_reducible rfl
      rotate_left
      · simp only [Act.put, List.setIfInBounds_toArray, List.set_cons_zero, List.set_cons_succ, i64_w, i32_w]; rfl
      refine pure_ (i := 2) (N := some 57) (v := ?_) (a' := ?_) #[false, true, true, false, false, false, false, false, false, false, false, false, false, false, false, false, false, false, false, false, false, false, false] rfl rfl (any_of HT_.out (by kernel_rfl)) (fun _ _ _ h => h) (Or.inl ⟨by rfl, ?_⟩) ?_ ?_
      rotate_left
      · intro w'
        go_simp
        with_reducible rfl
      rotate_left
      · simp only [Act.put, List.setIfInBounds_toArray, List.set_cons_zero, List.set_cons_succ, i64_w, i32_w]; rfl
      refine pure_ (i := 3) (N := some 58) (v := ?_) (a' := ?_) #[false, true, true, true, false, false, false, false, false, false, false, false, false, false, false, false, false, false, false, false, false, false, false] rfl rfl (any_of HT_.out (by kernel_rfl)) (fun _ _ _ h => h) (Or.inl ⟨by rfl, ?_⟩) ?_ ?_
      rotate_left
      · intro w'
        go_simp
        with_reducible rfl
      rotate_left
      · simp only [Act.put, List.setIfInBounds_toArray, List.set_cons_zero, List.set_cons_succ, i64_w, i32_w]; rfl
      refine take_ (i := 0) (N := some 55) (v := ?_) (a' := ?_) #[true, true, true, true, false, false, false, false, false, false, false, false, false, false, false, false, false, false, false, false, false, false, false] rfl rfl (take_ofW HT_.out HW_.out (by kernel_rfl)) (fun _ _ _ h => h) (Or.inl ⟨by rfl, ?_⟩) hHeld ?_ ?_
      rotate_left
      · rintro w' ⟨s0, s1, s2, s3, s4, s5⟩; go_simp; with_reducible rfl
      rotate_left
      · simp only [Act.put, List.setIfInBounds_toArray, List.set_cons_zero, List.set_cons_succ, i64_w, i32_w]; rfl
      refine take_ (i := 4) (N := some 59) (v := ?_) (a' := ?_) #[true, true, true, true, true, false, false, false, false, false, false, false, false, false, false, false, false, false, false, false, false, false, false] rfl rfl (take_ofW HT_.out HW_.out (by kernel_rfl)) (fun _ _ _ h => h) (Or.inl ⟨by rfl, ?_⟩) hHeld ?_ ?_
      rotate_left
      · rintro w' ⟨s0, s1, s2, s3, s4, s5⟩; go_simp; with_reducible rfl
      rotate_left
      · simp only [Act.put, List.setIfInBounds_toArray, List.set_cons_zero, List.set_cons_succ, i64_w, i32_w]; rfl
      refine one_ (i := 5) (N := some 60) #[true, true, true, true, true, true, false, false, false, false, false, false, false, false, false, false, false, false, false, false, false, false, false] rfl rfl (one_of HT_.out (by kernel_rfl)) (by decide) (fun K hK => ?_)
      refine goes_ Try.func21 (by kernel_rfl) rfl #[.agg #[.string a0_0, .string a0_1], .string (rdOf ByteArray.empty y145 x10_1)] (by rfl) rfl rfl (by (try simp only [List.map_toArray, List.map_cons, List.map_nil]); first | done | rfl | (simp only [List.length_drop, List.length_take]; done) | (simp only [List.length_drop, List.length_take]; rfl)) ?_
      with_reducible refine (gazetteerref5_Has.calls a0_0 a0_1 (rdOf ByteArray.empty y145 x10_1) true _ A54.out).mono ?_
      rintro e w64 ⟨rfl, hb⟩
      have HS4_ := (hb.cell (World.block_lt_of_cell? _ _ (hHeld.2.2.2.2.1))).trans (hHeld.2.2.2.2.1)
      have HS5_ := (hb.cell (World.block_lt_of_cell? _ _ (hHeld.2.2.2.2.2))).trans (hHeld.2.2.2.2.2)
      refine ⟨_, rfl, ?_⟩
      replace HO_9 := Aside0.mk (Kd.R_below (pR HO_9.out) hb)
      replace BK127 := Aside0.mk (blk_below BK127.out hb)
      replace BK128 := Aside0.mk (blk_below BK128.out hb)
      replace BK129 := Aside0.mk (blk_below BK129.out hb)
      replace BK143 := Aside0.mk (blk_below BK143.out hb)
      replace BK144 := Aside0.mk (blk_below BK144.out hb)
      replace HB := Aside0.mk (below_step (pB HB.out) hb)
      (try clear hb)
      (try clear hb2)
      (try clear hk)
      (try clear hi)
      refine hK.out _ _ ⟨blk_cell BK127.out 0, blk_cell BK127.out 1, blk_cell BK128.out 0, blk_cell BK128.out 1, HS4_, HS5_⟩ (fun hHeld => ?_)
      clear hK K
      refine norm_ (a' := ?_) ?_ ?_
      rotate_left
      · show Act.put _ (some 60) _ = _; simp only [Act.put, List.setIfInBounds_toArray, List.set_cons_zero, List.set_cons_succ, i64_w, i32_w]; rfl
      refine pure_ (i := 6) (N := some 61) (v := ?_) (a' := ?_) #[true, true, true, true, true, true, true, false, false, false, false, false, false, false, false, false, false, false, false, false, false, false, false] rfl rfl (any_of HT_.out (by kernel_rfl)) (fun _ _ _ h => h) (Or.inl ⟨by rfl, ?_⟩) ?_ ?_
      rotate_left
      · intro w'
        go_simp
        with_reducible rfl
      rotate_left
      · simp only [Act.put, List.setIfInBounds_toArray, List.set_cons_zero, List.set_cons_succ, i64_w, i32_w]; rfl
      refine pure_ (i := 8) (N := some 63) (v := ?_) (a' := ?_) #[true, true, true, true, true, true, true, false, true, false, false, false, false, false, false, false, false, false, false, false, false, false, false] rfl rfl (any_of HT_.out (by kernel_rfl)) (fun _ _ _ h => h) (Or.inl ⟨by rfl, ?_⟩) ?_ ?_
      rotate_left
      · intro w'
        go_simp
        with_reducible rfl
      rotate_left
      · simp only [Act.put, List.setIfInBounds_toArray, List.set_cons_zero, List.set_cons_succ, i64_w, i32_w]; rfl
      refine pure_ (i := 9) (N := some 64) (v := ?_) (a' := ?_) #[true, true, true, true, true, true, true, false, true, true, false, false, false, false, false, false, false, false, false, false, false, false, false] rfl rfl (any_of HT_.out (by kernel_rfl)) (fun _ _ _ h => h) (Or.inl ⟨by rfl, ?_⟩) ?_ ?_
      rotate_left
      · intro w'
        go_simp
        with_reducible rfl
      rotate_left
      · simp only [Act.put, List.setIfInBounds_toArray, List.set_cons_zero, List.set_cons_succ, i64_w, i32_w]; rfl
      refine pure_ (i := 10) (N := some 65) (v := ?_) (a' := ?_) #[true, true, true, true, true, true, true, false, true, true, true, false, false, false, false, false, false, false, false, false, false, false, false] rfl rfl (any_of HT_.out (by kernel_rfl)) (fun _ _ _ h => h) (Or.inl ⟨by rfl, ?_⟩) ?_ ?_
      rotate_left
      · intro w'
        go_simp
        with_reducible rfl
      rotate_left
      · simp only [Act.put, List.setIfInBounds_toArray, List.set_cons_zero, List.set_cons_succ, i64_w, i32_w]; rfl
      refine take_ (i := 7) (N := some 62) (v := ?_) (a' := ?_) #[true, true, true, true, true, true, true, true, true, true, true, false, false, false, false, false, false, false, false, false, false, false, false] rfl rfl (take_ofW HT_.out HW_.out (by kernel_rfl)) (fun _ _ _ h => h) (Or.inl ⟨by rfl, ?_⟩) hHeld ?_ ?_
      rotate_left
      · rintro w' ⟨s0, s1, s2, s3, s4, s5⟩; go_simp; with_reducible rfl
      rotate_left
      · simp only [Act.put, List.setIfInBounds_toArray, List.set_cons_zero, List.set_cons_succ, i64_w, i32_w]; rfl
      refine take_ (i := 11) (N := some 66) (v := ?_) (a' := ?_) #[true, true, true, true, true, true, true, true, true, true, true, true, false, false, false, false, false, false, false, false, false, false, false] rfl rfl (take_ofW HT_.out HW_.out (by kernel_rfl)) (fun _ _ _ h => h) (Or.inl ⟨by rfl, ?_⟩) hHeld ?_ ?_
      rotate_left
      · rintro w' ⟨s0, s1, s2, s3, s4, s5⟩; go_simp; with_reducible rfl
      rotate_left
      · simp only [Act.put, List.setIfInBounds_toArray, List.set_cons_zero, List.set_cons_succ, i64_w, i32_w]; rfl
      refine one_ (i := 12) (N := some 67) #[true, true, true, true, true, true, true, true, true, true, true, true, true, false, false, false, false, false, false, false, false, false, false] rfl rfl (one_of HT_.out (by kernel_rfl)) (by decide) (fun K hK => ?_)
      refine goes_ Try.func21 (by kernel_rfl) rfl #[.agg #[.string a1_0, .string a1_1], .string (rdOf ByteArray.empty y145 x10_1)] (by rfl) rfl rfl (by (try simp only [List.map_toArray, List.map_cons, List.map_nil]); first | done | rfl | (simp only [List.length_drop, List.length_take]; done) | (simp only [List.length_drop, List.length_take]; rfl)) ?_
      with_reducible refine (gazetteerref5_Has.calls a1_0 a1_1 (rdOf ByteArray.empty y145 x10_1) false _ A56.out).mono ?_
      rintro e w65 ⟨rfl, hb⟩
      have HS4_ := (hb.cell (World.block_lt_of_cell? _ _ (hHeld.2.2.2.2.1))).trans (hHeld.2.2.2.2.1)
      have HS5_ := (hb.cell (World.block_lt_of_cell? _ _ (hHeld.2.2.2.2.2))).trans (hHeld.2.2.2.2.2)
      refine ⟨_, rfl, ?_⟩
      replace HO_9 := Aside0.mk (Kd.R_below (pR HO_9.out) hb)
      replace BK127 := Aside0.mk (blk_below BK127.out hb)
      replace BK128 := Aside0.mk (blk_below BK128.out hb)
      replace BK129 := Aside0.mk (blk_below BK129.out hb)
      replace BK143 := Aside0.mk (blk_below BK143.out hb)
      replace BK144 := Aside0.mk (blk_below BK144.out hb)
      replace HB := Aside0.mk (below_step (pB HB.out) hb)
      (try clear hb)
      (try clear hb2)
      (try clear hk)
      (try clear hi)
      refine hK.out _ _ ⟨blk_cell BK127.out 0, blk_cell BK127.out 1, blk_cell BK128.out 0, blk_cell BK128.out 1, HS4_, HS5_⟩ (fun hHeld => ?_)
      clear hK K
      refine norm_ (a' := ?_) ?_ ?_
      rotate_left
      · show Act.put _ (some 67) _ = _; simp only [Act.put, List.setIfInBounds_toArray, List.set_cons_zero, List.set_cons_succ, i64_w, i32_w]; rfl
      refine pure_ (i := 13) (N := some 68) (v := ?_) (a' := ?_) #[true, true, true, true, true, true, true, true, true, true, true, true, true, true, false, false, false, false, false, false, false, false, false] rfl rfl (any_of HT_.out (by kernel_rfl)) (fun _ _ _ h => h) (Or.inl ⟨by rfl, ?_⟩) ?_ ?_
      rotate_left
      · intro w'
        go_simp
        with_reducible rfl
      rotate_left
      · simp only [Act.put, List.setIfInBounds_toArray, List.set_cons_zero, List.set_cons_succ, i64_w, i32_w]; rfl
      refine pure_ (i := 14) (N := some 69) (v := ?_) (a' := ?_) #[true, true, true, true, true, true, true, true, true, true, true, true, true, true, true, false, false, false, false, false, false, false, false] rfl rfl (any_of HT_.out (by kernel_rfl)) (fun _ _ _ h => h) (Or.inl ⟨by rfl, ?_⟩) ?_ ?_
      rotate_left
      · intro w'
        go_simp
        with_reducible rfl
      rotate_left
      · simp only [Act.put, List.setIfInBounds_toArray, List.set_cons_zero, List.set_cons_succ, i64_w, i32_w]; rfl
      refine pure_ (i := 15) (N := some 70) (v := undef) (a' := ?_) #[true, true, true, true, true, true, true, true, true, true, true, true, true, true, true, true, false, false, false, false, false, false, false] rfl rfl (any_of HT_.out (by kernel_rfl)) (fun _ _ _ h => h) (Or.inr ⟨by rfl, rfl⟩) ?_ ?_
      rotate_left
      · simp only [Act.put, List.setIfInBounds_toArray, List.set_cons_zero, List.set_cons_succ, i64_w, i32_w]; rfl
      refine pure_ (i := 16) (N := some 71) (v := undef) (a' := ?_) #[true, true, true, true, true, true, true, true, true, true, true, true, true, true, true, true, true, false, false, false, false, false, false] rfl rfl (any_of HT_.out (by kernel_rfl)) (fun _ _ _ h => h) (Or.inr ⟨by rfl, rfl⟩) ?_ ?_
      rotate_left
      · simp only [Act.put, List.setIfInBounds_toArray, List.set_cons_zero, List.set_cons_succ, i64_w, i32_w]; rfl
      refine pure_ (i := 17) (N := some 72) (v := undef) (a' := ?_) #[true, true, true, true, true, true, true, true, true, true, true, true, true, true, true, true, true, true, false, false, false, false, false] rfl rfl (any_of HT_.out (by kernel_rfl)) (fun _ _ _ h => h) (Or.inr ⟨by rfl, rfl⟩) ?_ ?_
      rotate_left
      · simp only [Act.put, List.setIfInBounds_toArray, List.set_cons_zero, List.set_cons_succ, i64_w, i32_w]; rfl
      refine pure_ (i := 18) (N := some 73) (v := undef) (a' := ?_) #[true, true, true, true, true, true, true, true, true, true, true, true, true, true, true, true, true, true, true, false, false, false, false] rfl rfl (any_of HT_.out (by kernel_rfl)) (fun _ _ _ h => h) (Or.inr ⟨by rfl, rfl⟩) ?_ ?_
      rotate_left
      · simp only [Act.put, List.setIfInBounds_toArray, List.set_cons_zero, List.set_cons_succ, i64_w, i32_w]; rfl
      refine pure_ (i := 19) (N := some 74) (v := undef) (a' := ?_) #[true, true, true, true, true, true, true, true, true, true, true, true, true, true, true, true, true, true, true, true, false, false, false] rfl rfl (any_of HT_.out (by kernel_rfl)) (fun _ _ _ h => h) (Or.inr ⟨by rfl, rfl⟩) ?_ ?_
      rotate_left
      · simp only [Act.put, List.setIfInBounds_toArray, List.set_cons_zero, List.set_cons_succ, i64_w, i32_w]; rfl
      refine pure_ (i := 20) (N := some 75) (v := undef) (a' := ?_) #[true, true, true, true, true, true, true, true, true, true, true, true, true, true, true, true, true, true, true, true, true, false, false] rfl rfl (any_of HT_.out (by kernel_rfl)) (fun _ _ _ h => h) (Or.inr ⟨by rfl, rfl⟩) ?_ ?_
      rotate_left
      · simp only [Act.put, List.setIfInBounds_toArray, List.set_cons_zero, List.set_cons_succ, i64_w, i32_w]; rfl
      refine pure_ (i := 21) (N := some 76) (v := ?_) (a' := ?_) #[true, true, true, true, true, true, true, true, true, true, true, true, true, true, true, true, true, true, true, true, true, true, false] rfl rfl (any_of HT_.out (by kernel_rfl)) (fun _ _ _ h => h) (Or.inl ⟨by rfl, ?_⟩) ?_ ?_
      rotate_left
      · intro w'
        go_simp
        with_reducible rfl
      rotate_left
      · simp only [Act.put, List.setIfInBounds_toArray, List.set_cons_zero, List.set_cons_succ, i64_w, i32_w]; rfl
      refine pure_ (i := 22) (N := some 11) (v := ?_) (a' := ?_) #[true, true, true, true, true, true, true, true, true, true, true, true, true, true, true, true, true, true, true, true, true, true, true] rfl rfl (any_of HT_.out (by kernel_rfl)) (fun _ _ _ h => h) (Or.inl ⟨by rfl, ?_⟩) ?_ ?_
      rotate_left
      · intro w'
        go_simp
        with_reducible rfl
      rotate_left
      · simp only [Act.put, List.setIfInBounds_toArray, List.set_cons_zero, List.set_cons_succ, i64_w, i32_w]; rfl
      refine done_ (done_of HT_.out (by kernel_rfl)) ?_
      try go_wp2
      go_meet
      case rel => exact ⟨_, (false), (by first | rfl | (simp; done) | (simp [*]; done)), H', ⟨by have := HK1.out; first | omega | exact Nat.le_refl _⟩, ⟨by (with_reducible repeat (first | apply Kd.R_alloc | apply Kd.R_drewN | apply Kd.R_drew)); exact HO_9.out⟩, ⟨by (with_reducible repeat (first | refine blk_drewN ?_ _ | refine blk_drew ?_ | refine blk_alloc ?_ _)); exact BK127.out⟩, ⟨by (with_reducible repeat (first | refine blk_drewN ?_ _ | refine blk_drew ?_ | refine blk_alloc ?_ _)); exact BK128.out⟩, ⟨by (with_reducible repeat (first | refine blk_drewN ?_ _ | refine blk_drew ?_ | refine blk_alloc ?_ _)); exact BK129.out⟩, ⟨by (with_reducible repeat (first | refine blk_drewN ?_ _ | refine blk_drew ?_ | refine blk_alloc ?_ _)); exact BK143.out⟩, ⟨by (with_reducible repeat (first | refine blk_drewN ?_ _ | refine blk_drew ?_ | refine blk_alloc ?_ _)); exact BK144.out⟩, ⟨by repeat (first | (with_reducible first | exact HB.out | apply below_alloc | apply pw_below_drewN | apply below_drew1 | refine below_set ?_ GE127.out | refine below_set ?_ GE128.out | refine below_set ?_ GE129.out | refine below_set ?_ GE143.out | refine below_set ?_ GE144.out) | exact HB.out)⟩⟩
     subst c57
     have H1 : ((gazetteerref5_Has.f a2_0 a2_1 (rdOf ByteArray.empty y145 x10_1)).bind fun t153 => (gazetteerlaw5_SpanMeets.j1 k1 y145 x10_1 t153 a0_0 a0_1 a1_0 a1_1 a2_0 a2_1 t137 t138 t141 t142)) = some r := by rw [if_pos rfl] at H; exact H
     clear H
     have H := H1
     clear H1
     replace H := Option.bind_eq_some_iff.mp H
     obtain ⟨t153, A580, H⟩ := H
     replace H : (gazetteerlaw5_SpanMeets.j1 k1 y145 x10_1 t153 a0_0 a0_1 a1_0 a1_1 a2_0 a2_1 t137 t138 t141 t142) = some r := H
     have A58 := Aside0.mk A580
     clear A580
     have H' := Aside0.mk H
     clear H
     try go_wp2
     replace HO_9 := Aside0.mk (Kd.R_drew HO_9.out)
     replace BK127 := Aside0.mk (blk_drew BK127.out)
     replace BK128 := Aside0.mk (blk_drew BK128.out)
     replace BK129 := Aside0.mk (blk_drew BK129.out)
     replace BK143 := Aside0.mk (blk_drew BK143.out)
     replace BK144 := Aside0.mk (blk_drew BK144.out)
     replace HB := Aside0.mk (below_drew1 HB.out)
     have p148 : 0 ≤ (x10_1 : Int) := of_decide_eq_true (by first | (with_reducible assumption) | assumption)
     have q148 : x10_1 < (y145.length : Int) := of_decide_eq_true (by first | (with_reducible assumption) | assumption)
     obtain ⟨ad148, e148, hx148_0⟩ := Kd.at_string (Kd.R_reads' HO_9.out).2.2 x10_1 p148 q148
     cases e148
     replace p148 := eq_true p148
     replace q148 := eq_true q148
     have p150 : 0 ≤ (x10_1 : Int) := of_decide_eq_true (by first | (with_reducible assumption) | assumption)
     have q150 : x10_1 < (y145.length : Int) := of_decide_eq_true (by first | (with_reducible assumption) | assumption)
     obtain ⟨ad150, e150, hx150_0⟩ := Kd.at_string (Kd.R_reads' HO_9.out).2.2 x10_1 p150 q150
     obtain rfl : ad148 = ad150 := (by injection e150)
     replace p150 := eq_true p150
     replace q150 := eq_true q150
     have p152 : 0 ≤ (x10_1 : Int) := of_decide_eq_true (by first | (with_reducible assumption) | assumption)
     have q152 : x10_1 < (y145.length : Int) := of_decide_eq_true (by first | (with_reducible assumption) | assumption)
     obtain ⟨ad152, e152, hx152_0⟩ := Kd.at_string (Kd.R_reads' HO_9.out).2.2 x10_1 p152 q152
     obtain rfl : ad148 = ad152 := (by injection e152)
     replace p152 := eq_true p152
     replace q152 := eq_true q152
     refine start_ (n := 23) (S := fun w' => w'.cell? ⟨gb127, 0, none⟩ = some (.string a0_0) ∧ w'.cell? ⟨gb127, 1, none⟩ = some (.string a0_1) ∧ w'.cell? ⟨gb128, 0, none⟩ = some (.string a1_0) ∧ w'.cell? ⟨gb128, 1, none⟩ = some (.string a1_1) ∧ w'.cell? ⟨gb129, 0, none⟩ = some (.string a2_0) ∧ w'.cell? ⟨gb129, 1, none⟩ = some (.string a2_1) ∧ w'.cell? (ad148.add (x10_1).toNat) = some (.string (rdOf ByteArray.empty y145 x10_1)) ∧ w'.cell? (ad148.add (x10_1).toNat) = some (.string (rdOf ByteArray.empty y145 x10_1)) ∧ w'.cell? (ad148.add (x10_1).toNat) = some (.string (rdOf ByteArray.empty y145 x10_1))) (ds := []) #[false, false, false, false, false, false, false, false, false, false, false, false, false, false, false, false, false, false, false, false, false, false, false] (by kernel_rfl) rfl rfl ⟨blk_cell BK127.out 0, blk_cell BK127.out 1, blk_cell BK128.out 0, blk_cell BK128.out 1, blk_cell BK129.out 0, blk_cell BK129.out 1, hx148_0, hx150_0, hx152_0⟩ (fun hHeld => ?_); refine with_tabW gazetteerlaw5_SpanMeets.tab10 gazetteerlaw5_SpanMeets.bits10 (fun HT_ HW_ => ?_)
     generalize wr.drew = w59 at HO_9 BK127 BK128 BK129 BK143 BK144 HB hx148_0 hx150_0 hx152_0 hHeld ⊢
     refine pure_ (i := 1) (N := some 56) (v := ?_) (a' := ?_) #[false, true, false, false, false, false, false, false, false, false, false, false, false, false, false, false, false, false, false, false, false, false, false] rfl rfl (any_of HT_.out (by kernel_rfl)) (fun _ _ _ h => h) (Or.inl ⟨by rfl, ?_⟩) ?_ ?_
     rotate_left
     · intro w'
       go_simp
       with_reducible rfl
     rotate_left
     · simp only [Act.put, List.setIfInBounds_toArray, List.set_cons_zero, List.set_cons_succ, i64_w, i32_w]; rfl
     refine pure_ (i := 2) (N := some 57) (v := ?_) (a' := ?_) #[false, true, true, false, false, false, false, false, false, false, false, false, false, false, false, false, false, false, false, false, false, false, false] rfl rfl (any_of HT_.out (by kernel_rfl)) (fun _ _ _ h => h) (Or.inl ⟨by rfl, ?_⟩) ?_ ?_
     rotate_left
     · intro w'
       go_simp
       with_reducible rfl
     rotate_left
     · simp only [Act.put, List.setIfInBounds_toArray, List.set_cons_zero, List.set_cons_succ, i64_w, i32_w]; rfl
     refine pure_ (i := 3) (N := some 58) (v := ?_) (a' := ?_) #[false, true, true, true, false, false, false, false, false, false, false, false, false, false, false, false, false, false, false, false, false, false, false] rfl rfl (any_of HT_.out (by kernel_rfl)) (fun _ _ _ h => h) (Or.inl ⟨by rfl, ?_⟩) ?_ ?_
     rotate_left
     · intro w'
       go_simp
       with_reducible rfl
     rotate_left
     · simp only [Act.put, List.setIfInBounds_toArray, List.set_cons_zero, List.set_cons_succ, i64_w, i32_w]; rfl
     refine take_ (i := 0) (N := some 55) (v := ?_) (a' := ?_) #[true, true, true, true, false, false, false, false, false, false, false, false, false, false, false, false, false, false, false, false, false, false, false] rfl rfl (take_ofW HT_.out HW_.out (by kernel_rfl)) (fun _ _ _ h => h) (Or.inl ⟨by rfl, ?_⟩) hHeld ?_ ?_
     rotate_left
     · rintro w' ⟨s0, s1, s2, s3, s4, s5, s6, s7, s8⟩; go_simp; with_reducible rfl
     rotate_left
     · simp only [Act.put, List.setIfInBounds_toArray, List.set_cons_zero, List.set_cons_succ, i64_w, i32_w]; rfl
     refine take_ (i := 4) (N := some 59) (v := ?_) (a' := ?_) #[true, true, true, true, true, false, false, false, false, false, false, false, false, false, false, false, false, false, false, false, false, false, false] rfl rfl (take_ofW HT_.out HW_.out (by kernel_rfl)) (fun _ _ _ h => h) (Or.inl ⟨by rfl, ?_⟩) hHeld ?_ ?_
     rotate_left
     · rintro w' ⟨s0, s1, s2, s3, s4, s5, s6, s7, s8⟩; go_simp; with_reducible rfl
     rotate_left
     · simp only [Act.put, List.setIfInBounds_toArray, List.set_cons_zero, List.set_cons_succ, i64_w, i32_w]; rfl
     refine one_ (i := 5) (N := some 60) #[true, true, true, true, true, true, false, false, false, false, false, false, false, false, false, false, false, false, false, false, false, false, false] rfl rfl (one_of HT_.out (by kernel_rfl)) (by decide) (fun K hK => ?_)
     refine goes_ Try.func21 (by kernel_rfl) rfl #[.agg #[.string a0_0, .string a0_1], .string (rdOf ByteArray.empty y145 x10_1)] (by rfl) rfl rfl (by (try simp only [List.map_toArray, List.map_cons, List.map_nil]); first | done | rfl | (simp only [List.length_drop, List.length_take]; done) | (simp only [List.length_drop, List.length_take]; rfl)) ?_
     with_reducible refine (gazetteerref5_Has.calls a0_0 a0_1 (rdOf ByteArray.empty y145 x10_1) true _ A54.out).mono ?_
     rintro e w60 ⟨rfl, hb⟩
     have HS6_ := (hb.cell (World.block_lt_of_cell? _ _ (hHeld.2.2.2.2.2.2.1))).trans (hHeld.2.2.2.2.2.2.1)
     have HS7_ := (hb.cell (World.block_lt_of_cell? _ _ (hHeld.2.2.2.2.2.2.2.1))).trans (hHeld.2.2.2.2.2.2.2.1)
     have HS8_ := (hb.cell (World.block_lt_of_cell? _ _ (hHeld.2.2.2.2.2.2.2.2))).trans (hHeld.2.2.2.2.2.2.2.2)
     refine ⟨_, rfl, ?_⟩
     replace HO_9 := Aside0.mk (Kd.R_below (pR HO_9.out) hb)
     replace BK127 := Aside0.mk (blk_below BK127.out hb)
     replace BK128 := Aside0.mk (blk_below BK128.out hb)
     replace BK129 := Aside0.mk (blk_below BK129.out hb)
     replace BK143 := Aside0.mk (blk_below BK143.out hb)
     replace BK144 := Aside0.mk (blk_below BK144.out hb)
     replace HB := Aside0.mk (below_step (pB HB.out) hb)
     (try clear hb)
     (try clear hb2)
     (try clear hk)
     (try clear hi)
     refine hK.out _ _ ⟨blk_cell BK127.out 0, blk_cell BK127.out 1, blk_cell BK128.out 0, blk_cell BK128.out 1, blk_cell BK129.out 0, blk_cell BK129.out 1, HS6_, HS7_, HS8_⟩ (fun hHeld => ?_)
     clear hK K
     refine norm_ (a' := ?_) ?_ ?_
     rotate_left
     · show Act.put _ (some 60) _ = _; simp only [Act.put, List.setIfInBounds_toArray, List.set_cons_zero, List.set_cons_succ, i64_w, i32_w]; rfl
     refine pure_ (i := 6) (N := some 61) (v := ?_) (a' := ?_) #[true, true, true, true, true, true, true, false, false, false, false, false, false, false, false, false, false, false, false, false, false, false, false] rfl rfl (any_of HT_.out (by kernel_rfl)) (fun _ _ _ h => h) (Or.inl ⟨by rfl, ?_⟩) ?_ ?_
     rotate_left
     · intro w'
       go_simp
       with_reducible rfl
     rotate_left
     · simp only [Act.put, List.setIfInBounds_toArray, List.set_cons_zero, List.set_cons_succ, i64_w, i32_w]; rfl
     refine pure_ (i := 8) (N := some 63) (v := ?_) (a' := ?_) #[true, true, true, true, true, true, true, false, true, false, false, false, false, false, false, false, false, false, false, false, false, false, false] rfl rfl (any_of HT_.out (by kernel_rfl)) (fun _ _ _ h => h) (Or.inl ⟨by rfl, ?_⟩) ?_ ?_
     rotate_left
     · intro w'
       go_simp
       with_reducible rfl
     rotate_left
     · simp only [Act.put, List.setIfInBounds_toArray, List.set_cons_zero, List.set_cons_succ, i64_w, i32_w]; rfl
     refine pure_ (i := 9) (N := some 64) (v := ?_) (a' := ?_) #[true, true, true, true, true, true, true, false, true, true, false, false, false, false, false, false, false, false, false, false, false, false, false] rfl rfl (any_of HT_.out (by kernel_rfl)) (fun _ _ _ h => h) (Or.inl ⟨by rfl, ?_⟩) ?_ ?_
     rotate_left
     · intro w'
       go_simp
       with_reducible rfl
     rotate_left
     · simp only [Act.put, List.setIfInBounds_toArray, List.set_cons_zero, List.set_cons_succ, i64_w, i32_w]; rfl
     refine pure_ (i := 10) (N := some 65) (v := ?_) (a' := ?_) #[true, true, true, true, true, true, true, false, true, true, true, false, false, false, false, false, false, false, false, false, false, false, false] rfl rfl (any_of HT_.out (by kernel_rfl)) (fun _ _ _ h => h) (Or.inl ⟨by rfl, ?_⟩) ?_ ?_
     rotate_left
     · intro w'
       go_simp
       with_reducible rfl
     rotate_left
     · simp only [Act.put, List.setIfInBounds_toArray, List.set_cons_zero, List.set_cons_succ, i64_w, i32_w]; rfl
     refine take_ (i := 7) (N := some 62) (v := ?_) (a' := ?_) #[true, true, true, true, true, true, true, true, true, true, true, false, false, false, false, false, false, false, false, false, false, false, false] rfl rfl (take_ofW HT_.out HW_.out (by kernel_rfl)) (fun _ _ _ h => h) (Or.inl ⟨by rfl, ?_⟩) hHeld ?_ ?_
     rotate_left
     · rintro w' ⟨s0, s1, s2, s3, s4, s5, s6, s7, s8⟩; go_simp; with_reducible rfl
     rotate_left
     · simp only [Act.put, List.setIfInBounds_toArray, List.set_cons_zero, List.set_cons_succ, i64_w, i32_w]; rfl
     refine take_ (i := 11) (N := some 66) (v := ?_) (a' := ?_) #[true, true, true, true, true, true, true, true, true, true, true, true, false, false, false, false, false, false, false, false, false, false, false] rfl rfl (take_ofW HT_.out HW_.out (by kernel_rfl)) (fun _ _ _ h => h) (Or.inl ⟨by rfl, ?_⟩) hHeld ?_ ?_
     rotate_left
     · rintro w' ⟨s0, s1, s2, s3, s4, s5, s6, s7, s8⟩; go_simp; with_reducible rfl
     rotate_left
     · simp only [Act.put, List.setIfInBounds_toArray, List.set_cons_zero, List.set_cons_succ, i64_w, i32_w]; rfl
     refine one_ (i := 12) (N := some 67) #[true, true, true, true, true, true, true, true, true, true, true, true, true, false, false, false, false, false, false, false, false, false, false] rfl rfl (one_of HT_.out (by kernel_rfl)) (by decide) (fun K hK => ?_)
     refine goes_ Try.func21 (by kernel_rfl) rfl #[.agg #[.string a1_0, .string a1_1], .string (rdOf ByteArray.empty y145 x10_1)] (by rfl) rfl rfl (by (try simp only [List.map_toArray, List.map_cons, List.map_nil]); first | done | rfl | (simp only [List.length_drop, List.length_take]; done) | (simp only [List.length_drop, List.length_take]; rfl)) ?_
     with_reducible refine (gazetteerref5_Has.calls a1_0 a1_1 (rdOf ByteArray.empty y145 x10_1) true _ A56.out).mono ?_
     rintro e w61 ⟨rfl, hb⟩
     have HS6_ := (hb.cell (World.block_lt_of_cell? _ _ (hHeld.2.2.2.2.2.2.1))).trans (hHeld.2.2.2.2.2.2.1)
     have HS7_ := (hb.cell (World.block_lt_of_cell? _ _ (hHeld.2.2.2.2.2.2.2.1))).trans (hHeld.2.2.2.2.2.2.2.1)
     have HS8_ := (hb.cell (World.block_lt_of_cell? _ _ (hHeld.2.2.2.2.2.2.2.2))).trans (hHeld.2.2.2.2.2.2.2.2)
     refine ⟨_, rfl, ?_⟩
     replace HO_9 := Aside0.mk (Kd.R_below (pR HO_9.out) hb)
     replace BK127 := Aside0.mk (blk_below BK127.out hb)
     replace BK128 := Aside0.mk (blk_below BK128.out hb)
     replace BK129 := Aside0.mk (blk_below BK129.out hb)
     replace BK143 := Aside0.mk (blk_below BK143.out hb)
     replace BK144 := Aside0.mk (blk_below BK144.out hb)
     replace HB := Aside0.mk (below_step (pB HB.out) hb)
     (try clear hb)
     (try clear hb2)
     (try clear hk)
     (try clear hi)
     refine hK.out _ _ ⟨blk_cell BK127.out 0, blk_cell BK127.out 1, blk_cell BK128.out 0, blk_cell BK128.out 1, blk_cell BK129.out 0, blk_cell BK129.out 1, HS6_, HS7_, HS8_⟩ (fun hHeld => ?_)
     clear hK K
     refine norm_ (a' := ?_) ?_ ?_
     rotate_left
     · show Act.put _ (some 67) _ = _; simp only [Act.put, List.setIfInBounds_toArray, List.set_cons_zero, List.set_cons_succ, i64_w, i32_w]; rfl
     refine pure_ (i := 13) (N := some 68) (v := ?_) (a' := ?_) #[true, true, true, true, true, true, true, true, true, true, true, true, true, true, false, false, false, false, false, false, false, false, false] rfl rfl (any_of HT_.out (by kernel_rfl)) (fun _ _ _ h => h) (Or.inl ⟨by rfl, ?_⟩) ?_ ?_
     rotate_left
     · intro w'
       go_simp
       with_reducible rfl
     rotate_left
     · simp only [Act.put, List.setIfInBounds_toArray, List.set_cons_zero, List.set_cons_succ, i64_w, i32_w]; rfl
     refine pure_ (i := 14) (N := some 69) (v := ?_) (a' := ?_) #[true, true, true, true, true, true, true, true, true, true, true, true, true, true, true, false, false, false, false, false, false, false, false] rfl rfl (any_of HT_.out (by kernel_rfl)) (fun _ _ _ h => h) (Or.inl ⟨by rfl, ?_⟩) ?_ ?_
     rotate_left
     · intro w'
       go_simp
       with_reducible rfl
     rotate_left
     · simp only [Act.put, List.setIfInBounds_toArray, List.set_cons_zero, List.set_cons_succ, i64_w, i32_w]; rfl
     refine pure_ (i := 16) (N := some 71) (v := ?_) (a' := ?_) #[true, true, true, true, true, true, true, true, true, true, true, true, true, true, true, false, true, false, false, false, false, false, false] rfl rfl (any_of HT_.out (by kernel_rfl)) (fun _ _ _ h => h) (Or.inl ⟨by rfl, ?_⟩) ?_ ?_
     rotate_left
     · intro w'
       go_simp
       with_reducible rfl
     rotate_left
     · simp only [Act.put, List.setIfInBounds_toArray, List.set_cons_zero, List.set_cons_succ, i64_w, i32_w]; rfl
     refine pure_ (i := 17) (N := some 72) (v := ?_) (a' := ?_) #[true, true, true, true, true, true, true, true, true, true, true, true, true, true, true, false, true, true, false, false, false, false, false] rfl rfl (any_of HT_.out (by kernel_rfl)) (fun _ _ _ h => h) (Or.inl ⟨by rfl, ?_⟩) ?_ ?_
     rotate_left
     · intro w'
       go_simp
       with_reducible rfl
     rotate_left
     · simp only [Act.put, List.setIfInBounds_toArray, List.set_cons_zero, List.set_cons_succ, i64_w, i32_w]; rfl
     refine pure_ (i := 18) (N := some 73) (v := ?_) (a' := ?_) #[true, true, true, true, true, true, true, true, true, true, true, true, true, true, true, false, true, true, true, false, false, false, false] rfl rfl (any_of HT_.out (by kernel_rfl)) (fun _ _ _ h => h) (Or.inl ⟨by rfl, ?_⟩) ?_ ?_
     rotate_left
     · intro w'
       go_simp
       with_reducible rfl
     rotate_left
     · simp only [Act.put, List.setIfInBounds_toArray, List.set_cons_zero, List.set_cons_succ, i64_w, i32_w]; rfl
     refine take_ (i := 15) (N := some 70) (v := ?_) (a' := ?_) #[true, true, true, true, true, true, true, true, true, true, true, true, true, true, true, true, true, true, true, false, false, false, false] rfl rfl (take_ofW HT_.out HW_.out (by kernel_rfl)) (fun _ _ _ h => h) (Or.inl ⟨by rfl, ?_⟩) hHeld ?_ ?_
     rotate_left
     · rintro w' ⟨s0, s1, s2, s3, s4, s5, s6, s7, s8⟩; go_simp; with_reducible rfl
     rotate_left
     · simp only [Act.put, List.setIfInBounds_toArray, List.set_cons_zero, List.set_cons_succ, i64_w, i32_w]; rfl
     refine take_ (i := 19) (N := some 74) (v := ?_) (a' := ?_) #[true, true, true, true, true, true, true, true, true, true, true, true, true, true, true, true, true, true, true, true, false, false, false] rfl rfl (take_ofW HT_.out HW_.out (by kernel_rfl)) (fun _ _ _ h => h) (Or.inl ⟨by rfl, ?_⟩) hHeld ?_ ?_
     rotate_left
     · rintro w' ⟨s0, s1, s2, s3, s4, s5, s6, s7, s8⟩; go_simp; with_reducible rfl
     rotate_left
     · simp only [Act.put, List.setIfInBounds_toArray, List.set_cons_zero, List.set_cons_succ, i64_w, i32_w]; rfl
     refine one_ (i := 20) (N := some 75) #[true, true, true, true, true, true, true, true, true, true, true, true, true, true, true, true, true, true, true, true, true, false, false] rfl rfl (one_of HT_.out (by kernel_rfl)) (by decide) (fun K hK => ?_)
     refine goes_ Try.func21 (by kernel_rfl) rfl #[.agg #[.string a2_0, .string a2_1], .string (rdOf ByteArray.empty y145 x10_1)] (by rfl) rfl rfl (by (try simp only [List.map_toArray, List.map_cons, List.map_nil]); first | done | rfl | (simp only [List.length_drop, List.length_take]; done) | (simp only [List.length_drop, List.length_take]; rfl)) ?_
     with_reducible refine (gazetteerref5_Has.calls a2_0 a2_1 (rdOf ByteArray.empty y145 x10_1) t153 _ A58.out).mono ?_
     rintro e w62 ⟨rfl, hb⟩
     have HS6_ := (hb.cell (World.block_lt_of_cell? _ _ (hHeld.2.2.2.2.2.2.1))).trans (hHeld.2.2.2.2.2.2.1)
     have HS7_ := (hb.cell (World.block_lt_of_cell? _ _ (hHeld.2.2.2.2.2.2.2.1))).trans (hHeld.2.2.2.2.2.2.2.1)
     have HS8_ := (hb.cell (World.block_lt_of_cell? _ _ (hHeld.2.2.2.2.2.2.2.2))).trans (hHeld.2.2.2.2.2.2.2.2)
     refine ⟨_, rfl, ?_⟩
     replace HO_9 := Aside0.mk (Kd.R_below (pR HO_9.out) hb)
     replace BK127 := Aside0.mk (blk_below BK127.out hb)
     replace BK128 := Aside0.mk (blk_below BK128.out hb)
     replace BK129 := Aside0.mk (blk_below BK129.out hb)
     replace BK143 := Aside0.mk (blk_below BK143.out hb)
     replace BK144 := Aside0.mk (blk_below BK144.out hb)
     replace HB := Aside0.mk (below_step (pB HB.out) hb)
     (try clear hb)
     (try clear hb2)
     (try clear hk)
     (try clear hi)
     refine hK.out _ _ ⟨blk_cell BK127.out 0, blk_cell BK127.out 1, blk_cell BK128.out 0, blk_cell BK128.out 1, blk_cell BK129.out 0, blk_cell BK129.out 1, HS6_, HS7_, HS8_⟩ (fun hHeld => ?_)
     clear hK K
     refine norm_ (a' := ?_) ?_ ?_
     rotate_left
     · show Act.put _ (some 75) _ = _; simp only [Act.put, List.setIfInBounds_toArray, List.set_cons_zero, List.set_cons_succ, i64_w, i32_w]; rfl
     refine pure_ (i := 21) (N := some 76) (v := ?_) (a' := ?_) #[true, true, true, true, true, true, true, true, true, true, true, true, true, true, true, true, true, true, true, true, true, true, false] rfl rfl (any_of HT_.out (by kernel_rfl)) (fun _ _ _ h => h) (Or.inl ⟨by rfl, ?_⟩) ?_ ?_
     rotate_left
     · intro w'
       go_simp
       with_reducible rfl
     rotate_left
     · simp only [Act.put, List.setIfInBounds_toArray, List.set_cons_zero, List.set_cons_succ, i64_w, i32_w]; rfl
     refine pure_ (i := 22) (N := some 11) (v := ?_) (a' := ?_) #[true, true, true, true, true, true, true, true, true, true, true, true, true, true, true, true, true, true, true, true, true, true, true] rfl rfl (any_of HT_.out (by kernel_rfl)) (fun _ _ _ h => h) (Or.inl ⟨by rfl, ?_⟩) ?_ ?_
     rotate_left
     · intro w'
       go_simp
       with_reducible rfl
     rotate_left
     · simp only [Act.put, List.setIfInBounds_toArray, List.set_cons_zero, List.set_cons_succ, i64_w, i32_w]; rfl
     refine done_ (done_of HT_.out (by kernel_rfl)) ?_
     try go_wp2
     go_meet
     case rel => exact ⟨_, (t153), (by first | rfl | (simp; done) | (simp [*]; done)), H', ⟨by have := HK1.out; first | omega | exact Nat.le_refl _⟩, ⟨by (with_reducible repeat (first | apply Kd.R_alloc | apply Kd.R_drewN | apply Kd.R_drew)); exact HO_9.out⟩, ⟨by (with_reducible repeat (first | refine blk_drewN ?_ _ | refine blk_drew ?_ | refine blk_alloc ?_ _)); exact BK127.out⟩, ⟨by (with_reducible repeat (first | refine blk_drewN ?_ _ | refine blk_drew ?_ | refine blk_alloc ?_ _)); exact BK128.out⟩, ⟨by (with_reducible repeat (first | refine blk_drewN ?_ _ | refine blk_drew ?_ | refine blk_alloc ?_ _)); exact BK129.out⟩, ⟨by (with_reducible repeat (first | refine blk_drewN ?_ _ | refine blk_drew ?_ | refine blk_alloc ?_ _)); exact BK143.out⟩, ⟨by (with_reducible repeat (first | refine blk_drewN ?_ _ | refine blk_drew ?_ | refine blk_alloc ?_ _)); exact BK144.out⟩, ⟨by repeat (first | (with_reducible first | exact HB.out | apply below_alloc | apply pw_below_drewN | apply below_drew1 | refine below_set ?_ GE127.out | refine below_set ?_ GE128.out | refine below_set ?_ GE129.out | refine below_set ?_ GE143.out | refine below_set ?_ GE144.out) | exact HB.out)⟩⟩
    case rest =>
     clear HC51
     try clear p1
     try clear q1
     try clear hx1
     try clear c2
     try clear p2
     try clear c5
     try clear p14
     try clear q14
     try clear hx14
     try clear p15
     try clear q15
     try clear hx15
     try clear c21
     try clear c53
     try clear c55
     try clear c57
     try clear hx148_0
     try clear hx150_0
     try clear p148
     try clear p150
     try clear q148
     try clear q150
     obtain ⟨kq, x11_50, rfl, HA, HJ50, HO_9, BK127, BK128, BK129, BK143, BK144, HB⟩ := hcut
     cases kq with
     | zero => exact absurd HA.out (by simp [gazetteerlaw5_SpanMeets.j1])
     | succ kj50 =>
      have H := HA.out
      clear HA
      simp only [gazetteerlaw5_SpanMeets.j1] at H
      by_cases c68 : 0 ≤ x10_1
      rotate_left
      · rw [if_neg c68] at H
        exact absurd H (by simp)
      rw [if_pos c68] at H
      have c68b0 : decide (0 ≤ x10_1) = true := decide_eq_true c68
      clear c68
      by_cases c69 : x10_1 < (y145.length : Int)
      rotate_left
      · rw [if_neg c69] at H
        exact absurd H (by simp)
      rw [if_pos c69] at H
      have c69b0 : decide (x10_1 < (y145.length : Int)) = true := decide_eq_true c69
      clear c69
      replace H := Option.bind_eq_some_iff.mp H
      obtain ⟨t155, A700, H⟩ := H
      replace H : (if (t155 != x11_50) = true then (some false) else ((span_Has.f t141 t142 (rdOf ByteArray.empty y145 x10_1)).bind fun t157 => (if (t157 != x11_50) = true then (some false) else ((span_Meet.f a0_0 a0_1 (⟨#[]⟩ : ByteArray) (⟨#[]⟩ : ByteArray)).bind fun bt158 => ((span_Has.f bt158.1 bt158.2 (rdOf ByteArray.empty y145 x10_1)).bind fun t161 => ((gazetteerref5_Has.f a0_0 a0_1 (rdOf ByteArray.empty y145 x10_1)).bind fun t163 => (if (t161 != t163) = true then (some false) else (gazetteerlaw5_SpanMeets.l0 kj50 y145 (wrap64 (x10_1 + 1)) a0_0 a0_1 a1_0 a1_1 a2_0 a2_1 t137 t138 t141 t142)))))))) = some r := H
      have A70 := Aside0.mk A700
      clear A700
      by_cases c71 : (t155 != x11_50) = true
      · rw [if_pos c71] at H
        have c71b0 : (t155 != x11_50) = true := c71
        (try (have c71b1 : decide (t155 = x11_50) = false := by simpa using c71))
        (try (have c71b2 : (t155 == x11_50) = false := by simpa using c71))
        (try (have c71b3 : ¬ (t155 = x11_50) := by simpa using c71))
        clear c71
        exact absurd H (by rw [HLT.out]; repeat' first | (with_reducible exact dead_none) | (with_reducible exact dead_false) | (with_reducible refine dead_ite ?_ ?_) | (with_reducible refine dead_bind (fun _ => ?_)) | (refine dead_ite ?_ ?_) | (refine dead_bind (fun _ => ?_)) | (simp; done))
      rw [if_neg c71] at H
      have c71b0 : (t155 != x11_50) = false := by simpa using c71
      (try (have c71b1 : decide (t155 = x11_50) = true := by simpa using c71))
      (try (have c71b2 : (t155 == x11_50) = true := by simpa using c71))
      clear c71
      replace H := Option.bind_eq_some_iff.mp H
      obtain ⟨t157, A720, H⟩ := H
      replace H : (if (t157 != x11_50) = true then (some false) else ((span_Meet.f a0_0 a0_1 (⟨#[]⟩ : ByteArray) (⟨#[]⟩ : ByteArray)).bind fun bt158 => ((span_Has.f bt158.1 bt158.2 (rdOf ByteArray.empty y145 x10_1)).bind fun t161 => ((gazetteerref5_Has.f a0_0 a0_1 (rdOf ByteArray.empty y145 x10_1)).bind fun t163 => (if (t161 != t163) = true then (some false) else (gazetteerlaw5_SpanMeets.l0 kj50 y145 (wrap64 (x10_1 + 1)) a0_0 a0_1 a1_0 a1_1 a2_0 a2_1 t137 t138 t141 t142)))))) = some r := H
      have A72 := Aside0.mk A720
      clear A720
      by_cases c73 : (t157 != x11_50) = true
      · rw [if_pos c73] at H
        have c73b0 : (t157 != x11_50) = true := c73
        (try (have c73b1 : decide (t157 = x11_50) = false := by simpa using c73))
        (try (have c73b2 : (t157 == x11_50) = false := by simpa using c73))
        (try (have c73b3 : ¬ (t157 = x11_50) := by simpa using c73))
        clear c73
        exact absurd H (by rw [HLT.out]; repeat' first | (with_reducible exact dead_none) | (with_reducible exact dead_false) | (with_reducible refine dead_ite ?_ ?_) | (with_reducible refine dead_bind (fun _ => ?_)) | (refine dead_ite ?_ ?_) | (refine dead_bind (fun _ => ?_)) | (simp; done))
      rw [if_neg c73] at H
      have c73b0 : (t157 != x11_50) = false := by simpa using c73
      (try (have c73b1 : decide (t157 = x11_50) = true := by simpa using c73))
      (try (have c73b2 : (t157 == x11_50) = true := by simpa using c73))
      clear c73
      replace H := Option.bind_eq_some_iff.mp H
      obtain ⟨⟨t158, t159⟩, A740, H⟩ := H
      replace H : ((span_Has.f t158 t159 (rdOf ByteArray.empty y145 x10_1)).bind fun t161 => ((gazetteerref5_Has.f a0_0 a0_1 (rdOf ByteArray.empty y145 x10_1)).bind fun t163 => (if (t161 != t163) = true then (some false) else (gazetteerlaw5_SpanMeets.l0 kj50 y145 (wrap64 (x10_1 + 1)) a0_0 a0_1 a1_0 a1_1 a2_0 a2_1 t137 t138 t141 t142)))) = some r := H
      have A74 := Aside0.mk A740
      clear A740
      replace H := Option.bind_eq_some_iff.mp H
      obtain ⟨t161, A750, H⟩ := H
      replace H : ((gazetteerref5_Has.f a0_0 a0_1 (rdOf ByteArray.empty y145 x10_1)).bind fun t163 => (if (t161 != t163) = true then (some false) else (gazetteerlaw5_SpanMeets.l0 kj50 y145 (wrap64 (x10_1 + 1)) a0_0 a0_1 a1_0 a1_1 a2_0 a2_1 t137 t138 t141 t142))) = some r := H
      have A75 := Aside0.mk A750
      clear A750
      replace H := Option.bind_eq_some_iff.mp H
      obtain ⟨t163, A760, H⟩ := H
      replace H : (if (t161 != t163) = true then (some false) else (gazetteerlaw5_SpanMeets.l0 kj50 y145 (wrap64 (x10_1 + 1)) a0_0 a0_1 a1_0 a1_1 a2_0 a2_1 t137 t138 t141 t142)) = some r := H
      have A76 := Aside0.mk A760
      clear A760
      by_cases c77 : (t161 != t163) = true
      · rw [if_pos c77] at H
        have c77b0 : (t161 != t163) = true := c77
        (try (have c77b1 : decide (t161 = t163) = false := by simpa using c77))
        (try (have c77b2 : (t161 == t163) = false := by simpa using c77))
        (try (have c77b3 : ¬ (t161 = t163) := by simpa using c77))
        clear c77
        exact absurd H (by rw [HLT.out]; repeat' first | (with_reducible exact dead_none) | (with_reducible exact dead_false) | (with_reducible refine dead_ite ?_ ?_) | (with_reducible refine dead_bind (fun _ => ?_)) | (refine dead_ite ?_ ?_) | (refine dead_bind (fun _ => ?_)) | (simp; done))
      rw [if_neg c77] at H
      have c77b0 : (t161 != t163) = false := by simpa using c77
      (try (have c77b1 : decide (t161 = t163) = true := by simpa using c77))
      (try (have c77b2 : (t161 == t163) = true := by simpa using c77))
      clear c77
      have H' := Aside0.mk H
      clear H
      try go_wp2
      replace HO_9 := Aside0.mk (Kd.R_drew HO_9.out)
      replace BK127 := Aside0.mk (blk_drew BK127.out)
      replace BK128 := Aside0.mk (blk_drew BK128.out)
      replace BK129 := Aside0.mk (blk_drew BK129.out)
      replace BK143 := Aside0.mk (blk_drew BK143.out)
      replace BK144 := Aside0.mk (blk_drew BK144.out)
      replace HB := Aside0.mk (below_drew1 HB.out)
      have p154 : 0 ≤ (x10_1 : Int) := of_decide_eq_true (by first | (with_reducible assumption) | assumption)
      have q154 : x10_1 < (y145.length : Int) := of_decide_eq_true (by first | (with_reducible assumption) | assumption)
      obtain ⟨ad154, e154, hx154_0⟩ := Kd.at_string (Kd.R_reads' HO_9.out).2.2 x10_1 p154 q154
      cases e154
      replace p154 := eq_true p154
      replace q154 := eq_true q154
      have p156 : 0 ≤ (x10_1 : Int) := of_decide_eq_true (by first | (with_reducible assumption) | assumption)
      have q156 : x10_1 < (y145.length : Int) := of_decide_eq_true (by first | (with_reducible assumption) | assumption)
      obtain ⟨ad156, e156, hx156_0⟩ := Kd.at_string (Kd.R_reads' HO_9.out).2.2 x10_1 p156 q156
      obtain rfl : ad154 = ad156 := (by injection e156)
      replace p156 := eq_true p156
      replace q156 := eq_true q156
      have p160 : 0 ≤ (x10_1 : Int) := of_decide_eq_true (by first | (with_reducible assumption) | assumption)
      have q160 : x10_1 < (y145.length : Int) := of_decide_eq_true (by first | (with_reducible assumption) | assumption)
      obtain ⟨ad160, e160, hx160_0⟩ := Kd.at_string (Kd.R_reads' HO_9.out).2.2 x10_1 p160 q160
      obtain rfl : ad154 = ad160 := (by injection e160)
      replace p160 := eq_true p160
      replace q160 := eq_true q160
      have p162 : 0 ≤ (x10_1 : Int) := of_decide_eq_true (by first | (with_reducible assumption) | assumption)
      have q162 : x10_1 < (y145.length : Int) := of_decide_eq_true (by first | (with_reducible assumption) | assumption)
      obtain ⟨ad162, e162, hx162_0⟩ := Kd.at_string (Kd.R_reads' HO_9.out).2.2 x10_1 p162 q162
      obtain rfl : ad154 = ad162 := (by injection e162)
      replace p162 := eq_true p162
      replace q162 := eq_true q162
      refine start_ (n := 35) (S := fun w' => w'.cell? ⟨gb143, 0, none⟩ = some (.string t137) ∧ w'.cell? ⟨gb143, 1, none⟩ = some (.string t138) ∧ w'.cell? ⟨gb144, 0, none⟩ = some (.string t141) ∧ w'.cell? ⟨gb144, 1, none⟩ = some (.string t142) ∧ w'.cell? ⟨gb127, 0, none⟩ = some (.string a0_0) ∧ w'.cell? ⟨gb127, 1, none⟩ = some (.string a0_1) ∧ w'.cell? (ad154.add (x10_1).toNat) = some (.string (rdOf ByteArray.empty y145 x10_1)) ∧ w'.cell? (ad154.add (x10_1).toNat) = some (.string (rdOf ByteArray.empty y145 x10_1)) ∧ w'.cell? (ad154.add (x10_1).toNat) = some (.string (rdOf ByteArray.empty y145 x10_1)) ∧ w'.cell? (ad154.add (x10_1).toNat) = some (.string (rdOf ByteArray.empty y145 x10_1))) (ds := []) #[false, false, false, false, false, false, false, false, false, false, false, false, false, false, false, false, false, false, false, false, false, false, false, false, false, false, false, false, false, false, false, false, false, false, false] (by kernel_rfl) rfl rfl ⟨blk_cell BK143.out 0, blk_cell BK143.out 1, blk_cell BK144.out 0, blk_cell BK144.out 1, blk_cell BK127.out 0, blk_cell BK127.out 1, hx154_0, hx156_0, hx160_0, hx162_0⟩ (fun hHeld => ?_); refine with_tabW gazetteerlaw5_SpanMeets.tab11 gazetteerlaw5_SpanMeets.bits11 (fun HT_ HW_ => ?_)
      generalize wc.drew = w78 at HO_9 BK127 BK128 BK129 BK143 BK144 HB hx154_0 hx156_0 hx160_0 hx162_0 hHeld ⊢
      refine pure_ (i := 1) (N := some 78) (v := ?_) (a' := ?_) #[false, true, false, false, false, false, false, false, false, false, false, false, false, false, false, false, false, false, false, false, false, false, false, false, false, false, false, false, false, false, false, false, false, false, false] rfl rfl (any_of HT_.out (by kernel_rfl)) (fun _ _ _ h => h) (Or.inl ⟨by rfl, ?_⟩) ?_ ?_
      rotate_left
      · intro w'
        go_simp
        with_reducible rfl
      rotate_left
      · simp only [Act.put, List.setIfInBounds_toArray, List.set_cons_zero, List.set_cons_succ, i64_w, i32_w]; rfl
      refine pure_ (i := 2) (N := some 79) (v := ?_) (a' := ?_) #[false, true, true, false, false, false, false, false, false, false, false, false, false, false, false, false, false, false, false, false, false, false, false, false, false, false, false, false, false, false, false, false, false, false, false] rfl rfl (any_of HT_.out (by kernel_rfl)) (fun _ _ _ h => h) (Or.inl ⟨by rfl, ?_⟩) ?_ ?_
      rotate_left
      · intro w'
        go_simp
        with_reducible rfl
      rotate_left
      · simp only [Act.put, List.setIfInBounds_toArray, List.set_cons_zero, List.set_cons_succ, i64_w, i32_w]; rfl
      refine pure_ (i := 3) (N := some 80) (v := ?_) (a' := ?_) #[false, true, true, true, false, false, false, false, false, false, false, false, false, false, false, false, false, false, false, false, false, false, false, false, false, false, false, false, false, false, false, false, false, false, false] rfl rfl (any_of HT_.out (by kernel_rfl)) (fun _ _ _ h => h) (Or.inl ⟨by rfl, ?_⟩) ?_ ?_
      rotate_left
      · intro w'
        go_simp
        with_reducible rfl
      rotate_left
      · simp only [Act.put, List.setIfInBounds_toArray, List.set_cons_zero, List.set_cons_succ, i64_w, i32_w]; rfl
      refine pure_ (i := 6) (N := some 83) (v := ?_) (a' := ?_) #[false, true, true, true, false, false, true, false, false, false, false, false, false, false, false, false, false, false, false, false, false, false, false, false, false, false, false, false, false, false, false, false, false, false, false] rfl rfl (any_of HT_.out (by kernel_rfl)) (fun _ _ _ h => h) (Or.inl ⟨by rfl, ?_⟩) ?_ ?_
      rotate_left
      · intro w'
        go_simp
        with_reducible rfl
      rotate_left
      · simp only [Act.put, List.setIfInBounds_toArray, List.set_cons_zero, List.set_cons_succ, i64_w, i32_w]; rfl
      refine take_ (i := 0) (N := some 77) (v := ?_) (a' := ?_) #[true, true, true, true, false, false, true, false, false, false, false, false, false, false, false, false, false, false, false, false, false, false, false, false, false, false, false, false, false, false, false, false, false, false, false] rfl rfl (take_ofW HT_.out HW_.out (by kernel_rfl)) (fun _ _ _ h => h) (Or.inl ⟨by rfl, ?_⟩) hHeld ?_ ?_
      rotate_left
      · rintro w' ⟨s0, s1, s2, s3, s4, s5, s6, s7, s8, s9⟩; go_simp; with_reducible rfl
      rotate_left
      · simp only [Act.put, List.setIfInBounds_toArray, List.set_cons_zero, List.set_cons_succ, i64_w, i32_w]; rfl
      refine take_ (i := 4) (N := some 81) (v := ?_) (a' := ?_) #[true, true, true, true, true, false, true, false, false, false, false, false, false, false, false, false, false, false, false, false, false, false, false, false, false, false, false, false, false, false, false, false, false, false, false] rfl rfl (take_ofW HT_.out HW_.out (by kernel_rfl)) (fun _ _ _ h => h) (Or.inl ⟨by rfl, ?_⟩) hHeld ?_ ?_
      rotate_left
      · rintro w' ⟨s0, s1, s2, s3, s4, s5, s6, s7, s8, s9⟩; go_simp; with_reducible rfl
      rotate_left
      · simp only [Act.put, List.setIfInBounds_toArray, List.set_cons_zero, List.set_cons_succ, i64_w, i32_w]; rfl
      refine one_ (i := 5) (N := some 82) #[true, true, true, true, true, true, true, false, false, false, false, false, false, false, false, false, false, false, false, false, false, false, false, false, false, false, false, false, false, false, false, false, false, false, false] rfl rfl (one_of HT_.out (by kernel_rfl)) (by decide) (fun K hK => ?_)
      refine goes_ Try.func17 (by kernel_rfl) rfl #[.agg #[.string t137, .string t138], .string (rdOf ByteArray.empty y145 x10_1)] (by rfl) rfl rfl (by (try simp only [List.map_toArray, List.map_cons, List.map_nil]); first | done | rfl | (simp only [List.length_drop, List.length_take]; done) | (simp only [List.length_drop, List.length_take]; rfl)) ?_
      with_reducible refine (span_Has.calls t137 t138 (rdOf ByteArray.empty y145 x10_1) t155 _ A70.out).mono ?_
      rintro e w79 ⟨rfl, hb⟩
      have HS6_ := (hb.cell (World.block_lt_of_cell? _ _ (hHeld.2.2.2.2.2.2.1))).trans (hHeld.2.2.2.2.2.2.1)
      have HS7_ := (hb.cell (World.block_lt_of_cell? _ _ (hHeld.2.2.2.2.2.2.2.1))).trans (hHeld.2.2.2.2.2.2.2.1)
      have HS8_ := (hb.cell (World.block_lt_of_cell? _ _ (hHeld.2.2.2.2.2.2.2.2.1))).trans (hHeld.2.2.2.2.2.2.2.2.1)
      have HS9_ := (hb.cell (World.block_lt_of_cell? _ _ (hHeld.2.2.2.2.2.2.2.2.2))).trans (hHeld.2.2.2.2.2.2.2.2.2)
      refine ⟨_, rfl, ?_⟩
      replace HO_9 := Aside0.mk (Kd.R_below (pR HO_9.out) hb)
      replace BK127 := Aside0.mk (blk_below BK127.out hb)
      replace BK128 := Aside0.mk (blk_below BK128.out hb)
      replace BK129 := Aside0.mk (blk_below BK129.out hb)
      replace BK143 := Aside0.mk (blk_below BK143.out hb)
      replace BK144 := Aside0.mk (blk_below BK144.out hb)
      replace HB := Aside0.mk (below_step (pB HB.out) hb)
      (try clear hb)
      (try clear hb2)
      (try clear hk)
      (try clear hi)
      refine hK.out _ _ ⟨blk_cell BK143.out 0, blk_cell BK143.out 1, blk_cell BK144.out 0, blk_cell BK144.out 1, blk_cell BK127.out 0, blk_cell BK127.out 1, HS6_, HS7_, HS8_, HS9_⟩ (fun hHeld => ?_)
      clear hK K
      refine norm_ (a' := ?_) ?_ ?_
      rotate_left
      · show Act.put _ (some 82) _ = _; simp only [Act.put, List.setIfInBounds_toArray, List.set_cons_zero, List.set_cons_succ, i64_w, i32_w]; rfl
      refine pure_ (i := 7) (N := some 84) (v := ?_) (a' := ?_) #[true, true, true, true, true, true, true, true, false, false, false, false, false, false, false, false, false, false, false, false, false, false, false, false, false, false, false, false, false, false, false, false, false, false, false] rfl rfl (any_of HT_.out (by kernel_rfl)) (fun _ _ _ h => h) (Or.inl ⟨by rfl, ?_⟩) ?_ ?_
      rotate_left
      · intro w'
        go_simp
        with_reducible rfl
      rotate_left
      · simp only [Act.put, List.setIfInBounds_toArray, List.set_cons_zero, List.set_cons_succ, i64_w, i32_w]; rfl
      refine pure_ (i := 8) (N := some 85) (v := ?_) (a' := ?_) #[true, true, true, true, true, true, true, true, true, false, false, false, false, false, false, false, false, false, false, false, false, false, false, false, false, false, false, false, false, false, false, false, false, false, false] rfl rfl (any_of HT_.out (by kernel_rfl)) (fun _ _ _ h => h) (Or.inl ⟨by rfl, ?_⟩) ?_ ?_
      rotate_left
      · intro w'
        go_simp
        with_reducible rfl
      rotate_left
      · simp only [Act.put, List.setIfInBounds_toArray, List.set_cons_zero, List.set_cons_succ, i64_w, i32_w]; rfl
      refine pure_ (i := 10) (N := some 87) (v := ?_) (a' := ?_) #[true, true, true, true, true, true, true, true, true, false, true, false, false, false, false, false, false, false, false, false, false, false, false, false, false, false, false, false, false, false, false, false, false, false, false] rfl rfl (any_of HT_.out (by kernel_rfl)) (fun _ _ _ h => h) (Or.inl ⟨by rfl, ?_⟩) ?_ ?_
      rotate_left
      · intro w'
        go_simp
        with_reducible rfl
      rotate_left
      · simp only [Act.put, List.setIfInBounds_toArray, List.set_cons_zero, List.set_cons_succ, i64_w, i32_w]; rfl
      refine pure_ (i := 11) (N := some 88) (v := ?_) (a' := ?_) #[true, true, true, true, true, true, true, true, true, false, true, true, false, false, false, false, false, false, false, false, false, false, false, false, false, false, false, false, false, false, false, false, false, false, false] rfl rfl (any_of HT_.out (by kernel_rfl)) (fun _ _ _ h => h) (Or.inl ⟨by rfl, ?_⟩) ?_ ?_
      rotate_left
      · intro w'
        go_simp
        with_reducible rfl
      rotate_left
      · simp only [Act.put, List.setIfInBounds_toArray, List.set_cons_zero, List.set_cons_succ, i64_w, i32_w]; rfl
      refine pure_ (i := 12) (N := some 89) (v := ?_) (a' := ?_) #[true, true, true, true, true, true, true, true, true, false, true, true, true, false, false, false, false, false, false, false, false, false, false, false, false, false, false, false, false, false, false, false, false, false, false] rfl rfl (any_of HT_.out (by kernel_rfl)) (fun _ _ _ h => h) (Or.inl ⟨by rfl, ?_⟩) ?_ ?_
      rotate_left
      · intro w'
        go_simp
        with_reducible rfl
      rotate_left
      · simp only [Act.put, List.setIfInBounds_toArray, List.set_cons_zero, List.set_cons_succ, i64_w, i32_w]; rfl
      refine pure_ (i := 15) (N := some 92) (v := ?_) (a' := ?_) #[true, true, true, true, true, true, true, true, true, false, true, true, true, false, false, true, false, false, false, false, false, false, false, false, false, false, false, false, false, false, false, false, false, false, false] rfl rfl (any_of HT_.out (by kernel_rfl)) (fun _ _ _ h => h) (Or.inl ⟨by rfl, ?_⟩) ?_ ?_
      rotate_left
      · intro w'
        go_simp
        with_reducible rfl
      rotate_left
      · simp only [Act.put, List.setIfInBounds_toArray, List.set_cons_zero, List.set_cons_succ, i64_w, i32_w]; rfl
      refine take_ (i := 9) (N := some 86) (v := ?_) (a' := ?_) #[true, true, true, true, true, true, true, true, true, true, true, true, true, false, false, true, false, false, false, false, false, false, false, false, false, false, false, false, false, false, false, false, false, false, false] rfl rfl (take_ofW HT_.out HW_.out (by kernel_rfl)) (fun _ _ _ h => h) (Or.inl ⟨by rfl, ?_⟩) hHeld ?_ ?_
      rotate_left
      · rintro w' ⟨s0, s1, s2, s3, s4, s5, s6, s7, s8, s9⟩; go_simp; with_reducible rfl
      rotate_left
      · simp only [Act.put, List.setIfInBounds_toArray, List.set_cons_zero, List.set_cons_succ, i64_w, i32_w]; rfl
      refine take_ (i := 13) (N := some 90) (v := ?_) (a' := ?_) #[true, true, true, true, true, true, true, true, true, true, true, true, true, true, false, true, false, false, false, false, false, false, false, false, false, false, false, false, false, false, false, false, false, false, false] rfl rfl (take_ofW HT_.out HW_.out (by kernel_rfl)) (fun _ _ _ h => h) (Or.inl ⟨by rfl, ?_⟩) hHeld ?_ ?_
      rotate_left
      · rintro w' ⟨s0, s1, s2, s3, s4, s5, s6, s7, s8, s9⟩; go_simp; with_reducible rfl
      rotate_left
      · simp only [Act.put, List.setIfInBounds_toArray, List.set_cons_zero, List.set_cons_succ, i64_w, i32_w]; rfl
      refine one_ (i := 14) (N := some 91) #[true, true, true, true, true, true, true, true, true, true, true, true, true, true, true, true, false, false, false, false, false, false, false, false, false, false, false, false, false, false, false, false, false, false, false] rfl rfl (one_of HT_.out (by kernel_rfl)) (by decide) (fun K hK => ?_)
      refine goes_ Try.func17 (by kernel_rfl) rfl #[.agg #[.string t141, .string t142], .string (rdOf ByteArray.empty y145 x10_1)] (by rfl) rfl rfl (by (try simp only [List.map_toArray, List.map_cons, List.map_nil]); first | done | rfl | (simp only [List.length_drop, List.length_take]; done) | (simp only [List.length_drop, List.length_take]; rfl)) ?_
      with_reducible refine (span_Has.calls t141 t142 (rdOf ByteArray.empty y145 x10_1) t157 _ A72.out).mono ?_
      rintro e w80 ⟨rfl, hb⟩
      have HS6_ := (hb.cell (World.block_lt_of_cell? _ _ (hHeld.2.2.2.2.2.2.1))).trans (hHeld.2.2.2.2.2.2.1)
      have HS7_ := (hb.cell (World.block_lt_of_cell? _ _ (hHeld.2.2.2.2.2.2.2.1))).trans (hHeld.2.2.2.2.2.2.2.1)
      have HS8_ := (hb.cell (World.block_lt_of_cell? _ _ (hHeld.2.2.2.2.2.2.2.2.1))).trans (hHeld.2.2.2.2.2.2.2.2.1)
      have HS9_ := (hb.cell (World.block_lt_of_cell? _ _ (hHeld.2.2.2.2.2.2.2.2.2))).trans (hHeld.2.2.2.2.2.2.2.2.2)
      refine ⟨_, rfl, ?_⟩
      replace HO_9 := Aside0.mk (Kd.R_below (pR HO_9.out) hb)
      replace BK127 := Aside0.mk (blk_below BK127.out hb)
      replace BK128 := Aside0.mk (blk_below BK128.out hb)
      replace BK129 := Aside0.mk (blk_below BK129.out hb)
      replace BK143 := Aside0.mk (blk_below BK143.out hb)
      replace BK144 := Aside0.mk (blk_below BK144.out hb)
      replace HB := Aside0.mk (below_step (pB HB.out) hb)
      (try clear hb)
      (try clear hb2)
      (try clear hk)
      (try clear hi)
      refine hK.out _ _ ⟨blk_cell BK143.out 0, blk_cell BK143.out 1, blk_cell BK144.out 0, blk_cell BK144.out 1, blk_cell BK127.out 0, blk_cell BK127.out 1, HS6_, HS7_, HS8_, HS9_⟩ (fun hHeld => ?_)
      clear hK K
      refine norm_ (a' := ?_) ?_ ?_
      rotate_left
      · show Act.put _ (some 91) _ = _; simp only [Act.put, List.setIfInBounds_toArray, List.set_cons_zero, List.set_cons_succ, i64_w, i32_w]; rfl
      refine pure_ (i := 16) (N := some 93) (v := ?_) (a' := ?_) #[true, true, true, true, true, true, true, true, true, true, true, true, true, true, true, true, true, false, false, false, false, false, false, false, false, false, false, false, false, false, false, false, false, false, false] rfl rfl (any_of HT_.out (by kernel_rfl)) (fun _ _ _ h => h) (Or.inl ⟨by rfl, ?_⟩) ?_ ?_
      rotate_left
      · intro w'
        go_simp
        with_reducible rfl
      rotate_left
      · simp only [Act.put, List.setIfInBounds_toArray, List.set_cons_zero, List.set_cons_succ, i64_w, i32_w]; rfl
      refine pure_ (i := 17) (N := some 94) (v := ?_) (a' := ?_) #[true, true, true, true, true, true, true, true, true, true, true, true, true, true, true, true, true, true, false, false, false, false, false, false, false, false, false, false, false, false, false, false, false, false, false] rfl rfl (any_of HT_.out (by kernel_rfl)) (fun _ _ _ h => h) (Or.inl ⟨by rfl, ?_⟩) ?_ ?_
      rotate_left
      · intro w'
        go_simp
        with_reducible rfl
      rotate_left
      · simp only [Act.put, List.setIfInBounds_toArray, List.set_cons_zero, List.set_cons_succ, i64_w, i32_w]; rfl
      refine pure_ (i := 18) (N := some 95) (v := ?_) (a' := ?_) #[true, true, true, true, true, true, true, true, true, true, true, true, true, true, true, true, true, true, true, false, false, false, false, false, false, false, false, false, false, false, false, false, false, false, false] rfl rfl (any_of HT_.out (by kernel_rfl)) (fun _ _ _ h => h) (Or.inl ⟨by rfl, ?_⟩) ?_ ?_
      rotate_left
      · intro w'
        go_simp
        with_reducible rfl
      rotate_left
      · simp only [Act.put, List.setIfInBounds_toArray, List.set_cons_zero, List.set_cons_succ, i64_w, i32_w]; rfl
      refine pure_ (i := 20) (N := some 97) (v := ?_) (a' := ?_) #[true, true, true, true, true, true, true, true, true, true, true, true, true, true, true, true, true, true, true, false, true, false, false, false, false, false, false, false, false, false, false, false, false, false, false] rfl rfl (any_of HT_.out (by kernel_rfl)) (fun _ _ _ h => h) (Or.inl ⟨by rfl, ?_⟩) ?_ ?_
      rotate_left
      · intro w'
        go_simp
        with_reducible rfl
      rotate_left
      · simp only [Act.put, List.setIfInBounds_toArray, List.set_cons_zero, List.set_cons_succ, i64_w, i32_w]; rfl
      refine pure_ (i := 22) (N := some 99) (v := ?_) (a' := ?_) #[true, true, true, true, true, true, true, true, true, true, true, true, true, true, true, true, true, true, true, false, true, false, true, false, false, false, false, false, false, false, false, false, false, false, false] rfl rfl (any_of HT_.out (by kernel_rfl)) (fun _ _ _ h => h) (Or.inl ⟨by rfl, ?_⟩) ?_ ?_
      rotate_left
      · intro w'
        go_simp
        with_reducible rfl
      rotate_left
      · simp only [Act.put, List.setIfInBounds_toArray, List.set_cons_zero, List.set_cons_succ, i64_w, i32_w]; rfl
      refine pure_ (i := 23) (N := some 100) (v := ?_) (a' := ?_) #[true, true, true, true, true, true, true, true, true, true, true, true, true, true, true, true, true, true, true, false, true, false, true, true, false, false, false, false, false, false, false, false, false, false, false] rfl rfl (any_of HT_.out (by kernel_rfl)) (fun _ _ _ h => h) (Or.inl ⟨by rfl, ?_⟩) ?_ ?_
      rotate_left
      · intro w'
        go_simp
        with_reducible rfl
      rotate_left
      · simp only [Act.put, List.setIfInBounds_toArray, List.set_cons_zero, List.set_cons_succ, i64_w, i32_w]; rfl
      refine pure_ (i := 24) (N := some 101) (v := ?_) (a' := ?_) #[true, true, true, true, true, true, true, true, true, true, true, true, true, true, true, true, true, true, true, false, true, false, true, true, true, false, false, false, false, false, false, false, false, false, false] rfl rfl (any_of HT_.out (by kernel_rfl)) (fun _ _ _ h => h) (Or.inl ⟨by rfl, ?_⟩) ?_ ?_
      rotate_left
      · intro w'
        go_simp
        with_reducible rfl
      rotate_left
      · simp only [Act.put, List.setIfInBounds_toArray, List.set_cons_zero, List.set_cons_succ, i64_w, i32_w]; rfl
      refine pure_ (i := 28) (N := some 105) (v := ?_) (a' := ?_) #[true, true, true, true, true, true, true, true, true, true, true, true, true, true, true, true, true, true, true, false, true, false, true, true, true, false, false, false, true, false, false, false, false, false, false] rfl rfl (any_of HT_.out (by kernel_rfl)) (fun _ _ _ h => h) (Or.inl ⟨by rfl, ?_⟩) ?_ ?_
      rotate_left
      · intro w'
        go_simp
        with_reducible rfl
      rotate_left
      · simp only [Act.put, List.setIfInBounds_toArray, List.set_cons_zero, List.set_cons_succ, i64_w, i32_w]; rfl
      refine pure_ (i := 29) (N := some 106) (v := ?_) (a' := ?_) #[true, true, true, true, true, true, true, true, true, true, true, true, true, true, true, true, true, true, true, false, true, false, true, true, true, false, false, false, true, true, false, false, false, false, false] rfl rfl (any_of HT_.out (by kernel_rfl)) (fun _ _ _ h => h) (Or.inl ⟨by rfl, ?_⟩) ?_ ?_
      rotate_left
      · intro w'
        go_simp
        with_reducible rfl
      rotate_left
      · simp only [Act.put, List.setIfInBounds_toArray, List.set_cons_zero, List.set_cons_succ, i64_w, i32_w]; rfl
      refine pure_ (i := 30) (N := some 107) (v := ?_) (a' := ?_) #[true, true, true, true, true, true, true, true, true, true, true, true, true, true, true, true, true, true, true, false, true, false, true, true, true, false, false, false, true, true, true, false, false, false, false] rfl rfl (any_of HT_.out (by kernel_rfl)) (fun _ _ _ h => h) (Or.inl ⟨by rfl, ?_⟩) ?_ ?_
      rotate_left
      · intro w'
        go_simp
        with_reducible rfl
      rotate_left
      · simp only [Act.put, List.setIfInBounds_toArray, List.set_cons_zero, List.set_cons_succ, i64_w, i32_w]; rfl
      refine take_ (i := 19) (N := some 96) (v := ?_) (a' := ?_) #[true, true, true, true, true, true, true, true, true, true, true, true, true, true, true, true, true, true, true, true, true, false, true, true, true, false, false, false, true, true, true, false, false, false, false] rfl rfl (take_ofW HT_.out HW_.out (by kernel_rfl)) (fun _ _ _ h => h) (Or.inl ⟨by rfl, ?_⟩) hHeld ?_ ?_
      rotate_left
      · rintro w' ⟨s0, s1, s2, s3, s4, s5, s6, s7, s8, s9⟩; go_simp; with_reducible rfl
      rotate_left
      · simp only [Act.put, List.setIfInBounds_toArray, List.set_cons_zero, List.set_cons_succ, i64_w, i32_w]; rfl
      refine take_ (i := 25) (N := some 102) (v := ?_) (a' := ?_) #[true, true, true, true, true, true, true, true, true, true, true, true, true, true, true, true, true, true, true, true, true, false, true, true, true, true, false, false, true, true, true, false, false, false, false] rfl rfl (take_ofW HT_.out HW_.out (by kernel_rfl)) (fun _ _ _ h => h) (Or.inl ⟨by rfl, ?_⟩) hHeld ?_ ?_
      rotate_left
      · rintro w' ⟨s0, s1, s2, s3, s4, s5, s6, s7, s8, s9⟩; go_simp; with_reducible rfl
      rotate_left
      · simp only [Act.put, List.setIfInBounds_toArray, List.set_cons_zero, List.set_cons_succ, i64_w, i32_w]; rfl
      refine take_ (i := 27) (N := some 104) (v := ?_) (a' := ?_) #[true, true, true, true, true, true, true, true, true, true, true, true, true, true, true, true, true, true, true, true, true, false, true, true, true, true, false, true, true, true, true, false, false, false, false] rfl rfl (take_ofW HT_.out HW_.out (by kernel_rfl)) (fun _ _ _ h => h) (Or.inl ⟨by rfl, ?_⟩) hHeld ?_ ?_
      rotate_left
      · rintro w' ⟨s0, s1, s2, s3, s4, s5, s6, s7, s8, s9⟩; go_simp; with_reducible rfl
      rotate_left
      · simp only [Act.put, List.setIfInBounds_toArray, List.set_cons_zero, List.set_cons_succ, i64_w, i32_w]; rfl
      refine take_ (i := 31) (N := some 108) (v := ?_) (a' := ?_) #[true, true, true, true, true, true, true, true, true, true, true, true, true, true, true, true, true, true, true, true, true, false, true, true, true, true, false, true, true, true, true, true, false, false, false] rfl rfl (take_ofW HT_.out HW_.out (by kernel_rfl)) (fun _ _ _ h => h) (Or.inl ⟨by rfl, ?_⟩) hHeld ?_ ?_
      rotate_left
      · rintro w' ⟨s0, s1, s2, s3, s4, s5, s6, s7, s8, s9⟩; go_simp; with_reducible rfl
      rotate_left
      · simp only [Act.put, List.setIfInBounds_toArray, List.set_cons_zero, List.set_cons_succ, i64_w, i32_w]; rfl
      refine one_ (i := 21) (N := some 98) #[true, true, true, true, true, true, true, true, true, true, true, true, true, true, true, true, true, true, true, true, true, true, true, true, true, true, false, true, true, true, true, true, false, false, false] rfl rfl (one_of HT_.out (by kernel_rfl)) (by decide) (fun K hK => ?_)
      refine goes_ Try.func20 (by kernel_rfl) rfl #[.agg #[.string a0_0, .string a0_1], .agg #[.string (⟨#[]⟩ : ByteArray), .string (⟨#[]⟩ : ByteArray)]] (by rfl) rfl rfl (by (try simp only [List.map_toArray, List.map_cons, List.map_nil]); first | done | rfl | (simp only [List.length_drop, List.length_take]; done) | (simp only [List.length_drop, List.length_take]; rfl)) ?_
      with_reducible refine (span_Meet.calls a0_0 a0_1 (⟨#[]⟩ : ByteArray) (⟨#[]⟩ : ByteArray) t158 t159 _ A74.out).mono ?_
      rintro e w81 ⟨rfl, hb⟩
      have HS6_ := (hb.cell (World.block_lt_of_cell? _ _ (hHeld.2.2.2.2.2.2.1))).trans (hHeld.2.2.2.2.2.2.1)
      have HS7_ := (hb.cell (World.block_lt_of_cell? _ _ (hHeld.2.2.2.2.2.2.2.1))).trans (hHeld.2.2.2.2.2.2.2.1)
      have HS8_ := (hb.cell (World.block_lt_of_cell? _ _ (hHeld.2.2.2.2.2.2.2.2.1))).trans (hHeld.2.2.2.2.2.2.2.2.1)
      have HS9_ := (hb.cell (World.block_lt_of_cell? _ _ (hHeld.2.2.2.2.2.2.2.2.2))).trans (hHeld.2.2.2.2.2.2.2.2.2)
      refine ⟨_, rfl, ?_⟩
      replace HO_9 := Aside0.mk (Kd.R_below (pR HO_9.out) hb)
      replace BK127 := Aside0.mk (blk_below BK127.out hb)
      replace BK128 := Aside0.mk (blk_below BK128.out hb)
      replace BK129 := Aside0.mk (blk_below BK129.out hb)
      replace BK143 := Aside0.mk (blk_below BK143.out hb)
      replace BK144 := Aside0.mk (blk_below BK144.out hb)
      replace HB := Aside0.mk (below_step (pB HB.out) hb)
      (try clear hb)
      (try clear hb2)
      (try clear hk)
      (try clear hi)
      refine hK.out _ _ ⟨blk_cell BK143.out 0, blk_cell BK143.out 1, blk_cell BK144.out 0, blk_cell BK144.out 1, blk_cell BK127.out 0, blk_cell BK127.out 1, HS6_, HS7_, HS8_, HS9_⟩ (fun hHeld => ?_)
      clear hK K
      refine norm_ (a' := ?_) ?_ ?_
      rotate_left
      · show Act.put _ (some 98) _ = _; simp only [Act.put, List.setIfInBounds_toArray, List.set_cons_zero, List.set_cons_succ, i64_w, i32_w]; rfl
      refine one_ (i := 26) (N := some 103) #[true, true, true, true, true, true, true, true, true, true, true, true, true, true, true, true, true, true, true, true, true, true, true, true, true, true, true, true, true, true, true, true, false, false, false] rfl rfl (one_of HT_.out (by kernel_rfl)) (by decide) (fun K hK => ?_)
      refine goes_ Try.func17 (by kernel_rfl) rfl #[.agg #[.string t158, .string t159], .string (rdOf ByteArray.empty y145 x10_1)] (by rfl) rfl rfl (by (try simp only [List.map_toArray, List.map_cons, List.map_nil]); first | done | rfl | (simp only [List.length_drop, List.length_take]; done) | (simp only [List.length_drop, List.length_take]; rfl)) ?_
      with_reducible refine (span_Has.calls t158 t159 (rdOf ByteArray.empty y145 x10_1) t161 _ A75.out).mono ?_
      rintro e w82 ⟨rfl, hb⟩
      have HS6_ := (hb.cell (World.block_lt_of_cell? _ _ (hHeld.2.2.2.2.2.2.1))).trans (hHeld.2.2.2.2.2.2.1)
      have HS7_ := (hb.cell (World.block_lt_of_cell? _ _ (hHeld.2.2.2.2.2.2.2.1))).trans (hHeld.2.2.2.2.2.2.2.1)
      have HS8_ := (hb.cell (World.block_lt_of_cell? _ _ (hHeld.2.2.2.2.2.2.2.2.1))).trans (hHeld.2.2.2.2.2.2.2.2.1)
      have HS9_ := (hb.cell (World.block_lt_of_cell? _ _ (hHeld.2.2.2.2.2.2.2.2.2))).trans (hHeld.2.2.2.2.2.2.2.2.2)
      refine ⟨_, rfl, ?_⟩
      replace HO_9 := Aside0.mk (Kd.R_below (pR HO_9.out) hb)
      replace BK127 := Aside0.mk (blk_below BK127.out hb)
      replace BK128 := Aside0.mk (blk_below BK128.out hb)
      replace BK129 := Aside0.mk (blk_below BK129.out hb)
      replace BK143 := Aside0.mk (blk_below BK143.out hb)
      replace BK144 := Aside0.mk (blk_below BK144.out hb)
      replace HB := Aside0.mk (below_step (pB HB.out) hb)
      (try clear hb)
      (try clear hb2)
      (try clear hk)
      (try clear hi)
      refine hK.out _ _ ⟨blk_cell BK143.out 0, blk_cell BK143.out 1, blk_cell BK144.out 0, blk_cell BK144.out 1, blk_cell BK127.out 0, blk_cell BK127.out 1, HS6_, HS7_, HS8_, HS9_⟩ (fun hHeld => ?_)
      clear hK K
      refine norm_ (a' := ?_) ?_ ?_
      rotate_left
      · show Act.put _ (some 103) _ = _; simp only [Act.put, List.setIfInBounds_toArray, List.set_cons_zero, List.set_cons_succ, i64_w, i32_w]; rfl
      refine one_ (i := 32) (N := some 109) #[true, true, true, true, true, true, true, true, true, true, true, true, true, true, true, true, true, true, true, true, true, true, true, true, true, true, true, true, true, true, true, true, true, false, false] rfl rfl (one_of HT_.out (by kernel_rfl)) (by decide) (fun K hK => ?_)
      refine goes_ Try.func21 (by kernel_rfl) rfl #[.agg #[.string a0_0, .string a0_1], .string (rdOf ByteArray.empty y145 x10_1)] (by rfl) rfl rfl (by (try simp only [List.map_toArray, List.map_cons, List.map_nil]); first | done | rfl | (simp only [List.length_drop, List.length_take]; done) | (simp only [List.length_drop, List.length_take]; rfl)) ?_
      with_reducible refine (gazetteerref5_Has.calls a0_0 a0_1 (rdOf ByteArray.empty y145 x10_1) t163 _ A76.out).mono ?_
      rintro e w83 ⟨rfl, hb⟩
      have HS6_ := (hb.cell (World.block_lt_of_cell? _ _ (hHeld.2.2.2.2.2.2.1))).trans (hHeld.2.2.2.2.2.2.1)
      have HS7_ := (hb.cell (World.block_lt_of_cell? _ _ (hHeld.2.2.2.2.2.2.2.1))).trans (hHeld.2.2.2.2.2.2.2.1)
      have HS8_ := (hb.cell (World.block_lt_of_cell? _ _ (hHeld.2.2.2.2.2.2.2.2.1))).trans (hHeld.2.2.2.2.2.2.2.2.1)
      have HS9_ := (hb.cell (World.block_lt_of_cell? _ _ (hHeld.2.2.2.2.2.2.2.2.2))).trans (hHeld.2.2.2.2.2.2.2.2.2)
      refine ⟨_, rfl, ?_⟩
      replace HO_9 := Aside0.mk (Kd.R_below (pR HO_9.out) hb)
      replace BK127 := Aside0.mk (blk_below BK127.out hb)
      replace BK128 := Aside0.mk (blk_below BK128.out hb)
      replace BK129 := Aside0.mk (blk_below BK129.out hb)
      replace BK143 := Aside0.mk (blk_below BK143.out hb)
      replace BK144 := Aside0.mk (blk_below BK144.out hb)
      replace HB := Aside0.mk (below_step (pB HB.out) hb)
      (try clear hb)
      (try clear hb2)
      (try clear hk)
      (try clear hi)
      refine hK.out _ _ ⟨blk_cell BK143.out 0, blk_cell BK143.out 1, blk_cell BK144.out 0, blk_cell BK144.out 1, blk_cell BK127.out 0, blk_cell BK127.out 1, HS6_, HS7_, HS8_, HS9_⟩ (fun hHeld => ?_)
      clear hK K
      refine norm_ (a' := ?_) ?_ ?_
      rotate_left
      · show Act.put _ (some 109) _ = _; simp only [Act.put, List.setIfInBounds_toArray, List.set_cons_zero, List.set_cons_succ, i64_w, i32_w]; rfl
      refine pure_ (i := 33) (N := some 110) (v := ?_) (a' := ?_) #[true, true, true, true, true, true, true, true, true, true, true, true, true, true, true, true, true, true, true, true, true, true, true, true, true, true, true, true, true, true, true, true, true, true, false] rfl rfl (any_of HT_.out (by kernel_rfl)) (fun _ _ _ h => h) (Or.inl ⟨by rfl, ?_⟩) ?_ ?_
      rotate_left
      · intro w'
        go_simp
        with_reducible rfl
      rotate_left
      · simp only [Act.put, List.setIfInBounds_toArray, List.set_cons_zero, List.set_cons_succ, i64_w, i32_w]; rfl
      refine pure_ (i := 34) (N := some 111) (v := ?_) (a' := ?_) #[true, true, true, true, true, true, true, true, true, true, true, true, true, true, true, true, true, true, true, true, true, true, true, true, true, true, true, true, true, true, true, true, true, true, true] rfl rfl (any_of HT_.out (by kernel_rfl)) (fun _ _ _ h => h) (Or.inl ⟨by rfl, ?_⟩) ?_ ?_
      rotate_left
      · intro w'
        go_simp
        with_reducible rfl
      rotate_left
      · simp only [Act.put, List.setIfInBounds_toArray, List.set_cons_zero, List.set_cons_succ, i64_w, i32_w]; rfl
      refine done_ (done_of HT_.out (by kernel_rfl)) ?_
      try go_wp2
      go_roundg kj50
      case measure => have := HK1.out; have := HJ50.out; omega
      case rel => exact ⟨(wrap64 (x10_1 + 1)), (by first | rfl | (simp; done) | (simp [*]; done)), H', ⟨by have := HK1.out; have := HJ50.out; omega⟩, ⟨by (with_reducible repeat (first | apply Kd.R_alloc | apply Kd.R_drewN | apply Kd.R_drew)); exact HO_9.out⟩, ⟨by (with_reducible repeat (first | refine blk_drewN ?_ _ | refine blk_drew ?_ | refine blk_alloc ?_ _)); exact BK127.out⟩, ⟨by (with_reducible repeat (first | refine blk_drewN ?_ _ | refine blk_drew ?_ | refine blk_alloc ?_ _)); exact BK128.out⟩, ⟨by (with_reducible repeat (first | refine blk_drewN ?_ _ | refine blk_drew ?_ | refine blk_alloc ?_ _)); exact BK129.out⟩, ⟨by (with_reducible repeat (first | refine blk_drewN ?_ _ | refine blk_drew ?_ | refine blk_alloc ?_ _)); exact BK143.out⟩, ⟨by (with_reducible repeat (first | refine blk_drewN ?_ _ | refine blk_drew ?_ | refine blk_alloc ?_ _)); exact BK144.out⟩, ⟨by repeat (first | (with_reducible first | exact HB.out | apply below_alloc | apply pw_below_drewN | apply below_drew1 | refine below_set ?_ GE127.out | refine below_set ?_ GE128.out | refine below_set ?_ GE129.out | refine below_set ?_ GE143.out | refine below_set ?_ GE144.out) | exact HB.out)⟩⟩
end Go.Proofs.Ytbfllekkbmeibaa.PSpanMeets
