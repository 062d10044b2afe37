-- printed by a program of this session (wip/tools), a turned form of the kit's print
import Derived.Test.YtkolcgofhjbebaaPSealKnownx0
import Derived.Test.YtkolcgofhjbebaaPSealKnownx1
namespace Go.Proofs.Ytkolcgofhjbebaa.PSealKnown
open Go.RowKit Go.Proofs.YtkolcgofhjbebaaW.PrintWords Go.Proofs.YtkolcgofhjbebaaW.PrintLast Go.Proofs.YtkolcgofhjbebaaW.PrintMore
attribute [local go_sem] max2_int min2_int max_two min_two max_three min_three max_four min_four max2_str min2_str str_geq str_leq str_gtr   -- for this text's walks alone
set_option linter.unusedVariables false
set_option linter.unusedSimpArgs false

/-! ### gazetteerlaw8_SealKnown: function 10 -/
def gazetteerlaw8_SealKnown.j0 : Nat → List Int → List Int → Int → Int → Int → List Int → Int → Int → Int → Bool → Option (Bool)
  | 0, _, _, _, _, _, _, _, _, _, _ => none
  | k + 1, x1, x3, x4, x6, x7, x8, x9, x10, x14, x59 => if x59 = true then (some false) else (if 6 ≤ (x1.length : Int) then ((seal_Open.f k (x1.take 6)).bind fun bt202 => ((some (([] : List Int) : List Int)).bind fun y208 => (if y208.length + x1.length < 140737488355328 then ((some (y208 ++ x1 : List Int)).bind fun y211 => (if 9 ≤ (x1.length : Int) then ((some (x1.take 9 : List Int)).bind fun y214 => (if y211.length + y214.length < 140737488355328 then ((seal_All.f k (y211 ++ y214)).bind fun bt221 => ((seal_Sum.f k (([87, 105, 107, 105, 112, 101, 100, 105, 97] : List Int))).bind fun t228 => (if t228 = 300286872 then ((seal_Sum.f k ([] : List Int)).bind fun t229 => (if t229 = 1 then (if 0 < (x1.length : Int) then (if (rd x1 0) = 0 then (if 1 < (x1.length : Int) then (if (rd x1 1) = 9 then (if 2 < (x1.length : Int) then (if (rd x1 2) = 9 then (if x4 = 0 then (if x6 = 3 then (if x10 = 0 then (if x7 = 1 then (if (x8.length : Int) = 32768 then (if x9 = (x3.length : Int) then (if x14 = 3 then (if bt202.2.2.2 = 7 then (if (bt221.1.length : Int) = 1 then (if bt221.2 = 16 then (if 0 < (bt221.1.length : Int) then (some ((strOfNums (rd_L1 bt221.1 0)).toList == ([9, 87, 105, 107, 105, 112, 101, 100, 105, 97] : List UInt8))) else (none)) else (some false)) else (some false)) else (some false)) else (some false)) else (some false)) else (some false)) else (some false)) else (some false)) else (some false)) else (some false)) else (some false)) else (none)) else (some false)) else (none)) else (some false)) else (none)) else (some false))) else (some false)))) else (none))) else (none))) else (none)))) else (none))
def gazetteerlaw8_SealKnown.f (k : Nat)  : Option (Bool) := (gazetteerlaw8_awake.f k).bind fun t161 => (if t161 = true then ((seal_Frame.f k 9 (([87, 105, 107, 105, 112, 101, 100, 105, 97] : List Int))).bind fun bt165 => (if 32768 ≤ 281474976710656 then ((seal_Frame.f k 1 (List.replicate 32768 0)).bind fun bt172 => (if 32769 ≤ 281474976710656 then ((seal_Frame.f k 1 (List.replicate 32769 0)).bind fun bt179 => ((seal_Open.f k bt172.1).bind fun bt183 => ((seal_Open.f k (([255, 255, 1, 0, 0, 0, 0] : List Int))).bind fun bt192 => (if bt165.2 = 0 then (gazetteerlaw8_SealKnown.j0 k bt165.1 bt172.1 bt172.2 bt179.2 bt183.1 bt183.2.1 bt183.2.2.1 bt183.2.2.2 bt192.2.2.2 ((bt165.1.length : Int) != 16)) else (gazetteerlaw8_SealKnown.j0 k bt165.1 bt172.1 bt172.2 bt179.2 bt183.1 bt183.2.1 bt183.2.2.1 bt183.2.2.2 bt192.2.2.2 true))))) else (none))) else (none))) else (some false))
theorem gazetteerlaw8_SealKnown.mono_l : ∀ k, (∀ y0 y1 y2 y3 y4 y5 y6 y7 y8 y9, LeO (gazetteerlaw8_SealKnown.j0 k y0 y1 y2 y3 y4 y5 y6 y7 y8 y9) (gazetteerlaw8_SealKnown.j0 (k + 1) y0 y1 y2 y3 y4 y5 y6 y7 y8 y9))
  | 0 => fun _ _ _ _ _ _ _ _ _ _ r h => by simp [gazetteerlaw8_SealKnown.j0] at h
  | k + 1 => by
    have ih0 := gazetteerlaw8_SealKnown.mono_l k
    · intro y0 y1 y2 y3 y4 y5 y6 y7 y8 y9
      unfold gazetteerlaw8_SealKnown.j0
      repeat' first
      | (with_reducible exact ih0 _ _ _ _ _ _ _ _ _ _)
      | (with_reducible exact gazetteerlaw8_awake.mono _)
      | (with_reducible exact seal_All.mono _ _)
      | (with_reducible exact seal_Frame.mono _ _ _)
      | (with_reducible exact seal_Open.mono _ _)
      | (with_reducible exact seal_Sum.mono _ _)
      | (with_reducible exact LeO.refl _)
      | (with_reducible exact LeO.none _)
      | (with_reducible refine LeO.ite ?_ ?_)
      | (with_reducible refine LeO.bind ?_ (fun _ => ?_))
      | exact ih0 _ _ _ _ _ _ _ _ _ _
      | exact gazetteerlaw8_awake.mono _
      | exact seal_All.mono _ _
      | exact seal_Frame.mono _ _ _
      | exact seal_Open.mono _ _
      | exact seal_Sum.mono _ _
      | exact LeO.none _
      | refine LeO.ite ?_ ?_
      | refine LeO.bind ?_ (fun _ => ?_)
theorem gazetteerlaw8_SealKnown.mono : ∀ k, LeO (gazetteerlaw8_SealKnown.f k ) (gazetteerlaw8_SealKnown.f (k + 1) ) := by
  intro  k
  have ih0 := gazetteerlaw8_SealKnown.mono_l k
  unfold gazetteerlaw8_SealKnown.f
  repeat' first
      | (with_reducible exact ih0 _ _ _ _ _ _ _ _ _ _)
      | (with_reducible exact gazetteerlaw8_awake.mono _)
      | (with_reducible exact seal_All.mono _ _)
      | (with_reducible exact seal_Frame.mono _ _ _)
      | (with_reducible exact seal_Open.mono _ _)
      | (with_reducible exact seal_Sum.mono _ _)
      | (with_reducible exact LeO.refl _)
      | (with_reducible exact LeO.none _)
      | (with_reducible refine LeO.ite ?_ ?_)
      | (with_reducible refine LeO.bind ?_ (fun _ => ?_))
      | exact ih0 _ _ _ _ _ _ _ _ _ _
      | exact gazetteerlaw8_awake.mono _
      | exact seal_All.mono _ _
      | exact seal_Frame.mono _ _ _
      | exact seal_Open.mono _ _
      | exact seal_Sum.mono _ _
      | exact LeO.none _
      | refine LeO.ite ?_ ?_
      | refine LeO.bind ?_ (fun _ => ?_)
def gazetteerlaw8_SealKnown.T11 : Bool × List (List Nat × List Nat) := (true, [([], []), ([], []), ([0, 1], [0, 1]), ([], []), ([3], [3]), ([2, 4, 2], [2, 4]), ([5, 5], [5]), ([6], [6]), ([7], [7]), ([7], [7]), ([8, 6, 0, 1, 2, 3, 4, 5, 6, 7, 8], [8]), ([9, 10, 0, 1, 2, 3, 4, 5, 6, 7, 8, 9, 10], [9])])
def gazetteerlaw8_SealKnown.B11 : List Nat := [0, 0, 3, 0, 8, 31, 63, 127, 255, 255, 511, 2047]
theorem gazetteerlaw8_SealKnown.tab11 : rtab .any (opsOf Try.f10 11) = gazetteerlaw8_SealKnown.T11 := by kernel_rfl
theorem gazetteerlaw8_SealKnown.bits11 : waitsOk gazetteerlaw8_SealKnown.T11.2 gazetteerlaw8_SealKnown.B11 = true := by kernel_rfl
set_option maxHeartbeats 8000000 in
set_option maxRecDepth 100000 in
theorem gazetteerlaw8_SealKnown.calls (k : Nat)  (r : Bool) (w : World) (HLT0 : r = true) (h : gazetteerlaw8_SealKnown.f k  = some r) :
    Calls Try.prog 10 #[] w fun e w' => e = .returned (.bool r) ∧ Below w.heap.size w w' := by
  have hcv24 := fun wx => Lib.run_convert_bytes_const (P := Try.prog) wx 22 5 (#[.int .u8 87, .int .u8 105, .int .u8 107, .int .u8 105, .int .u8 112, .int .u8 101, .int .u8 100, .int .u8 105, .int .u8 97] : Array Value) 9 9 Try.underlying22 Try.underlying5
  have hcv78 := fun wx => Lib.run_convert_bytes_const (P := Try.prog) wx 22 5 (#[.int .u8 87, .int .u8 105, .int .u8 107, .int .u8 105, .int .u8 112, .int .u8 101, .int .u8 100, .int .u8 105, .int .u8 97] : Array Value) 9 9 Try.underlying22 Try.underlying5
  have HLT := Aside0.mk HLT0
  clear HLT0
  have HB := Aside0.mk (Below.refl w.heap.size w)
  have H : ((gazetteerlaw8_awake.f k).bind fun t161 => (if t161 = true then ((seal_Frame.f k 9 (([87, 105, 107, 105, 112, 101, 100, 105, 97] : List Int))).bind fun bt165 => (if 32768 ≤ 281474976710656 then ((seal_Frame.f k 1 (List.replicate 32768 0)).bind fun bt172 => (if 32769 ≤ 281474976710656 then ((seal_Frame.f k 1 (List.replicate 32769 0)).bind fun bt179 => ((seal_Open.f k bt172.1).bind fun bt183 => ((seal_Open.f k (([255, 255, 1, 0, 0, 0, 0] : List Int))).bind fun bt192 => (if bt165.2 = 0 then (gazetteerlaw8_SealKnown.j0 k bt165.1 bt172.1 bt172.2 bt179.2 bt183.1 bt183.2.1 bt183.2.2.1 bt183.2.2.2 bt192.2.2.2 ((bt165.1.length : Int) != 16)) else (gazetteerlaw8_SealKnown.j0 k bt165.1 bt172.1 bt172.2 bt179.2 bt183.1 bt183.2.1 bt183.2.2.1 bt183.2.2.2 bt192.2.2.2 true))))) else (none))) else (none))) else (some false))) = some r := h
  clear h
  replace H := Option.bind_eq_some_iff.mp H
  obtain ⟨t161, A10, H⟩ := H
  replace H : (if t161 = true then ((seal_Frame.f k 9 (([87, 105, 107, 105, 112, 101, 100, 105, 97] : List Int))).bind fun bt165 => (if 32768 ≤ 281474976710656 then ((seal_Frame.f k 1 (List.replicate 32768 0)).bind fun bt172 => (if 32769 ≤ 281474976710656 then ((seal_Frame.f k 1 (List.replicate 32769 0)).bind fun bt179 => ((seal_Open.f k bt172.1).bind fun bt183 => ((seal_Open.f k (([255, 255, 1, 0, 0, 0, 0] : List Int))).bind fun bt192 => (if bt165.2 = 0 then (gazetteerlaw8_SealKnown.j0 k bt165.1 bt172.1 bt172.2 bt179.2 bt183.1 bt183.2.1 bt183.2.2.1 bt183.2.2.2 bt192.2.2.2 ((bt165.1.length : Int) != 16)) else (gazetteerlaw8_SealKnown.j0 k bt165.1 bt172.1 bt172.2 bt179.2 bt183.1 bt183.2.1 bt183.2.2.1 bt183.2.2.2 bt192.2.2.2 true))))) else (none))) else (none))) else (some false)) = some r := H
  have A1 := Aside0.mk A10
  clear A10
  by_cases c2 : t161 = true
  · subst c2
    have H1 : ((seal_Frame.f k 9 (([87, 105, 107, 105, 112, 101, 100, 105, 97] : List Int))).bind fun bt165 => (if 32768 ≤ 281474976710656 then ((seal_Frame.f k 1 (List.replicate 32768 0)).bind fun bt172 => (if 32769 ≤ 281474976710656 then ((seal_Frame.f k 1 (List.replicate 32769 0)).bind fun bt179 => ((seal_Open.f k bt172.1).bind fun bt183 => ((seal_Open.f k (([255, 255, 1, 0, 0, 0, 0] : List Int))).bind fun bt192 => (if bt165.2 = 0 then (gazetteerlaw8_SealKnown.j0 k bt165.1 bt172.1 bt172.2 bt179.2 bt183.1 bt183.2.1 bt183.2.2.1 bt183.2.2.2 bt192.2.2.2 ((bt165.1.length : Int) != 16)) else (gazetteerlaw8_SealKnown.j0 k bt165.1 bt172.1 bt172.2 bt179.2 bt183.1 bt183.2.1 bt183.2.2.1 bt183.2.2.2 bt192.2.2.2 true))))) else (none))) else (none))) = some r := by rw [if_pos rfl] at H; exact H
    clear H
    have H := H1
    clear H1
    obtain ⟨y162, hy162⟩ : ∃ y_ : List Int, y_ = (([87, 105, 107, 105, 112, 101, 100, 105, 97] : List Int)) := ⟨_, rfl⟩
    replace H : ((seal_Frame.f k 9 y162).bind fun bt165 => (if 32768 ≤ 281474976710656 then ((seal_Frame.f k 1 (List.replicate 32768 0)).bind fun bt172 => (if 32769 ≤ 281474976710656 then ((seal_Frame.f k 1 (List.replicate 32769 0)).bind fun bt179 => ((seal_Open.f k bt172.1).bind fun bt183 => ((seal_Open.f k (([255, 255, 1, 0, 0, 0, 0] : List Int))).bind fun bt192 => (if bt165.2 = 0 then (gazetteerlaw8_SealKnown.j0 k bt165.1 bt172.1 bt172.2 bt179.2 bt183.1 bt183.2.1 bt183.2.2.1 bt183.2.2.2 bt192.2.2.2 ((bt165.1.length : Int) != 16)) else (gazetteerlaw8_SealKnown.j0 k bt165.1 bt172.1 bt172.2 bt179.2 bt183.1 bt183.2.1 bt183.2.2.1 bt183.2.2.2 bt192.2.2.2 true))))) else (none))) else (none))) = some r := by first | (rw [hy162]; with_reducible exact H) | (have H2_ := (Option.bind_some _ _).symm.trans H; rw [hy162]; with_reducible exact H2_) | (have H2_ := (Option.bind_some _ _).symm.trans H; with_reducible exact H2_) | with_reducible exact H | (rw [hy162]; exact H) | exact H
    have Ny162 := Aside0.mk hy162
    clear hy162
    replace H := Option.bind_eq_some_iff.mp H
    obtain ⟨⟨t165, t166⟩, A30, H⟩ := H
    replace H : (if 32768 ≤ 281474976710656 then ((seal_Frame.f k 1 (List.replicate 32768 0)).bind fun bt172 => (if 32769 ≤ 281474976710656 then ((seal_Frame.f k 1 (List.replicate 32769 0)).bind fun bt179 => ((seal_Open.f k bt172.1).bind fun bt183 => ((seal_Open.f k (([255, 255, 1, 0, 0, 0, 0] : List Int))).bind fun bt192 => (if t166 = 0 then (gazetteerlaw8_SealKnown.j0 k t165 bt172.1 bt172.2 bt179.2 bt183.1 bt183.2.1 bt183.2.2.1 bt183.2.2.2 bt192.2.2.2 ((t165.length : Int) != 16)) else (gazetteerlaw8_SealKnown.j0 k t165 bt172.1 bt172.2 bt179.2 bt183.1 bt183.2.1 bt183.2.2.1 bt183.2.2.2 bt192.2.2.2 true))))) else (none))) else (none)) = some r := H
    have A3 := Aside0.mk A30
    clear A30
    by_cases c4 : 32768 ≤ 281474976710656
    · rw [if_pos c4] at H
      have c4b0 := eq_true c4
      have c4b1 : decide (32768 ≤ 281474976710656) = true := decide_eq_true c4
      clear c4
      obtain ⟨y169, hy169⟩ : ∃ y_ : List Int, y_ = (List.replicate 32768 0) := ⟨_, rfl⟩
      replace H : ((seal_Frame.f k 1 y169).bind fun bt172 => (if 32769 ≤ 281474976710656 then ((seal_Frame.f k 1 (List.replicate 32769 0)).bind fun bt179 => ((seal_Open.f k bt172.1).bind fun bt183 => ((seal_Open.f k (([255, 255, 1, 0, 0, 0, 0] : List Int))).bind fun bt192 => (if t166 = 0 then (gazetteerlaw8_SealKnown.j0 k t165 bt172.1 bt172.2 bt179.2 bt183.1 bt183.2.1 bt183.2.2.1 bt183.2.2.2 bt192.2.2.2 ((t165.length : Int) != 16)) else (gazetteerlaw8_SealKnown.j0 k t165 bt172.1 bt172.2 bt179.2 bt183.1 bt183.2.1 bt183.2.2.1 bt183.2.2.2 bt192.2.2.2 true))))) else (none))) = some r := by first | (rw [hy169]; with_reducible exact H) | (have H2_ := (Option.bind_some _ _).symm.trans H; rw [hy169]; with_reducible exact H2_) | (have H2_ := (Option.bind_some _ _).symm.trans H; with_reducible exact H2_) | with_reducible exact H | (rw [hy169]; exact H) | exact H
      have Ny169 := Aside0.mk hy169
      clear hy169
      replace H := Option.bind_eq_some_iff.mp H
      obtain ⟨⟨t172, t173⟩, A50, H⟩ := H
      replace H : (if 32769 ≤ 281474976710656 then ((seal_Frame.f k 1 (List.replicate 32769 0)).bind fun bt179 => ((seal_Open.f k t172).bind fun bt183 => ((seal_Open.f k (([255, 255, 1, 0, 0, 0, 0] : List Int))).bind fun bt192 => (if t166 = 0 then (gazetteerlaw8_SealKnown.j0 k t165 t172 t173 bt179.2 bt183.1 bt183.2.1 bt183.2.2.1 bt183.2.2.2 bt192.2.2.2 ((t165.length : Int) != 16)) else (gazetteerlaw8_SealKnown.j0 k t165 t172 t173 bt179.2 bt183.1 bt183.2.1 bt183.2.2.1 bt183.2.2.2 bt192.2.2.2 true))))) else (none)) = some r := H
      have A5 := Aside0.mk A50
      clear A50
      by_cases c6 : 32769 ≤ 281474976710656
      · rw [if_pos c6] at H
        have c6b0 := eq_true c6
        have c6b1 : decide (32769 ≤ 281474976710656) = true := decide_eq_true c6
        clear c6
        obtain ⟨y176, hy176⟩ : ∃ y_ : List Int, y_ = (List.replicate 32769 0) := ⟨_, rfl⟩
        replace H : ((seal_Frame.f k 1 y176).bind fun bt179 => ((seal_Open.f k t172).bind fun bt183 => ((seal_Open.f k (([255, 255, 1, 0, 0, 0, 0] : List Int))).bind fun bt192 => (if t166 = 0 then (gazetteerlaw8_SealKnown.j0 k t165 t172 t173 bt179.2 bt183.1 bt183.2.1 bt183.2.2.1 bt183.2.2.2 bt192.2.2.2 ((t165.length : Int) != 16)) else (gazetteerlaw8_SealKnown.j0 k t165 t172 t173 bt179.2 bt183.1 bt183.2.1 bt183.2.2.1 bt183.2.2.2 bt192.2.2.2 true))))) = some r := by first | (rw [hy176]; with_reducible exact H) | (have H2_ := (Option.bind_some _ _).symm.trans H; rw [hy176]; with_reducible exact H2_) | (have H2_ := (Option.bind_some _ _).symm.trans H; with_reducible exact H2_) | with_reducible exact H | (rw [hy176]; exact H) | exact H
        have Ny176 := Aside0.mk hy176
        clear hy176
        replace H := Option.bind_eq_some_iff.mp H
        obtain ⟨⟨t179, t180⟩, A70, H⟩ := H
        replace H : ((seal_Open.f k t172).bind fun bt183 => ((seal_Open.f k (([255, 255, 1, 0, 0, 0, 0] : List Int))).bind fun bt192 => (if t166 = 0 then (gazetteerlaw8_SealKnown.j0 k t165 t172 t173 t180 bt183.1 bt183.2.1 bt183.2.2.1 bt183.2.2.2 bt192.2.2.2 ((t165.length : Int) != 16)) else (gazetteerlaw8_SealKnown.j0 k t165 t172 t173 t180 bt183.1 bt183.2.1 bt183.2.2.1 bt183.2.2.2 bt192.2.2.2 true)))) = some r := H
        have A7 := Aside0.mk A70
        clear A70
        replace H := Option.bind_eq_some_iff.mp H
        obtain ⟨⟨t183, t184, t185, t186⟩, A80, H⟩ := H
        replace H : ((seal_Open.f k (([255, 255, 1, 0, 0, 0, 0] : List Int))).bind fun bt192 => (if t166 = 0 then (gazetteerlaw8_SealKnown.j0 k t165 t172 t173 t180 t183 t184 t185 t186 bt192.2.2.2 ((t165.length : Int) != 16)) else (gazetteerlaw8_SealKnown.j0 k t165 t172 t173 t180 t183 t184 t185 t186 bt192.2.2.2 true))) = some r := H
        have A8 := Aside0.mk A80
        clear A80
        obtain ⟨y189, hy189⟩ : ∃ y_ : List Int, y_ = (([255, 255, 1, 0, 0, 0, 0] : List Int)) := ⟨_, rfl⟩
        replace H : ((seal_Open.f k y189).bind fun bt192 => (if t166 = 0 then (gazetteerlaw8_SealKnown.j0 k t165 t172 t173 t180 t183 t184 t185 t186 bt192.2.2.2 ((t165.length : Int) != 16)) else (gazetteerlaw8_SealKnown.j0 k t165 t172 t173 t180 t183 t184 t185 t186 bt192.2.2.2 true))) = some r := by first | (rw [hy189]; with_reducible exact H) | (have H2_ := (Option.bind_some _ _).symm.trans H; rw [hy189]; with_reducible exact H2_) | (have H2_ := (Option.bind_some _ _).symm.trans H; with_reducible exact H2_) | with_reducible exact H | (rw [hy189]; exact H) | exact H
        have Ny189 := Aside0.mk hy189
        clear hy189
        replace H := Option.bind_eq_some_iff.mp H
        obtain ⟨⟨t192, t193, t194, t195⟩, A90, H⟩ := H
        replace H : (if t166 = 0 then (gazetteerlaw8_SealKnown.j0 k t165 t172 t173 t180 t183 t184 t185 t186 t195 ((t165.length : Int) != 16)) else (gazetteerlaw8_SealKnown.j0 k t165 t172 t173 t180 t183 t184 t185 t186 t195 true)) = some r := H
        have A9 := Aside0.mk A90
        clear A90
        have HC10 := Aside0.mk H
        clear H
        go_enter Try.func10, Try.ntmps10
        go_upto_region 8 with (first | ((with_reducible refine gate_callee (f := 19) rfl ?_); refine goesL_ (some 21) rfl rfl Try.func19 (by kernel_rfl) rfl #[] rfl (by (try simp only [List.map_toArray, List.map_cons, List.map_nil]); first | done | rfl | (simp only [List.length_drop, List.length_take]; done) | (simp only [List.length_drop, List.length_take]; rfl)) ?_; (with_reducible refine (gazetteerlaw8_awake.calls k  true _ A1.out).mono ?_); rintro e w11 ⟨rfl, hb⟩; refine ⟨_, rfl, ?_⟩; have n0_ := Aside0.mk (below_step (by repeat (first | (with_reducible first | exact HB.out | apply below_alloc | apply pw_below_drewN | apply below_drew1) | exact HB.out)) hb); clear HB; have HB := n0_; clear n0_; (try clear hb); (try clear hb2); (try clear hk); (try clear hi)) | ((first | ((with_reducible refine gate_callee (f := 20) rfl ?_); refine goesL_ (some 26) rfl rfl Try.func20 (by kernel_rfl) rfl #[.int .u8 9, .slice (some ⟨w11.heap.size, 0, none⟩) y162.length 9] rfl (by (try simp only [List.map_toArray, List.map_cons, List.map_nil]); first | done | (rw [show y162.length = 9 from (by rw [Ny162.out]; rfl)] <;> rfl) | rfl) ?_; (with_reducible refine (seal_Frame.calls k 9 _ _ y162 t165 t166 _ ?side1 ?side2 A3.out).mono ?_); (case side1 => exact const_row _ _ _ _ _ _ _ (by first | rfl | (simp [World.alloc, World.drewN]; done) | (simp; done)) (by rw [Ny162.out]; rfl) (by rw [Ny162.out]; decide)); (case side2 => exact (by rw [Ny162.out]; decide)); rintro e w12 ⟨v167, rfl, ho0, hb⟩; refine ⟨_, rfl, ?_⟩) | (go_at_call 20; refine calls_of_args (args' := #[.int .u8 9, .slice (some ⟨w11.heap.size, 0, none⟩) y162.length 9]) (by first | (rw [show y162.length = 9 from (by rw [Ny162.out]; rfl)] <;> rfl) | rfl) ?_; (with_reducible refine (seal_Frame.calls k 9 _ _ y162 t165 t166 _ ?side1 ?side2 A3.out).mono ?_); (case side1 => exact const_row _ _ _ _ _ _ _ (by first | rfl | (simp [World.alloc, World.drewN]; done) | (simp; done)) (by rw [Ny162.out]; rfl) (by rw [Ny162.out]; decide)); (case side2 => exact (by rw [Ny162.out]; decide)); rintro e w12 ⟨v167, rfl, ho0, hb⟩)); have n0_ := Aside0.mk (Kd.R_lower ho0 (below_size (by repeat (first | (with_reducible first | exact HB.out | apply below_alloc | apply pw_below_drewN | apply below_drew1) | exact HB.out)))); have n1_ := Aside0.mk (below_step (by repeat (first | (with_reducible first | exact HB.out | apply below_alloc | apply pw_below_drewN | apply below_drew1) | exact HB.out)) hb); clear HB; have HO168 := n0_; have HB := n1_; clear n0_ n1_; (try clear hb); (try clear hb2); (try clear hk); (try clear hi); (try clear ho0)) | ((with_reducible refine gate_dst (N := 30) rfl ?_); (try (refine gate_guard (by rfl) ?_; dsimp only)); refine Kd.R_make (Kd.int .u8) _ 5 rfl (N := 30) rfl 22 _ _ rfl 32768 rfl rfl Try.underlying22 (.int .u8 0) 1 info5 rfl (by decide) (by omega) 0 (ok := fun _ => True) (okp := fun _ => True) rfl (fun _ hk => hk) trivial (by omega) (by omega) (Below.refl _ _) (Nat.le_refl _) ?_; intro v170 w13 ho14 hb hg_ hnew_; clear hg_ hnew_; (first | rw [← Ny169.out] at ho14 | (simp only [Int.reduceToNat] at ho14; rw [← Ny169.out] at ho14)); have n0_ := Aside0.mk (Kd.R_elder' (by (with_reducible repeat (first | apply Kd.R_alloc | apply Kd.R_drewN | apply Kd.R_drew)); exact HO168.out) (Kd.R_base ho14) hb); have n1_ := Aside0.mk (Kd.R_lower (Kd.R_new' ho14 (Kd.R_lt (by (with_reducible repeat (first | apply Kd.R_alloc | apply Kd.R_drewN | apply Kd.R_drew)); exact HO168.out))) (below_size (by repeat (first | (with_reducible first | exact HB.out | apply below_alloc | apply pw_below_drewN | apply below_drew1) | exact HB.out)))); have n2_ := Aside0.mk (below_step (by repeat (first | (with_reducible first | exact HB.out | apply below_alloc | apply pw_below_drewN | apply below_drew1) | exact HB.out)) hb); clear HO168; clear HB; have HO168 := n0_; have HO171 := n1_; have HB := n2_; clear n0_ n1_ n2_; clear hb ho14; obtain ⟨Ao15, co15, eo15⟩ := Kd.R_slice HO171.out; subst eo15) | ((with_reducible refine gate_callee (f := 20) rfl ?_); refine goesL_ (some 31) rfl rfl Try.func20 (by kernel_rfl) rfl #[.int .u8 1, .slice Ao15 y169.length co15] rfl (by (try simp only [List.map_toArray, List.map_cons, List.map_nil]); first | done | rfl | (simp only [List.length_drop, List.length_take]; done) | (simp only [List.length_drop, List.length_take]; rfl)) ?_; (with_reducible refine (seal_Frame.calls k 1 _ _ y169 t172 t173 _ ?side1 ?side2 A5.out).mono ?_); (case side1 => repeat (first | exact (Kd.R_reads' HO171.out).2.2 | (with_reducible refine Kd.C_alloc ?_ _) | (with_reducible refine Kd.C_drewN ?_ _) | (with_reducible refine Kd.C_drew ?_))); (case side2 => exact (Kd.R_reads' HO171.out).2.1); rintro e w16 ⟨v174, rfl, ho0, hb⟩; refine ⟨_, rfl, ?_⟩; have n0_ := Aside0.mk (Kd.R_elder' (by (with_reducible repeat (first | apply Kd.R_alloc | apply Kd.R_drewN | apply Kd.R_drew)); exact HO168.out) (Kd.R_base ho0) hb); have n1_ := Aside0.mk (Kd.R_elder' (by (with_reducible repeat (first | apply Kd.R_alloc | apply Kd.R_drewN | apply Kd.R_drew)); exact HO171.out) (Kd.R_base ho0) hb); have n2_ := Aside0.mk (Kd.R_lower (Kd.R_new' (Kd.R_new' ho0 (Kd.R_lt (by (with_reducible repeat (first | apply Kd.R_alloc | apply Kd.R_drewN | apply Kd.R_drew)); exact HO168.out))) (Kd.R_lt (by (with_reducible repeat (first | apply Kd.R_alloc | apply Kd.R_drewN | apply Kd.R_drew)); exact HO171.out))) (below_size (by repeat (first | (with_reducible first | exact HB.out | apply below_alloc | apply pw_below_drewN | apply below_drew1) | exact HB.out)))); have n3_ := Aside0.mk (below_step (by repeat (first | (with_reducible first | exact HB.out | apply below_alloc | apply pw_below_drewN | apply below_drew1) | exact HB.out)) hb); clear HO168; clear HO171; clear HB; have HO168 := n0_; have HO171 := n1_; have HO175 := n2_; have HB := n3_; clear n0_ n1_ n2_ n3_; (try clear hb); (try clear hb2); (try clear hk); (try clear hi); (try clear ho0)) | ((with_reducible refine gate_dst (N := 35) rfl ?_); (try (refine gate_guard (by rfl) ?_; dsimp only)); refine Kd.R_make (Kd.int .u8) _ 5 rfl (N := 35) rfl 22 _ _ rfl 32769 rfl rfl Try.underlying22 (.int .u8 0) 1 info5 rfl (by decide) (by omega) 0 (ok := fun _ => True) (okp := fun _ => True) rfl (fun _ hk => hk) trivial (by omega) (by omega) (Below.refl _ _) (Nat.le_refl _) ?_; intro v177 w17 ho18 hb hg_ hnew_; clear hg_ hnew_; (first | rw [← Ny176.out] at ho18 | (simp only [Int.reduceToNat] at ho18; rw [← Ny176.out] at ho18)); have n0_ := Aside0.mk (Kd.R_elder' (by (with_reducible repeat (first | apply Kd.R_alloc | apply Kd.R_drewN | apply Kd.R_drew)); exact HO168.out) (Kd.R_base ho18) hb); have n1_ := Aside0.mk (Kd.R_elder' (by (with_reducible repeat (first | apply Kd.R_alloc | apply Kd.R_drewN | apply Kd.R_drew)); exact HO171.out) (Kd.R_base ho18) hb); have n2_ := Aside0.mk (Kd.R_elder' (by (with_reducible repeat (first | apply Kd.R_alloc | apply Kd.R_drewN | apply Kd.R_drew)); exact HO175.out) (Kd.R_base ho18) hb); have n3_ := Aside0.mk (Kd.R_lower (Kd.R_new' (Kd.R_new' (Kd.R_new' ho18 (Kd.R_lt (by (with_reducible repeat (first | apply Kd.R_alloc | apply Kd.R_drewN | apply Kd.R_drew)); exact HO168.out))) (Kd.R_lt (by (with_reducible repeat (first | apply Kd.R_alloc | apply Kd.R_drewN | apply Kd.R_drew)); exact HO171.out))) (Kd.R_lt (by (with_reducible repeat (first | apply Kd.R_alloc | apply Kd.R_drewN | apply Kd.R_drew)); exact HO175.out))) (below_size (by repeat (first | (with_reducible first | exact HB.out | apply below_alloc | apply pw_below_drewN | apply below_drew1) | exact HB.out)))); have n4_ := Aside0.mk (below_step (by repeat (first | (with_reducible first | exact HB.out | apply below_alloc | apply pw_below_drewN | apply below_drew1) | exact HB.out)) hb); clear HO168; clear HO171; clear HO175; clear HB; have HO168 := n0_; have HO171 := n1_; have HO175 := n2_; have HO178 := n3_; have HB := n4_; clear n0_ n1_ n2_ n3_ n4_; clear hb ho18; obtain ⟨Ao19, co19, eo19⟩ := Kd.R_slice HO178.out; subst eo19) | ((with_reducible refine gate_callee (f := 20) rfl ?_); refine goesL_ (some 36) rfl rfl Try.func20 (by kernel_rfl) rfl #[.int .u8 1, .slice Ao19 y176.length co19] rfl (by (try simp only [List.map_toArray, List.map_cons, List.map_nil]); first | done | rfl | (simp only [List.length_drop, List.length_take]; done) | (simp only [List.length_drop, List.length_take]; rfl)) ?_; (with_reducible refine (seal_Frame.calls k 1 _ _ y176 t179 t180 _ ?side1 ?side2 A7.out).mono ?_); (case side1 => repeat (first | exact (Kd.R_reads' HO178.out).2.2 | (with_reducible refine Kd.C_alloc ?_ _) | (with_reducible refine Kd.C_drewN ?_ _) | (with_reducible refine Kd.C_drew ?_))); (case side2 => exact (Kd.R_reads' HO178.out).2.1); rintro e w20 ⟨v181, rfl, ho0, hb⟩; refine ⟨_, rfl, ?_⟩; have n0_ := Aside0.mk (Kd.R_elder' (by (with_reducible repeat (first | apply Kd.R_alloc | apply Kd.R_drewN | apply Kd.R_drew)); exact HO168.out) (Kd.R_base ho0) hb); have n1_ := Aside0.mk (Kd.R_elder' (by (with_reducible repeat (first | apply Kd.R_alloc | apply Kd.R_drewN | apply Kd.R_drew)); exact HO171.out) (Kd.R_base ho0) hb); have n2_ := Aside0.mk (Kd.R_elder' (by (with_reducible repeat (first | apply Kd.R_alloc | apply Kd.R_drewN | apply Kd.R_drew)); exact HO175.out) (Kd.R_base ho0) hb); have n3_ := Aside0.mk (Kd.R_elder' (by (with_reducible repeat (first | apply Kd.R_alloc | apply Kd.R_drewN | apply Kd.R_drew)); exact HO178.out) (Kd.R_base ho0) hb); have n4_ := Aside0.mk (Kd.R_lower (Kd.R_new' (Kd.R_new' (Kd.R_new' (Kd.R_new' ho0 (Kd.R_lt (by (with_reducible repeat (first | apply Kd.R_alloc | apply Kd.R_drewN | apply Kd.R_drew)); exact HO168.out))) (Kd.R_lt (by (with_reducible repeat (first | apply Kd.R_alloc | apply Kd.R_drewN | apply Kd.R_drew)); exact HO171.out))) (Kd.R_lt (by (with_reducible repeat (first | apply Kd.R_alloc | apply Kd.R_drewN | apply Kd.R_drew)); exact HO175.out))) (Kd.R_lt (by (with_reducible repeat (first | apply Kd.R_alloc | apply Kd.R_drewN | apply Kd.R_drew)); exact HO178.out))) (below_size (by repeat (first | (with_reducible first | exact HB.out | apply below_alloc | apply pw_below_drewN | apply below_drew1) | exact HB.out)))); have n5_ := Aside0.mk (below_step (by repeat (first | (with_reducible first | exact HB.out | apply below_alloc | apply pw_below_drewN | apply below_drew1) | exact HB.out)) hb); clear HO168; clear HO171; clear HO175; clear HO178; clear HB; have HO168 := n0_; have HO171 := n1_; have HO175 := n2_; have HO178 := n3_; have HO182 := n4_; have HB := n5_; clear n0_ n1_ n2_ n3_ n4_ n5_; (try clear hb); (try clear hb2); (try clear hk); (try clear hi); (try clear ho0); obtain ⟨Ao21, co21, eo21⟩ := Kd.R_slice HO175.out; subst eo21) | ((with_reducible refine gate_callee (f := 24) rfl ?_); refine goesL_ (some 41) rfl rfl Try.func24 (by kernel_rfl) rfl #[.slice Ao21 t172.length co21] rfl (by (try simp only [List.map_toArray, List.map_cons, List.map_nil]); first | done | rfl | (simp only [List.length_drop, List.length_take]; done) | (simp only [List.length_drop, List.length_take]; rfl)) ?_; (with_reducible refine (seal_Open.calls k _ _ t172 t183 t184 t185 t186 _ ?side1 ?side2 A8.out).mono ?_); (case side1 => repeat (first | exact (Kd.R_reads' HO175.out).2.2 | (with_reducible refine Kd.C_alloc ?_ _) | (with_reducible refine Kd.C_drewN ?_ _) | (with_reducible refine Kd.C_drew ?_))); (case side2 => exact (Kd.R_reads' HO175.out).2.1); rintro e w22 ⟨v187, rfl, ho0, hb⟩; refine ⟨_, rfl, ?_⟩; have n0_ := Aside0.mk (Kd.R_elder' (by (with_reducible repeat (first | apply Kd.R_alloc | apply Kd.R_drewN | apply Kd.R_drew)); exact HO168.out) (Kd.R_base ho0) hb); have n1_ := Aside0.mk (Kd.R_elder' (by (with_reducible repeat (first | apply Kd.R_alloc | apply Kd.R_drewN | apply Kd.R_drew)); exact HO171.out) (Kd.R_base ho0) hb); have n2_ := Aside0.mk (Kd.R_elder' (by (with_reducible repeat (first | apply Kd.R_alloc | apply Kd.R_drewN | apply Kd.R_drew)); exact HO175.out) (Kd.R_base ho0) hb); have n3_ := Aside0.mk (Kd.R_elder' (by (with_reducible repeat (first | apply Kd.R_alloc | apply Kd.R_drewN | apply Kd.R_drew)); exact HO178.out) (Kd.R_base ho0) hb); have n4_ := Aside0.mk (Kd.R_elder' (by (with_reducible repeat (first | apply Kd.R_alloc | apply Kd.R_drewN | apply Kd.R_drew)); exact HO182.out) (Kd.R_base ho0) hb); have n5_ := Aside0.mk (Kd.R_lower (Kd.R_new' (Kd.R_new' (Kd.R_new' (Kd.R_new' (Kd.R_new' ho0 (Kd.R_lt (by (with_reducible repeat (first | apply Kd.R_alloc | apply Kd.R_drewN | apply Kd.R_drew)); exact HO168.out))) (Kd.R_lt (by (with_reducible repeat (first | apply Kd.R_alloc | apply Kd.R_drewN | apply Kd.R_drew)); exact HO171.out))) (Kd.R_lt (by (with_reducible repeat (first | apply Kd.R_alloc | apply Kd.R_drewN | apply Kd.R_drew)); exact HO175.out))) (Kd.R_lt (by (with_reducible repeat (first | apply Kd.R_alloc | apply Kd.R_drewN | apply Kd.R_drew)); exact HO178.out))) (Kd.R_lt (by (with_reducible repeat (first | apply Kd.R_alloc | apply Kd.R_drewN | apply Kd.R_drew)); exact HO182.out))) (below_size (by repeat (first | (with_reducible first | exact HB.out | apply below_alloc | apply pw_below_drewN | apply below_drew1) | exact HB.out)))); have n6_ := Aside0.mk (below_step (by repeat (first | (with_reducible first | exact HB.out | apply below_alloc | apply pw_below_drewN | apply below_drew1) | exact HB.out)) hb); clear HO168; clear HO171; clear HO175; clear HO178; clear HO182; clear HB; have HO168 := n0_; have HO171 := n1_; have HO175 := n2_; have HO178 := n3_; have HO182 := n4_; have HO188 := n5_; have HB := n6_; clear n0_ n1_ n2_ n3_ n4_ n5_ n6_; (try clear hb); (try clear hb2); (try clear hk); (try clear hi); (try clear ho0)) | ((with_reducible refine gate_dst (N := 47) rfl ?_); (try (refine gate_guard (by rfl) ?_; dsimp only)); refine Kd.R_lit (Kd.int .u8) _ 5 ?hg (N := 47) ?hd (xs := ([255, 255, 1, 0, 0, 0, 0] : List Int)) (inner := [.int .u8 255, .int .u8 255, .int .u8 1, .int .u8 0, .int .u8 0, .int .u8 0, .int .u8 0]) (ok := fun _ => True) (okp := fun _ => True) ?hr ?hp (fun _ hk => hk) trivial (Below.refl _ _) (Nat.le_refl _) (by simp) ?_; (case hd => rfl); (case hg => rfl); (case hr => first | (go_simp; done) | (go_simp; rfl)); (case hp => exact (Reps.one (show Kd.M (Kd.int .u8) _ _ _ 255 [.int .u8 255] from rfl) (Reps.one (show Kd.M (Kd.int .u8) _ _ _ 255 [.int .u8 255] from rfl) (Reps.one (show Kd.M (Kd.int .u8) _ _ _ 1 [.int .u8 1] from rfl) (Reps.one (show Kd.M (Kd.int .u8) _ _ _ 0 [.int .u8 0] from rfl) (Reps.one (show Kd.M (Kd.int .u8) _ _ _ 0 [.int .u8 0] from rfl) (Reps.one (show Kd.M (Kd.int .u8) _ _ _ 0 [.int .u8 0] from rfl) (Reps.one (show Kd.M (Kd.int .u8) _ _ _ 0 [.int .u8 0] from rfl) (Reps.none _ _))))))))); intro v190 w23 ho24 hb hg_ hnew_; clear hg_ hnew_; (first | rw [← Ny189.out] at ho24 | (simp only [Int.reduceToNat] at ho24; rw [← Ny189.out] at ho24)); have n0_ := Aside0.mk (Kd.R_elder' (by (with_reducible repeat (first | apply Kd.R_alloc | apply Kd.R_drewN | apply Kd.R_drew)); exact HO168.out) (Kd.R_base ho24) hb); have n1_ := Aside0.mk (Kd.R_elder' (by (with_reducible repeat (first | apply Kd.R_alloc | apply Kd.R_drewN | apply Kd.R_drew)); exact HO171.out) (Kd.R_base ho24) hb); have n2_ := Aside0.mk (Kd.R_elder' (by (with_reducible repeat (first | apply Kd.R_alloc | apply Kd.R_drewN | apply Kd.R_drew)); exact HO175.out) (Kd.R_base ho24) hb); have n3_ := Aside0.mk (Kd.R_elder' (by (with_reducible repeat (first | apply Kd.R_alloc | apply Kd.R_drewN | apply Kd.R_drew)); exact HO178.out) (Kd.R_base ho24) hb); have n4_ := Aside0.mk (Kd.R_elder' (by (with_reducible repeat (first | apply Kd.R_alloc | apply Kd.R_drewN | apply Kd.R_drew)); exact HO182.out) (Kd.R_base ho24) hb); have n5_ := Aside0.mk (Kd.R_elder' (by (with_reducible repeat (first | apply Kd.R_alloc | apply Kd.R_drewN | apply Kd.R_drew)); exact HO188.out) (Kd.R_base ho24) hb); have n6_ := Aside0.mk (Kd.R_lower (Kd.R_new' (Kd.R_new' (Kd.R_new' (Kd.R_new' (Kd.R_new' (Kd.R_new' ho24 (Kd.R_lt (by (with_reducible repeat (first | apply Kd.R_alloc | apply Kd.R_drewN | apply Kd.R_drew)); exact HO168.out))) (Kd.R_lt (by (with_reducible repeat (first | apply Kd.R_alloc | apply Kd.R_drewN | apply Kd.R_drew)); exact HO171.out))) (Kd.R_lt (by (with_reducible repeat (first | apply Kd.R_alloc | apply Kd.R_drewN | apply Kd.R_drew)); exact HO175.out))) (Kd.R_lt (by (with_reducible repeat (first | apply Kd.R_alloc | apply Kd.R_drewN | apply Kd.R_drew)); exact HO178.out))) (Kd.R_lt (by (with_reducible repeat (first | apply Kd.R_alloc | apply Kd.R_drewN | apply Kd.R_drew)); exact HO182.out))) (Kd.R_lt (by (with_reducible repeat (first | apply Kd.R_alloc | apply Kd.R_drewN | apply Kd.R_drew)); exact HO188.out))) (below_size (by repeat (first | (with_reducible first | exact HB.out | apply below_alloc | apply pw_below_drewN | apply below_drew1) | exact HB.out)))); have n7_ := Aside0.mk (below_step (by repeat (first | (with_reducible first | exact HB.out | apply below_alloc | apply pw_below_drewN | apply below_drew1) | exact HB.out)) hb); clear HO168; clear HO171; clear HO175; clear HO178; clear HO182; clear HO188; clear HB; have HO168 := n0_; have HO171 := n1_; have HO175 := n2_; have HO178 := n3_; have HO182 := n4_; have HO188 := n5_; have HO191 := n6_; have HB := n7_; clear n0_ n1_ n2_ n3_ n4_ n5_ n6_ n7_; clear hb ho24; obtain ⟨Ao25, co25, eo25⟩ := Kd.R_slice HO191.out; subst eo25) | ((with_reducible refine gate_callee (f := 24) rfl ?_); refine goesL_ (some 48) rfl rfl Try.func24 (by kernel_rfl) rfl #[.slice Ao25 y189.length co25] rfl (by (try simp only [List.map_toArray, List.map_cons, List.map_nil]); first | done | rfl | (simp only [List.length_drop, List.length_take]; done) | (simp only [List.length_drop, List.length_take]; rfl)) ?_; (with_reducible refine (seal_Open.calls k _ _ y189 t192 t193 t194 t195 _ ?side1 ?side2 A9.out).mono ?_); (case side1 => repeat (first | exact (Kd.R_reads' HO191.out).2.2 | (with_reducible refine Kd.C_alloc ?_ _) | (with_reducible refine Kd.C_drewN ?_ _) | (with_reducible refine Kd.C_drew ?_))); (case side2 => exact (Kd.R_reads' HO191.out).2.1); rintro e w26 ⟨v196, rfl, ho0, hb⟩; refine ⟨_, rfl, ?_⟩; have n0_ := Aside0.mk (Kd.R_elder' (by (with_reducible repeat (first | apply Kd.R_alloc | apply Kd.R_drewN | apply Kd.R_drew)); exact HO168.out) (Kd.R_base ho0) hb); have n1_ := Aside0.mk (Kd.R_elder' (by (with_reducible repeat (first | apply Kd.R_alloc | apply Kd.R_drewN | apply Kd.R_drew)); exact HO171.out) (Kd.R_base ho0) hb); have n2_ := Aside0.mk (Kd.R_elder' (by (with_reducible repeat (first | apply Kd.R_alloc | apply Kd.R_drewN | apply Kd.R_drew)); exact HO175.out) (Kd.R_base ho0) hb); have n3_ := Aside0.mk (Kd.R_elder' (by (with_reducible repeat (first | apply Kd.R_alloc | apply Kd.R_drewN | apply Kd.R_drew)); exact HO178.out) (Kd.R_base ho0) hb); have n4_ := Aside0.mk (Kd.R_elder' (by (with_reducible repeat (first | apply Kd.R_alloc | apply Kd.R_drewN | apply Kd.R_drew)); exact HO182.out) (Kd.R_base ho0) hb); have n5_ := Aside0.mk (Kd.R_elder' (by (with_reducible repeat (first | apply Kd.R_alloc | apply Kd.R_drewN | apply Kd.R_drew)); exact HO188.out) (Kd.R_base ho0) hb); have n6_ := Aside0.mk (Kd.R_elder' (by (with_reducible repeat (first | apply Kd.R_alloc | apply Kd.R_drewN | apply Kd.R_drew)); exact HO191.out) (Kd.R_base ho0) hb); have n7_ := Aside0.mk (Kd.R_lower (Kd.R_new' (Kd.R_new' (Kd.R_new' (Kd.R_new' (Kd.R_new' (Kd.R_new' (Kd.R_new' ho0 (Kd.R_lt (by (with_reducible repeat (first | apply Kd.R_alloc | apply Kd.R_drewN | apply Kd.R_drew)); exact HO168.out))) (Kd.R_lt (by (with_reducible repeat (first | apply Kd.R_alloc | apply Kd.R_drewN | apply Kd.R_drew)); exact HO171.out))) (Kd.R_lt (by (with_reducible repeat (first | apply Kd.R_alloc | apply Kd.R_drewN | apply Kd.R_drew)); exact HO175.out))) (Kd.R_lt (by (with_reducible repeat (first | apply Kd.R_alloc | apply Kd.R_drewN | apply Kd.R_drew)); exact HO178.out))) (Kd.R_lt (by (with_reducible repeat (first | apply Kd.R_alloc | apply Kd.R_drewN | apply Kd.R_drew)); exact HO182.out))) (Kd.R_lt (by (with_reducible repeat (first | apply Kd.R_alloc | apply Kd.R_drewN | apply Kd.R_drew)); exact HO188.out))) (Kd.R_lt (by (with_reducible repeat (first | apply Kd.R_alloc | apply Kd.R_drewN | apply Kd.R_drew)); exact HO191.out))) (below_size (by repeat (first | (with_reducible first | exact HB.out | apply below_alloc | apply pw_below_drewN | apply below_drew1) | exact HB.out)))); have n8_ := Aside0.mk (below_step (by repeat (first | (with_reducible first | exact HB.out | apply below_alloc | apply pw_below_drewN | apply below_drew1) | exact HB.out)) hb); clear HO168; clear HO171; clear HO175; clear HO178; clear HO182; clear HO188; clear HO191; clear HB; have HO168 := n0_; have HO171 := n1_; have HO175 := n2_; have HO178 := n3_; have HO182 := n4_; have HO188 := n5_; have HO191 := n6_; have HO197 := n7_; have HB := n8_; clear n0_ n1_ n2_ n3_ n4_ n5_ n6_ n7_ n8_; (try clear hb); (try clear hb2); (try clear hk); (try clear hi); (try clear ho0)))
        (try simp only [Act.put, List.setIfInBounds_toArray, List.set_cons_zero, List.set_cons_succ])
        go_cut [59] (fun v59 wc => ∃ (kq : Nat) (x59_9 : Bool), v59 = .bool x59_9 ∧ Aside0 (gazetteerlaw8_SealKnown.j0 kq t165 t172 t173 t180 t183 t184 t185 t186 t195 x59_9 = some r) ∧ Aside0 (kq ≤ k) ∧ Aside0 (Kd.R (Kd.int .u8) 5 wc w.heap.size (fun k_ => some k_ ≠ ((.slice Ao21 t172.length co21) : Value).ownBlock ∧ some k_ ≠ (v187 : Value).ownBlock) v167 t165) ∧ Aside0 (Kd.R (Kd.int .u8) 5 wc w.heap.size (fun k_ => some k_ ≠ (v167 : Value).ownBlock ∧ some k_ ≠ (v187 : Value).ownBlock) (.slice Ao21 t172.length co21) t172) ∧ Aside0 (Kd.R (Kd.int .u8) 5 wc w.heap.size (fun k_ => some k_ ≠ (v167 : Value).ownBlock ∧ some k_ ≠ ((.slice Ao21 t172.length co21) : Value).ownBlock) v187 t184) ∧ Aside0 (Below w.heap.size w wc))
        case first =>
          have H := HC10.out
          clear HC10
          by_cases c27 : t166 = 0
          · rw [if_pos c27] at H
            have c27b0 : (t166 == 0) = true := beq_iff_eq.mpr c27
            have c27b1 : (t166 != 0) = false := bne_eq_false_iff_eq.mpr c27
            clear c27
            (first | rw [c27b0] | (simp only [i64_w, i32_w]; rw [c27b0]) | skip)
            have H' := Aside0.mk H
            clear H
            obtain ⟨Ao28, co28, eo28⟩ := Kd.R_slice HO168.out
            subst eo28
            go_wp2
            go_meet
            case rel => exact ⟨_, (((t165.length : Int) != 16)), (by first | rfl | (simp; done) | (simp [*]; done)), H', ⟨by first | omega | exact Nat.le_refl _⟩, ⟨by (with_reducible repeat (first | apply Kd.R_alloc | apply Kd.R_drewN | apply Kd.R_drew)); exact Kd.R_mono HO168.out (fun _ hk => ⟨hk.1.1.1.1.1.2, hk.1.1.2⟩)⟩, ⟨by (with_reducible repeat (first | apply Kd.R_alloc | apply Kd.R_drewN | apply Kd.R_drew)); exact Kd.R_mono HO175.out (fun _ hk => ⟨hk.1.1.1.1.1.1.2, hk.1.1.2⟩)⟩, ⟨by (with_reducible repeat (first | apply Kd.R_alloc | apply Kd.R_drewN | apply Kd.R_drew)); exact Kd.R_mono HO188.out (fun _ hk => ⟨hk.1.1.1.1.1.1.2, hk.1.1.1.1.2⟩)⟩, ⟨by repeat (first | (with_reducible first | exact HB.out | apply below_alloc | apply pw_below_drewN | apply below_drew1) | exact HB.out)⟩⟩
          · rw [if_neg c27] at H
            have c27b0 : (t166 == 0) = false := beq_eq_false_iff_ne.mpr c27
            have c27b1 : (t166 != 0) = true := bne_iff_ne.mpr c27
            (first | rw [c27b0] | (simp only [i64_w, i32_w]; rw [c27b0]) | skip)
            have H' := Aside0.mk H
            clear H
            go_wp2
            go_meet
            case rel => exact ⟨_, (true), (by first | rfl | (simp; done) | (simp [*]; done)), H', ⟨by first | omega | exact Nat.le_refl _⟩, ⟨by (with_reducible repeat (first | apply Kd.R_alloc | apply Kd.R_drewN | apply Kd.R_drew)); exact Kd.R_mono HO168.out (fun _ hk => ⟨hk.1.1.1.1.1.2, hk.1.1.2⟩)⟩, ⟨by (with_reducible repeat (first | apply Kd.R_alloc | apply Kd.R_drewN | apply Kd.R_drew)); exact Kd.R_mono HO175.out (fun _ hk => ⟨hk.1.1.1.1.1.1.2, hk.1.1.2⟩)⟩, ⟨by (with_reducible repeat (first | apply Kd.R_alloc | apply Kd.R_drewN | apply Kd.R_drew)); exact Kd.R_mono HO188.out (fun _ hk => ⟨hk.1.1.1.1.1.1.2, hk.1.1.1.1.2⟩)⟩, ⟨by repeat (first | (with_reducible first | exact HB.out | apply below_alloc | apply pw_below_drewN | apply below_drew1) | exact HB.out)⟩⟩
        case rest =>
          clear HC10
          try clear c1
          try clear c2
          try clear p2
          try clear c4
          try clear c4b0
          try clear c4b1
          try clear c6
          try clear c6b0
          try clear c6b1
          try clear c10
          try clear c19
          try clear c20
          try clear c24
          try clear c27
          try clear c27b0
          try clear c27b1
          obtain ⟨kq, x59_9, rfl, HA, HJ9, HO_1, HO_3, HO_8, HB⟩ := hcut
          cases kq with
          | zero => exact absurd HA.out (by simp [gazetteerlaw8_SealKnown.j0])
          | succ kj9 =>
            have H := HA.out
            clear HA
            simp only [gazetteerlaw8_SealKnown.j0] at H
            by_cases c29 : x59_9 = true
            · subst c29
              have H1 : (some false) = some r := by rw [if_pos rfl] at H; exact H
              clear H
              have H := H1
              clear H1
              exact absurd H (by rw [HLT.out]; repeat' first | (with_reducible exact dead_none) | (with_reducible exact dead_false) | (with_reducible refine dead_ite ?_ ?_) | (with_reducible refine dead_bind (fun _ => ?_)) | (refine dead_ite ?_ ?_) | (refine dead_bind (fun _ => ?_)) | (simp; done))
            · replace c29 := Bool.eq_false_iff.mpr c29
              subst c29
              have H1 : (if 6 ≤ (t165.length : Int) then ((seal_Open.f kj9 (t165.take 6)).bind fun bt202 => ((some (([] : List Int) : List Int)).bind fun y208 => (if y208.length + t165.length < 140737488355328 then ((some (y208 ++ t165 : List Int)).bind fun y211 => (if 9 ≤ (t165.length : Int) then ((some (t165.take 9 : List Int)).bind fun y214 => (if y211.length + y214.length < 140737488355328 then ((seal_All.f kj9 (y211 ++ y214)).bind fun bt221 => ((seal_Sum.f kj9 (([87, 105, 107, 105, 112, 101, 100, 105, 97] : List Int))).bind fun t228 => (if t228 = 300286872 then ((seal_Sum.f kj9 ([] : List Int)).bind fun t229 => (if t229 = 1 then (if 0 < (t165.length : Int) then (if (rd t165 0) = 0 then (if 1 < (t165.length : Int) then (if (rd t165 1) = 9 then (if 2 < (t165.length : Int) then (if (rd t165 2) = 9 then (if t173 = 0 then (if t180 = 3 then (if t186 = 0 then (if t183 = 1 then (if (t184.length : Int) = 32768 then (if t185 = (t172.length : Int) then (if t195 = 3 then (if bt202.2.2.2 = 7 then (if (bt221.1.length : Int) = 1 then (if bt221.2 = 16 then (if 0 < (bt221.1.length : Int) then (some ((strOfNums (rd_L1 bt221.1 0)).toList == ([9, 87, 105, 107, 105, 112, 101, 100, 105, 97] : List UInt8))) else (none)) else (some false)) else (some false)) else (some false)) else (some false)) else (some false)) else (some false)) else (some false)) else (some false)) else (some false)) else (some false)) else (some false)) else (none)) else (some false)) else (none)) else (some false)) else (none)) else (some false))) else (some false)))) else (none))) else (none))) else (none)))) else (none)) = some r := by rw [if_neg (show ¬ (false = true) by decide)] at H; exact H
              clear H
              have H := H1
              clear H1
              by_cases c30 : 6 ≤ (t165.length : Int)
              · rw [if_pos c30] at H
                have c30b0 := eq_true c30
                have c30b1 : decide (6 ≤ (t165.length : Int)) = true := decide_eq_true c30
                clear c30
                obtain ⟨y198, hy198⟩ : ∃ y_ : List Int, y_ = (t165.take 6) := ⟨_, rfl⟩
                replace H : ((seal_Open.f kj9 y198).bind fun bt202 => ((some (([] : List Int) : List Int)).bind fun y208 => (if y208.length + t165.length < 140737488355328 then ((some (y208 ++ t165 : List Int)).bind fun y211 => (if 9 ≤ (t165.length : Int) then ((some (t165.take 9 : List Int)).bind fun y214 => (if y211.length + y214.length < 140737488355328 then ((seal_All.f kj9 (y211 ++ y214)).bind fun bt221 => ((seal_Sum.f kj9 (([87, 105, 107, 105, 112, 101, 100, 105, 97] : List Int))).bind fun t228 => (if t228 = 300286872 then ((seal_Sum.f kj9 ([] : List Int)).bind fun t229 => (if t229 = 1 then (if 0 < (t165.length : Int) then (if (rd t165 0) = 0 then (if 1 < (t165.length : Int) then (if (rd t165 1) = 9 then (if 2 < (t165.length : Int) then (if (rd t165 2) = 9 then (if t173 = 0 then (if t180 = 3 then (if t186 = 0 then (if t183 = 1 then (if (t184.length : Int) = 32768 then (if t185 = (t172.length : Int) then (if t195 = 3 then (if bt202.2.2.2 = 7 then (if (bt221.1.length : Int) = 1 then (if bt221.2 = 16 then (if 0 < (bt221.1.length : Int) then (some ((strOfNums (rd_L1 bt221.1 0)).toList == ([9, 87, 105, 107, 105, 112, 101, 100, 105, 97] : List UInt8))) else (none)) else (some false)) else (some false)) else (some false)) else (some false)) else (some false)) else (some false)) else (some false)) else (some false)) else (some false)) else (some false)) else (some false)) else (none)) else (some false)) else (none)) else (some false)) else (none)) else (some false))) else (some false)))) else (none))) else (none))) else (none)))) = some r := by first | (rw [hy198]; with_reducible exact H) | (have H2_ := (Option.bind_some _ _).symm.trans H; rw [hy198]; with_reducible exact H2_) | (have H2_ := (Option.bind_some _ _).symm.trans H; with_reducible exact H2_) | with_reducible exact H | (rw [hy198]; exact H) | exact H
                have Ny198 := Aside0.mk hy198
                clear hy198
                replace H := Option.bind_eq_some_iff.mp H
                obtain ⟨⟨t202, t203, t204, t205⟩, A310, H⟩ := H
                replace H : ((some (([] : List Int) : List Int)).bind fun y208 => (if y208.length + t165.length < 140737488355328 then ((some (y208 ++ t165 : List Int)).bind fun y211 => (if 9 ≤ (t165.length : Int) then ((some (t165.take 9 : List Int)).bind fun y214 => (if y211.length + y214.length < 140737488355328 then ((seal_All.f kj9 (y211 ++ y214)).bind fun bt221 => ((seal_Sum.f kj9 (([87, 105, 107, 105, 112, 101, 100, 105, 97] : List Int))).bind fun t228 => (if t228 = 300286872 then ((seal_Sum.f kj9 ([] : List Int)).bind fun t229 => (if t229 = 1 then (if 0 < (t165.length : Int) then (if (rd t165 0) = 0 then (if 1 < (t165.length : Int) then (if (rd t165 1) = 9 then (if 2 < (t165.length : Int) then (if (rd t165 2) = 9 then (if t173 = 0 then (if t180 = 3 then (if t186 = 0 then (if t183 = 1 then (if (t184.length : Int) = 32768 then (if t185 = (t172.length : Int) then (if t195 = 3 then (if t205 = 7 then (if (bt221.1.length : Int) = 1 then (if bt221.2 = 16 then (if 0 < (bt221.1.length : Int) then (some ((strOfNums (rd_L1 bt221.1 0)).toList == ([9, 87, 105, 107, 105, 112, 101, 100, 105, 97] : List UInt8))) else (none)) else (some false)) else (some false)) else (some false)) else (some false)) else (some false)) else (some false)) else (some false)) else (some false)) else (some false)) else (some false)) else (some false)) else (none)) else (some false)) else (none)) else (some false)) else (none)) else (some false))) else (some false)))) else (none))) else (none))) else (none))) = some r := H
                have A31 := Aside0.mk A310
                clear A310
                obtain ⟨y208, hy208⟩ : ∃ y_ : List Int, y_ = (([] : List Int)) := ⟨_, rfl⟩
                replace H : (if y208.length + t165.length < 140737488355328 then ((some (y208 ++ t165 : List Int)).bind fun y211 => (if 9 ≤ (t165.length : Int) then ((some (t165.take 9 : List Int)).bind fun y214 => (if y211.length + y214.length < 140737488355328 then ((seal_All.f kj9 (y211 ++ y214)).bind fun bt221 => ((seal_Sum.f kj9 (([87, 105, 107, 105, 112, 101, 100, 105, 97] : List Int))).bind fun t228 => (if t228 = 300286872 then ((seal_Sum.f kj9 ([] : List Int)).bind fun t229 => (if t229 = 1 then (if 0 < (t165.length : Int) then (if (rd t165 0) = 0 then (if 1 < (t165.length : Int) then (if (rd t165 1) = 9 then (if 2 < (t165.length : Int) then (if (rd t165 2) = 9 then (if t173 = 0 then (if t180 = 3 then (if t186 = 0 then (if t183 = 1 then (if (t184.length : Int) = 32768 then (if t185 = (t172.length : Int) then (if t195 = 3 then (if t205 = 7 then (if (bt221.1.length : Int) = 1 then (if bt221.2 = 16 then (if 0 < (bt221.1.length : Int) then (some ((strOfNums (rd_L1 bt221.1 0)).toList == ([9, 87, 105, 107, 105, 112, 101, 100, 105, 97] : List UInt8))) else (none)) else (some false)) else (some false)) else (some false)) else (some false)) else (some false)) else (some false)) else (some false)) else (some false)) else (some false)) else (some false)) else (some false)) else (none)) else (some false)) else (none)) else (some false)) else (none)) else (some false))) else (some false)))) else (none))) else (none))) else (none)) = some r := by first | (rw [hy208]; with_reducible exact H) | (have H2_ := (Option.bind_some _ _).symm.trans H; rw [hy208]; with_reducible exact H2_) | (have H2_ := (Option.bind_some _ _).symm.trans H; with_reducible exact H2_) | with_reducible exact H | (rw [hy208]; exact H) | exact H
                have Ny208 := Aside0.mk hy208
                clear hy208
                by_cases c32 : y208.length + t165.length < 140737488355328
                · rw [if_pos c32] at H
                  have LMc32 := Aside0.mk c32
                  clear c32
                  obtain ⟨y211, hy211⟩ : ∃ y_ : List Int, y_ = (y208 ++ t165) := ⟨_, rfl⟩
                  replace H : (if 9 ≤ (t165.length : Int) then ((some (t165.take 9 : List Int)).bind fun y214 => (if y211.length + y214.length < 140737488355328 then ((seal_All.f kj9 (y211 ++ y214)).bind fun bt221 => ((seal_Sum.f kj9 (([87, 105, 107, 105, 112, 101, 100, 105, 97] : List Int))).bind fun t228 => (if t228 = 300286872 then ((seal_Sum.f kj9 ([] : List Int)).bind fun t229 => (if t229 = 1 then (if 0 < (t165.length : Int) then (if (rd t165 0) = 0 then (if 1 < (t165.length : Int) then (if (rd t165 1) = 9 then (if 2 < (t165.length : Int) then (if (rd t165 2) = 9 then (if t173 = 0 then (if t180 = 3 then (if t186 = 0 then (if t183 = 1 then (if (t184.length : Int) = 32768 then (if t185 = (t172.length : Int) then (if t195 = 3 then (if t205 = 7 then (if (bt221.1.length : Int) = 1 then (if bt221.2 = 16 then (if 0 < (bt221.1.length : Int) then (some ((strOfNums (rd_L1 bt221.1 0)).toList == ([9, 87, 105, 107, 105, 112, 101, 100, 105, 97] : List UInt8))) else (none)) else (some false)) else (some false)) else (some false)) else (some false)) else (some false)) else (some false)) else (some false)) else (some false)) else (some false)) else (some false)) else (some false)) else (none)) else (some false)) else (none)) else (some false)) else (none)) else (some false))) else (some false)))) else (none))) else (none)) = some r := by first | (rw [hy211]; with_reducible exact H) | (have H2_ := (Option.bind_some _ _).symm.trans H; rw [hy211]; with_reducible exact H2_) | (have H2_ := (Option.bind_some _ _).symm.trans H; with_reducible exact H2_) | with_reducible exact H | (rw [hy211]; exact H) | exact H
                  have Ny211 := Aside0.mk hy211
                  clear hy211
                  by_cases c33 : 9 ≤ (t165.length : Int)
                  · rw [if_pos c33] at H
                    have c33b0 := eq_true c33
                    have c33b1 : decide (9 ≤ (t165.length : Int)) = true := decide_eq_true c33
                    clear c33
                    obtain ⟨y214, hy214⟩ : ∃ y_ : List Int, y_ = (t165.take 9) := ⟨_, rfl⟩
                    replace H : (if y211.length + y214.length < 140737488355328 then ((seal_All.f kj9 (y211 ++ y214)).bind fun bt221 => ((seal_Sum.f kj9 (([87, 105, 107, 105, 112, 101, 100, 105, 97] : List Int))).bind fun t228 => (if t228 = 300286872 then ((seal_Sum.f kj9 ([] : List Int)).bind fun t229 => (if t229 = 1 then (if 0 < (t165.length : Int) then (if (rd t165 0) = 0 then (if 1 < (t165.length : Int) then (if (rd t165 1) = 9 then (if 2 < (t165.length : Int) then (if (rd t165 2) = 9 then (if t173 = 0 then (if t180 = 3 then (if t186 = 0 then (if t183 = 1 then (if (t184.length : Int) = 32768 then (if t185 = (t172.length : Int) then (if t195 = 3 then (if t205 = 7 then (if (bt221.1.length : Int) = 1 then (if bt221.2 = 16 then (if 0 < (bt221.1.length : Int) then (some ((strOfNums (rd_L1 bt221.1 0)).toList == ([9, 87, 105, 107, 105, 112, 101, 100, 105, 97] : List UInt8))) else (none)) else (some false)) else (some false)) else (some false)) else (some false)) else (some false)) else (some false)) else (some false)) else (some false)) else (some false)) else (some false)) else (some false)) else (none)) else (some false)) else (none)) else (some false)) else (none)) else (some false))) else (some false)))) else (none)) = some r := by first | (rw [hy214]; with_reducible exact H) | (have H2_ := (Option.bind_some _ _).symm.trans H; rw [hy214]; with_reducible exact H2_) | (have H2_ := (Option.bind_some _ _).symm.trans H; with_reducible exact H2_) | with_reducible exact H | (rw [hy214]; exact H) | exact H
                    have Ny214 := Aside0.mk hy214
                    clear hy214
                    by_cases c34 : y211.length + y214.length < 140737488355328
                    · rw [if_pos c34] at H
                      have LMc34 := Aside0.mk c34
                      clear c34
                      obtain ⟨y218, hy218⟩ : ∃ y_ : List Int, y_ = (y211 ++ y214) := ⟨_, rfl⟩
                      replace H : ((seal_All.f kj9 y218).bind fun bt221 => ((seal_Sum.f kj9 (([87, 105, 107, 105, 112, 101, 100, 105, 97] : List Int))).bind fun t228 => (if t228 = 300286872 then ((seal_Sum.f kj9 ([] : List Int)).bind fun t229 => (if t229 = 1 then (if 0 < (t165.length : Int) then (if (rd t165 0) = 0 then (if 1 < (t165.length : Int) then (if (rd t165 1) = 9 then (if 2 < (t165.length : Int) then (if (rd t165 2) = 9 then (if t173 = 0 then (if t180 = 3 then (if t186 = 0 then (if t183 = 1 then (if (t184.length : Int) = 32768 then (if t185 = (t172.length : Int) then (if t195 = 3 then (if t205 = 7 then (if (bt221.1.length : Int) = 1 then (if bt221.2 = 16 then (if 0 < (bt221.1.length : Int) then (some ((strOfNums (rd_L1 bt221.1 0)).toList == ([9, 87, 105, 107, 105, 112, 101, 100, 105, 97] : List UInt8))) else (none)) else (some false)) else (some false)) else (some false)) else (some false)) else (some false)) else (some false)) else (some false)) else (some false)) else (some false)) else (some false)) else (some false)) else (none)) else (some false)) else (none)) else (some false)) else (none)) else (some false))) else (some false)))) = some r := by first | (rw [hy218]; with_reducible exact H) | (have H2_ := (Option.bind_some _ _).symm.trans H; rw [hy218]; with_reducible exact H2_) | (have H2_ := (Option.bind_some _ _).symm.trans H; with_reducible exact H2_) | with_reducible exact H | (rw [hy218]; exact H) | exact H
                      have Ny218 := Aside0.mk hy218
                      clear hy218
                      replace H := Option.bind_eq_some_iff.mp H
                      obtain ⟨⟨t221, t222⟩, A350, H⟩ := H
                      replace H : ((seal_Sum.f kj9 (([87, 105, 107, 105, 112, 101, 100, 105, 97] : List Int))).bind fun t228 => (if t228 = 300286872 then ((seal_Sum.f kj9 ([] : List Int)).bind fun t229 => (if t229 = 1 then (if 0 < (t165.length : Int) then (if (rd t165 0) = 0 then (if 1 < (t165.length : Int) then (if (rd t165 1) = 9 then (if 2 < (t165.length : Int) then (if (rd t165 2) = 9 then (if t173 = 0 then (if t180 = 3 then (if t186 = 0 then (if t183 = 1 then (if (t184.length : Int) = 32768 then (if t185 = (t172.length : Int) then (if t195 = 3 then (if t205 = 7 then (if (t221.length : Int) = 1 then (if t222 = 16 then (if 0 < (t221.length : Int) then (some ((strOfNums (rd_L1 t221 0)).toList == ([9, 87, 105, 107, 105, 112, 101, 100, 105, 97] : List UInt8))) else (none)) else (some false)) else (some false)) else (some false)) else (some false)) else (some false)) else (some false)) else (some false)) else (some false)) else (some false)) else (some false)) else (some false)) else (none)) else (some false)) else (none)) else (some false)) else (none)) else (some false))) else (some false))) = some r := H
                      have A35 := Aside0.mk A350
                      clear A350
                      obtain ⟨y225, hy225⟩ : ∃ y_ : List Int, y_ = (([87, 105, 107, 105, 112, 101, 100, 105, 97] : List Int)) := ⟨_, rfl⟩
                      replace H : ((seal_Sum.f kj9 y225).bind fun t228 => (if t228 = 300286872 then ((seal_Sum.f kj9 ([] : List Int)).bind fun t229 => (if t229 = 1 then (if 0 < (t165.length : Int) then (if (rd t165 0) = 0 then (if 1 < (t165.length : Int) then (if (rd t165 1) = 9 then (if 2 < (t165.length : Int) then (if (rd t165 2) = 9 then (if t173 = 0 then (if t180 = 3 then (if t186 = 0 then (if t183 = 1 then (if (t184.length : Int) = 32768 then (if t185 = (t172.length : Int) then (if t195 = 3 then (if t205 = 7 then (if (t221.length : Int) = 1 then (if t222 = 16 then (if 0 < (t221.length : Int) then (some ((strOfNums (rd_L1 t221 0)).toList == ([9, 87, 105, 107, 105, 112, 101, 100, 105, 97] : List UInt8))) else (none)) else (some false)) else (some false)) else (some false)) else (some false)) else (some false)) else (some false)) else (some false)) else (some false)) else (some false)) else (some false)) else (some false)) else (none)) else (some false)) else (none)) else (some false)) else (none)) else (some false))) else (some false))) = some r := by first | (rw [hy225]; with_reducible exact H) | (have H2_ := (Option.bind_some _ _).symm.trans H; rw [hy225]; with_reducible exact H2_) | (have H2_ := (Option.bind_some _ _).symm.trans H; with_reducible exact H2_) | with_reducible exact H | (rw [hy225]; exact H) | exact H
                      have Ny225 := Aside0.mk hy225
                      clear hy225
                      replace H := Option.bind_eq_some_iff.mp H
                      obtain ⟨t228, A360, H⟩ := H
                      replace H : (if t228 = 300286872 then ((seal_Sum.f kj9 ([] : List Int)).bind fun t229 => (if t229 = 1 then (if 0 < (t165.length : Int) then (if (rd t165 0) = 0 then (if 1 < (t165.length : Int) then (if (rd t165 1) = 9 then (if 2 < (t165.length : Int) then (if (rd t165 2) = 9 then (if t173 = 0 then (if t180 = 3 then (if t186 = 0 then (if t183 = 1 then (if (t184.length : Int) = 32768 then (if t185 = (t172.length : Int) then (if t195 = 3 then (if t205 = 7 then (if (t221.length : Int) = 1 then (if t222 = 16 then (if 0 < (t221.length : Int) then (some ((strOfNums (rd_L1 t221 0)).toList == ([9, 87, 105, 107, 105, 112, 101, 100, 105, 97] : List UInt8))) else (none)) else (some false)) else (some false)) else (some false)) else (some false)) else (some false)) else (some false)) else (some false)) else (some false)) else (some false)) else (some false)) else (some false)) else (none)) else (some false)) else (none)) else (some false)) else (none)) else (some false))) else (some false)) = some r := H
                      have A36 := Aside0.mk A360
                      clear A360
                      by_cases c37 : t228 = 300286872
                      · rw [if_pos c37] at H
                        have c37b0 : (t228 == 300286872) = true := beq_iff_eq.mpr c37
                        have c37b1 : (t228 != 300286872) = false := bne_eq_false_iff_eq.mpr c37
                        clear c37
                        replace H := Option.bind_eq_some_iff.mp H
                        obtain ⟨t229, A380, H⟩ := H
                        replace H : (if t229 = 1 then (if 0 < (t165.length : Int) then (if (rd t165 0) = 0 then (if 1 < (t165.length : Int) then (if (rd t165 1) = 9 then (if 2 < (t165.length : Int) then (if (rd t165 2) = 9 then (if t173 = 0 then (if t180 = 3 then (if t186 = 0 then (if t183 = 1 then (if (t184.length : Int) = 32768 then (if t185 = (t172.length : Int) then (if t195 = 3 then (if t205 = 7 then (if (t221.length : Int) = 1 then (if t222 = 16 then (if 0 < (t221.length : Int) then (some ((strOfNums (rd_L1 t221 0)).toList == ([9, 87, 105, 107, 105, 112, 101, 100, 105, 97] : List UInt8))) else (none)) else (some false)) else (some false)) else (some false)) else (some false)) else (some false)) else (some false)) else (some false)) else (some false)) else (some false)) else (some false)) else (some false)) else (none)) else (some false)) else (none)) else (some false)) else (none)) else (some false)) = some r := H
                        have A38 := Aside0.mk A380
                        clear A380
                        by_cases c39 : t229 = 1
                        · rw [if_pos c39] at H
                          have c39b0 : (t229 == 1) = true := beq_iff_eq.mpr c39
                          have c39b1 : (t229 != 1) = false := bne_eq_false_iff_eq.mpr c39
                          clear c39
                          by_cases c40 : 0 < (t165.length : Int)
                          · rw [if_pos c40] at H
                            have c40b0 : decide (0 < (t165.length : Int)) = true := decide_eq_true c40
                            have c40b1 : decide (0 < t165.length) = true := decide_eq_true (by omega)
                            clear c40
                            by_cases c41 : (rd t165 0) = 0
                            · rw [if_pos c41] at H
                              have c41b0 : ((rd t165 0) == 0) = true := beq_iff_eq.mpr c41
                              have c41b1 : ((rd t165 0) != 0) = false := bne_eq_false_iff_eq.mpr c41
                              clear c41
                              by_cases c42 : 1 < (t165.length : Int)
                              · rw [if_pos c42] at H
                                have c42b0 : decide (1 < (t165.length : Int)) = true := decide_eq_true c42
                                have c42b1 : decide (1 < t165.length) = true := decide_eq_true (by omega)
                                clear c42
                                by_cases c43 : (rd t165 1) = 9
                                · rw [if_pos c43] at H
                                  have c43b0 : ((rd t165 1) == 9) = true := beq_iff_eq.mpr c43
                                  have c43b1 : ((rd t165 1) != 9) = false := bne_eq_false_iff_eq.mpr c43
                                  clear c43
                                  by_cases c44 : 2 < (t165.length : Int)
                                  · rw [if_pos c44] at H
                                    have c44b0 : decide (2 < (t165.length : Int)) = true := decide_eq_true c44
                                    have c44b1 : decide (2 < t165.length) = true := decide_eq_true (by omega)
                                    clear c44
                                    by_cases c45 : (rd t165 2) = 9
                                    · rw [if_pos c45] at H
                                      have c45b0 : ((rd t165 2) == 9) = true := beq_iff_eq.mpr c45
                                      have c45b1 : ((rd t165 2) != 9) = false := bne_eq_false_iff_eq.mpr c45
                                      clear c45
                                      by_cases c46 : t173 = 0
                                      · rw [if_pos c46] at H
                                        have c46b0 : (t173 == 0) = true := beq_iff_eq.mpr c46
                                        have c46b1 : (t173 != 0) = false := bne_eq_false_iff_eq.mpr c46
                                        clear c46
                                        by_cases c47 : t180 = 3
                                        · rw [if_pos c47] at H
                                          have c47b0 : (t180 == 3) = true := beq_iff_eq.mpr c47
                                          have c47b1 : (t180 != 3) = false := bne_eq_false_iff_eq.mpr c47
                                          clear c47
                                          by_cases c48 : t186 = 0
                                          · rw [if_pos c48] at H
                                            have c48b0 : (t186 == 0) = true := beq_iff_eq.mpr c48
                                            have c48b1 : (t186 != 0) = false := bne_eq_false_iff_eq.mpr c48
                                            clear c48
                                            by_cases c49 : t183 = 1
                                            · rw [if_pos c49] at H
                                              have c49b0 : (t183 == 1) = true := beq_iff_eq.mpr c49
                                              have c49b1 : (t183 != 1) = false := bne_eq_false_iff_eq.mpr c49
                                              clear c49
                                              by_cases c50 : (t184.length : Int) = 32768
                                              · rw [if_pos c50] at H
                                                have c50b0 : ((t184.length : Int) == 32768) = true := beq_iff_eq.mpr c50
                                                have c50b1 : ((t184.length : Int) != 32768) = false := bne_eq_false_iff_eq.mpr c50
                                                clear c50
                                                by_cases c51 : t185 = (t172.length : Int)
                                                · rw [if_pos c51] at H
                                                  have c51b0 : (t185 == (t172.length : Int)) = true := beq_iff_eq.mpr c51
                                                  have c51b1 : (t185 != (t172.length : Int)) = false := bne_eq_false_iff_eq.mpr c51
                                                  clear c51
                                                  by_cases c52 : t195 = 3
                                                  · rw [if_pos c52] at H
                                                    have c52b0 : (t195 == 3) = true := beq_iff_eq.mpr c52
                                                    have c52b1 : (t195 != 3) = false := bne_eq_false_iff_eq.mpr c52
                                                    clear c52
                                                    by_cases c53 : t205 = 7
                                                    · rw [if_pos c53] at H
                                                      have c53b0 : (t205 == 7) = true := beq_iff_eq.mpr c53
                                                      have c53b1 : (t205 != 7) = false := bne_eq_false_iff_eq.mpr c53
                                                      clear c53
                                                      by_cases c54 : (t221.length : Int) = 1
                                                      · rw [if_pos c54] at H
                                                        have c54b0 : ((t221.length : Int) == 1) = true := beq_iff_eq.mpr c54
                                                        have c54b1 : ((t221.length : Int) != 1) = false := bne_eq_false_iff_eq.mpr c54
                                                        clear c54
                                                        by_cases c55 : t222 = 16
                                                        · rw [if_pos c55] at H
                                                          have c55b0 : (t222 == 16) = true := beq_iff_eq.mpr c55
                                                          have c55b1 : (t222 != 16) = false := bne_eq_false_iff_eq.mpr c55
                                                          clear c55
                                                          by_cases c56 : 0 < (t221.length : Int)
                                                          · rw [if_pos c56] at H
                                                            have c56b0 : decide (0 < (t221.length : Int)) = true := decide_eq_true c56
                                                            have c56b1 : decide (0 < t221.length) = true := decide_eq_true (by omega)
                                                            clear c56
                                                            obtain rfl := Option.some.inj H
                                                            obtain ⟨Ao58, co58, eo58⟩ := Kd.R_slice HO_1.out
                                                            subst eo58
                                                            have q57 : (6 : Int) ≤ ((t165.length : Int) : Int) := of_decide_eq_true (by first | (with_reducible assumption) | assumption)
                                                            obtain ⟨i057, hi057, _, hsz57, _⟩ := info_parts info5
                                                            have hroom57 : t165.length ≤ co58 := (Kd.R_reads' HO_1.out).2.1
                                                            have hC57 : Kd.C (Kd.int .u8) _ Ao58 t165.length t165 := (Kd.R_reads' HO_1.out).2.2
                                                            have hcut57 := cut_to (P := Try.prog) 22 5 .i64 Try.underlying22 hi057 Ao58 t165.length co58 6 (by omega) q57 hroom57
                                                            have hr57 := Kd.C_take (m := 6) hC57 (by omega)
                                                            have hy57 : y198.length = (6 : Int).toNat := (by rw [Ny198.out, List.length_take]; omega)
                                                            rw [← Ny198.out] at hr57
                                                            rw [← hy57] at hcut57
                                                            have HR201 := Aside0.mk hr57
                                                            have HC201 := Aside0.mk (show y198.length ≤ co58 from by omega)
                                                            clear hr57 hC57 hroom57 hi057 hsz57
                                                            have KY57 := Aside0.mk hy57
                                                            clear hy57
                                                            have KL57 := Aside0.mk (show 6 ≤ t165.length from by omega)
                                                            replace q57 := eq_true q57
                                                            try go_wp2_with (first | ((with_reducible refine gate_callee (f := 24) rfl ?_); refine goesL_ (some 63) rfl rfl Try.func24 (by kernel_rfl) rfl #[.slice Ao58 y198.length co58] rfl (by (try simp only [List.map_toArray, List.map_cons, List.map_nil]); first | done | rfl | (simp only [List.length_drop, List.length_take]; done) | (simp only [List.length_drop, List.length_take]; rfl)) ?_; (with_reducible refine (seal_Open.calls kj9 _ _ y198 t202 t203 t204 t205 _ ?side1 ?side2 A31.out).mono ?_); (case side1 => repeat (first | exact (by repeat (first | (with_reducible exact HR201.out) | (with_reducible refine Kd.C_alloc ?_ _) | (with_reducible refine Kd.C_drewN ?_ _) | (with_reducible refine Kd.C_drew ?_) | exact HR201.out)) | (with_reducible refine Kd.C_alloc ?_ _) | (with_reducible refine Kd.C_drewN ?_ _) | (with_reducible refine Kd.C_drew ?_))); (case side2 => exact HC201.out); rintro e w59 ⟨v206, rfl, ho0, hb⟩; refine ⟨_, rfl, ?_⟩; have n0_ := Aside0.mk (Kd.R_elder' (by (with_reducible repeat (first | apply Kd.R_alloc | apply Kd.R_drewN | apply Kd.R_drew)); exact HO_1.out) (Kd.R_base ho0) hb); have n1_ := Aside0.mk (Kd.R_elder' (by (with_reducible repeat (first | apply Kd.R_alloc | apply Kd.R_drewN | apply Kd.R_drew)); exact HO_3.out) (Kd.R_base ho0) hb); have n2_ := Aside0.mk (Kd.R_elder' (by (with_reducible repeat (first | apply Kd.R_alloc | apply Kd.R_drewN | apply Kd.R_drew)); exact HO_8.out) (Kd.R_base ho0) hb); have n3_ := Aside0.mk (Kd.R_lower (Kd.R_new' (Kd.R_new' (Kd.R_new' ho0 (Kd.R_lt (by (with_reducible repeat (first | apply Kd.R_alloc | apply Kd.R_drewN | apply Kd.R_drew)); exact HO_1.out))) (Kd.R_lt (by (with_reducible repeat (first | apply Kd.R_alloc | apply Kd.R_drewN | apply Kd.R_drew)); exact HO_3.out))) (Kd.R_lt (by (with_reducible repeat (first | apply Kd.R_alloc | apply Kd.R_drewN | apply Kd.R_drew)); exact HO_8.out))) (below_size (by repeat (first | (with_reducible first | exact HB.out | apply below_alloc | apply pw_below_drewN | apply below_drew1) | exact HB.out)))); have n4_ := Aside0.mk (Kd.C_below (by repeat (first | (with_reducible exact HR201.out) | (with_reducible refine Kd.C_alloc ?_ _) | (with_reducible refine Kd.C_drewN ?_ _) | (with_reducible refine Kd.C_drew ?_) | exact HR201.out)) hb); have n5_ := Aside0.mk (below_step (by repeat (first | (with_reducible first | exact HB.out | apply below_alloc | apply pw_below_drewN | apply below_drew1) | exact HB.out)) hb); clear HO_1; clear HO_3; clear HO_8; clear HR201; clear HB; have HO_1 := n0_; have HO_3 := n1_; have HO_8 := n2_; have HO207 := n3_; have HR201 := n4_; have HB := n5_; clear n0_ n1_ n2_ n3_ n4_ n5_; (try clear hb); (try clear hb2); (try clear hk); (try clear hi); (try clear ho0)))
                                                            have n0_ := Aside0.mk (Kd.R_drew HO_1.out)
                                                            have n1_ := Aside0.mk (Kd.R_drew HO_3.out)
                                                            have n2_ := Aside0.mk (Kd.R_drew HO_8.out)
                                                            have n3_ := Aside0.mk (Kd.R_drew HO207.out)
                                                            have n4_ := Aside0.mk (Kd.C_drew HR201.out)
                                                            have n5_ := Aside0.mk (below_drew1 HB.out)
                                                            clear HO_1
                                                            clear HO_3
                                                            clear HO_8
                                                            clear HO207
                                                            clear HR201
                                                            clear HB
                                                            have HO_1 := n0_
                                                            have HO_3 := n1_
                                                            have HO_8 := n2_
                                                            have HO207 := n3_
                                                            have HR201 := n4_
                                                            have HB := n5_
                                                            clear n0_ n1_ n2_ n3_ n4_ n5_
                                                            have q61 : (9 : Int) ≤ ((t165.length : Int) : Int) := of_decide_eq_true (by first | (with_reducible assumption) | assumption)
                                                            obtain ⟨i061, hi061, _, hsz61, _⟩ := info_parts info5
                                                            have hroom61 : t165.length ≤ co58 := (Kd.R_reads' HO_1.out).2.1
                                                            have hC61 : Kd.C (Kd.int .u8) _ Ao58 t165.length t165 := (Kd.R_reads' HO_1.out).2.2
                                                            have hcut61 := cut_to (P := Try.prog) 22 5 .i64 Try.underlying22 hi061 Ao58 t165.length co58 9 (by omega) q61 hroom61
                                                            have hr61 := Kd.C_take (m := 9) hC61 (by omega)
                                                            have hy61 : y214.length = (9 : Int).toNat := (by rw [Ny214.out, List.length_take]; omega)
                                                            rw [← Ny214.out] at hr61
                                                            rw [← hy61] at hcut61
                                                            have HR217 := Aside0.mk hr61
                                                            have HC217 := Aside0.mk (show y214.length ≤ co58 from by omega)
                                                            clear hr61 hC61 hroom61 hi061 hsz61
                                                            have KY61 := Aside0.mk hy61
                                                            clear hy61
                                                            have KL61 := Aside0.mk (show 9 ≤ t165.length from by omega)
                                                            replace q61 := eq_true q61
                                                            refine start_ (n := 12) (S := fun w' => True) (ds := []) #[false, false, false, false, false, false, false, false, false, false, false, false] (by kernel_rfl) rfl rfl trivial (fun hHeld => ?_); refine with_tabW gazetteerlaw8_SealKnown.tab11 gazetteerlaw8_SealKnown.bits11 (fun HT_ HW_ => ?_)
                                                            generalize w59.drew = w60 at HO_1 HO_3 HO_8 HO207 HR201 HB HR217 hHeld ⊢
                                                            refine pure_ (i := 1) (N := some 70) (v := ?_) (a' := ?_) #[false, true, false, false, false, false, false, false, false, false, false, false] rfl rfl (any_of HT_.out (by kernel_rfl)) (fun _ _ _ h => h) (Or.inl ⟨by rfl, ?_⟩) ?_ ?_
                                                            rotate_left
                                                            · intro w'
                                                              go_simp
                                                              with_reducible rfl
                                                            rotate_left
                                                            · simp only [Act.put, List.setIfInBounds_toArray, List.set_cons_zero, List.set_cons_succ, i64_w, i32_w]
                                                              rfl
                                                            refine pure_ (i := 3) (N := some 72) (v := ?_) (a' := ?_) #[false, true, false, true, false, false, false, false, false, false, false, false] rfl rfl (any_of HT_.out (by kernel_rfl)) (fun _ _ _ h => h) (Or.inl ⟨by rfl, ?_⟩) ?_ ?_
                                                            rotate_left
                                                            · intro w'
                                                              go_simp
                                                              with_reducible rfl
                                                            rotate_left
                                                            · simp only [Act.put, List.setIfInBounds_toArray, List.set_cons_zero, List.set_cons_succ, i64_w, i32_w]
                                                              rfl
                                                            refine pure_ (i := 4) (N := some 73) (v := ?_) (a' := ?_) #[false, true, false, true, true, false, false, false, false, false, false, false] rfl rfl (any_of HT_.out (by kernel_rfl)) (fun _ _ _ h => h) (Or.inl ⟨by rfl, ?_⟩) ?_ ?_
                                                            rotate_left
                                                            · intro w'
                                                              go_simp
                                                              with_reducible rfl
                                                            rotate_left
                                                            · simp only [Act.put, List.setIfInBounds_toArray, List.set_cons_zero, List.set_cons_succ, i64_w, i32_w]
                                                              rfl
                                                            refine one_ (i := 0) (N := some 69) #[true, true, false, true, true, false, false, false, false, false, false, false] rfl rfl (one_of HT_.out (by kernel_rfl)) (by decide) (fun K hK => ?_)
                                                            refine Kd.R_lit_step (Kd.int .u8) _ 5 ?hg (N := 69) ?hd (xs := ([] : List Int)) (inner := []) (ok := fun _ => True) (okp := fun _ => True) ?hr ?hp (fun _ hk => hk) trivial (Below.refl _ _) (Nat.le_refl _) (by simp) ?_; (case hd => rfl); (case hg => rfl); (case hr => first | (go_simp; done) | (go_simp; rfl)); (case hp => exact (Reps.none _ _))
                                                            intro v209 w62 ho63 hb hg_ hnew_
                                                            clear hg_ hnew_
                                                            (first | rw [← Ny208.out] at ho63 | (simp only [Int.reduceToNat] at ho63; rw [← Ny208.out] at ho63))
                                                            have n0_ := Aside0.mk (Kd.R_elder' (by (with_reducible repeat (first | apply Kd.R_alloc | apply Kd.R_drewN | apply Kd.R_drew)); exact HO_1.out) (Kd.R_base ho63) hb)
                                                            have n1_ := Aside0.mk (Kd.R_elder' (by (with_reducible repeat (first | apply Kd.R_alloc | apply Kd.R_drewN | apply Kd.R_drew)); exact HO_3.out) (Kd.R_base ho63) hb)
                                                            have n2_ := Aside0.mk (Kd.R_elder' (by (with_reducible repeat (first | apply Kd.R_alloc | apply Kd.R_drewN | apply Kd.R_drew)); exact HO_8.out) (Kd.R_base ho63) hb)
                                                            have n3_ := Aside0.mk (Kd.R_elder' (by (with_reducible repeat (first | apply Kd.R_alloc | apply Kd.R_drewN | apply Kd.R_drew)); exact HO207.out) (Kd.R_base ho63) hb)
                                                            have n4_ := Aside0.mk (Kd.R_lower (Kd.R_new' (Kd.R_new' (Kd.R_new' (Kd.R_new' ho63 (Kd.R_lt (by (with_reducible repeat (first | apply Kd.R_alloc | apply Kd.R_drewN | apply Kd.R_drew)); exact HO_1.out))) (Kd.R_lt (by (with_reducible repeat (first | apply Kd.R_alloc | apply Kd.R_drewN | apply Kd.R_drew)); exact HO_3.out))) (Kd.R_lt (by (with_reducible repeat (first | apply Kd.R_alloc | apply Kd.R_drewN | apply Kd.R_drew)); exact HO_8.out))) (Kd.R_lt (by (with_reducible repeat (first | apply Kd.R_alloc | apply Kd.R_drewN | apply Kd.R_drew)); exact HO207.out))) (below_size (by repeat (first | (with_reducible first | exact HB.out | apply below_alloc | apply pw_below_drewN | apply below_drew1) | exact HB.out))))
                                                            have n5_ := Aside0.mk (Kd.C_below (by repeat (first | (with_reducible exact HR201.out) | (with_reducible refine Kd.C_alloc ?_ _) | (with_reducible refine Kd.C_drewN ?_ _) | (with_reducible refine Kd.C_drew ?_) | exact HR201.out)) hb)
                                                            have n6_ := Aside0.mk (Kd.C_below (by repeat (first | (with_reducible exact HR217.out) | (with_reducible refine Kd.C_alloc ?_ _) | (with_reducible refine Kd.C_drewN ?_ _) | (with_reducible refine Kd.C_drew ?_) | exact HR217.out)) hb)
                                                            have n7_ := Aside0.mk (below_step (by repeat (first | (with_reducible first | exact HB.out | apply below_alloc | apply pw_below_drewN | apply below_drew1) | exact HB.out)) hb)
                                                            clear HO_1
                                                            clear HO_3
                                                            clear HO_8
                                                            clear HO207
                                                            clear HR201
                                                            clear HR217
                                                            clear HB
                                                            have HO_1 := n0_
                                                            have HO_3 := n1_
                                                            have HO_8 := n2_
                                                            have HO207 := n3_
                                                            have HO210 := n4_
                                                            have HR201 := n5_
                                                            have HR217 := n6_
                                                            have HB := n7_
                                                            clear n0_ n1_ n2_ n3_ n4_ n5_ n6_ n7_
                                                            clear hb ho63
                                                            refine hK.out _ _ trivial (fun hHeld => ?_)
                                                            clear hK K
                                                            refine norm_ (a' := ?_) ?_ ?_
                                                            rotate_left
                                                            · show Act.put _ (some 69) _ = _
                                                              simp only [Act.put, List.setIfInBounds_toArray, List.set_cons_zero, List.set_cons_succ, i64_w, i32_w]
                                                              rfl
                                                            refine one_ (i := 2) (N := some 71) #[true, true, true, true, true, false, false, false, false, false, false, false] rfl rfl (one_of HT_.out (by kernel_rfl)) (by decide) (fun K hK => ?_)
                                                            refine Kd.R_append_rows_step (Kd.int .u8) (w0 := w) w.heap.size (by rfl) (.tmp 69) (.tmp 70) 22 5 (.int .u8 0) 1 rfl Try.underlying22 info5 rfl (by decide) (by omega) v209 y208 t165 _ _ _ (fun k_ => some k_ ≠ (.slice Ao58 t165.length co58 : Value).ownBlock ∧ some k_ ≠ (.slice Ao21 t172.length co21 : Value).ownBlock ∧ some k_ ≠ (v187 : Value).ownBlock ∧ some k_ ≠ (v206 : Value).ownBlock) (fun _ => False) rfl rfl ?aO ?aR (fun _ _ h => h) (fun _ h => h.elim) ?aF ?aB ?aS ?aL ?_
                                                            (case aR => repeat (first | exact (Kd.R_reads' HO_1.out).2.2 | (with_reducible refine Kd.C_alloc ?_ _) | (with_reducible refine Kd.C_drewN ?_ _) | (with_reducible refine Kd.C_drew ?_)))
                                                            (case aB => exact (by repeat (first | (with_reducible first | exact HB.out | apply below_alloc | apply pw_below_drewN | apply below_drew1) | exact HB.out)))
                                                            (case aF => exact (fun k_ hk => ⟨Kd.fresh' (Kd.R_lt (by (with_reducible repeat (first | apply Kd.R_alloc | apply Kd.R_drewN | apply Kd.R_drew)); exact HO_1.out)) k_ hk, Kd.fresh' (Kd.R_lt (by (with_reducible repeat (first | apply Kd.R_alloc | apply Kd.R_drewN | apply Kd.R_drew)); exact HO_3.out)) k_ hk, Kd.fresh' (Kd.R_lt (by (with_reducible repeat (first | apply Kd.R_alloc | apply Kd.R_drewN | apply Kd.R_drew)); exact HO_8.out)) k_ hk, Kd.fresh' (Kd.R_lt (by (with_reducible repeat (first | apply Kd.R_alloc | apply Kd.R_drewN | apply Kd.R_drew)); exact HO207.out)) k_ hk⟩))
                                                            (case aO => exact (by (with_reducible repeat (first | apply Kd.R_alloc | apply Kd.R_drewN | apply Kd.R_drew)); exact Kd.R_mono HO210.out (fun _ hk => ⟨hk.1.1.1.2, ⟨hk.1.1.2, ⟨hk.1.2, hk.2⟩⟩⟩)))
                                                            (case aS => exact (below_size (by repeat (first | (with_reducible first | exact HB.out | apply below_alloc | apply pw_below_drewN | apply below_drew1) | exact HB.out))))
                                                            (case aL => have := LMc32.out; omega)
                                                            intro v212 w64 ho hb hg hat
                                                            rw [← Ny211.out] at ho
                                                            have n0_ := Aside0.mk (Kd.R_after (ok := (fun k_ => some k_ ≠ (.slice Ao21 t172.length co21 : Value).ownBlock ∧ some k_ ≠ (v187 : Value).ownBlock ∧ some k_ ≠ (v206 : Value).ownBlock)) (by (with_reducible repeat (first | apply Kd.R_alloc | apply Kd.R_drewN | apply Kd.R_drew)); exact Kd.R_mono HO_1.out (fun _ hk => ⟨⟨hk.1.1.1, ⟨hk.1.1.2, hk.1.2⟩⟩, hk.2⟩)) hg hat)
                                                            have n1_ := Aside0.mk (Kd.R_after (ok := (fun k_ => some k_ ≠ (.slice Ao58 t165.length co58 : Value).ownBlock ∧ some k_ ≠ (v187 : Value).ownBlock ∧ some k_ ≠ (v206 : Value).ownBlock)) (by (with_reducible repeat (first | apply Kd.R_alloc | apply Kd.R_drewN | apply Kd.R_drew)); exact Kd.R_mono HO_3.out (fun _ hk => ⟨⟨hk.1.1.1, ⟨hk.1.1.2, hk.1.2⟩⟩, hk.2⟩)) hg hat)
                                                            have n2_ := Aside0.mk (Kd.R_after (ok := (fun k_ => some k_ ≠ (.slice Ao58 t165.length co58 : Value).ownBlock ∧ some k_ ≠ (.slice Ao21 t172.length co21 : Value).ownBlock ∧ some k_ ≠ (v206 : Value).ownBlock)) (by (with_reducible repeat (first | apply Kd.R_alloc | apply Kd.R_drewN | apply Kd.R_drew)); exact Kd.R_mono HO_8.out (fun _ hk => ⟨⟨hk.1.1.1, ⟨hk.1.1.2, hk.1.2⟩⟩, hk.2⟩)) hg hat)
                                                            have n3_ := Aside0.mk (Kd.R_after (ok := (fun k_ => some k_ ≠ (.slice Ao58 t165.length co58 : Value).ownBlock ∧ some k_ ≠ (.slice Ao21 t172.length co21 : Value).ownBlock ∧ some k_ ≠ (v187 : Value).ownBlock)) (by (with_reducible repeat (first | apply Kd.R_alloc | apply Kd.R_drewN | apply Kd.R_drew)); exact Kd.R_mono HO207.out (fun _ hk => ⟨⟨hk.1.1.1.2, ⟨hk.1.1.2, hk.1.2⟩⟩, hk.2⟩)) hg hat)
                                                            have n4_ := Aside0.mk (hb)
                                                            have n5_ := Aside0.mk ((show Kd.C (Kd.int .u8) w64 Ao58 y198.length y198 from by rw [Ny198.out]; exact Kd.C_take (m := 6) ((Kd.R_reads' (Kd.R_after (ok := (fun k_ => some k_ ≠ (.slice Ao21 t172.length co21 : Value).ownBlock ∧ some k_ ≠ (v187 : Value).ownBlock ∧ some k_ ≠ (v206 : Value).ownBlock)) (by (with_reducible repeat (first | apply Kd.R_alloc | apply Kd.R_drewN | apply Kd.R_drew)); exact Kd.R_mono HO_1.out (fun _ hk => ⟨⟨hk.1.1.1, ⟨hk.1.1.2, hk.1.2⟩⟩, hk.2⟩)) hg hat)).2.2) KL57.out))
                                                            have n6_ := Aside0.mk ((show Kd.C (Kd.int .u8) w64 Ao58 y214.length y214 from by rw [Ny214.out]; exact Kd.C_take (m := 9) ((Kd.R_reads' (Kd.R_after (ok := (fun k_ => some k_ ≠ (.slice Ao21 t172.length co21 : Value).ownBlock ∧ some k_ ≠ (v187 : Value).ownBlock ∧ some k_ ≠ (v206 : Value).ownBlock)) (by (with_reducible repeat (first | apply Kd.R_alloc | apply Kd.R_drewN | apply Kd.R_drew)); exact Kd.R_mono HO_1.out (fun _ hk => ⟨⟨hk.1.1.1, ⟨hk.1.1.2, hk.1.2⟩⟩, hk.2⟩)) hg hat)).2.2) KL61.out))
                                                            have n7_ := Aside0.mk (ho)
                                                            clear HO_1
                                                            clear HO_3
                                                            clear HO_8
                                                            clear HO207
                                                            clear HB
                                                            clear HR201
                                                            clear HR217
                                                            clear HO210
                                                            have HO_1 := n0_
                                                            have HO_3 := n1_
                                                            have HO_8 := n2_
                                                            have HO207 := n3_
                                                            have HB := n4_
                                                            have HR201 := n5_
                                                            have HR217 := n6_
                                                            have HO213 := n7_
                                                            clear n0_ n1_ n2_ n3_ n4_ n5_ n6_ n7_
                                                            clear ho hb hg hat
                                                            refine hK.out _ _ trivial (fun hHeld => ?_)
                                                            clear hK K
                                                            refine norm_ (a' := ?_) ?_ ?_
                                                            rotate_left
                                                            · show Act.put _ (some 71) _ = _
                                                              simp only [Act.put, List.setIfInBounds_toArray, List.set_cons_zero, List.set_cons_succ, i64_w, i32_w]
                                                              rfl
                                                            refine one_ (i := 5) (N := some 74) #[true, true, true, true, true, true, false, false, false, false, false, false] rfl rfl (one_of HT_.out (by kernel_rfl)) (by decide) (fun K hK => ?_)
                                                            refine Kd.R_append_rows_step (Kd.int .u8) (w0 := w) w.heap.size (by rfl) (.tmp 71) (.tmp 73) 22 5 (.int .u8 0) 1 rfl Try.underlying22 info5 rfl (by decide) (by omega) v212 y211 y214 _ _ _ (fun k_ => some k_ ≠ (.slice Ao58 t165.length co58 : Value).ownBlock ∧ some k_ ≠ (.slice Ao21 t172.length co21 : Value).ownBlock ∧ some k_ ≠ (v187 : Value).ownBlock ∧ some k_ ≠ (v206 : Value).ownBlock) (fun _ => False) rfl rfl ?aO ?aR (fun _ _ h => h) (fun _ h => h.elim) ?aF ?aB ?aS ?aL ?_
                                                            (case aR => repeat (first | exact (by repeat (first | (with_reducible exact HR217.out) | (with_reducible refine Kd.C_alloc ?_ _) | (with_reducible refine Kd.C_drewN ?_ _) | (with_reducible refine Kd.C_drew ?_) | exact HR217.out)) | (with_reducible refine Kd.C_alloc ?_ _) | (with_reducible refine Kd.C_drewN ?_ _) | (with_reducible refine Kd.C_drew ?_)))
                                                            (case aB => exact (by repeat (first | (with_reducible first | exact HB.out | apply below_alloc | apply pw_below_drewN | apply below_drew1) | exact HB.out)))
                                                            (case aF => exact (fun k_ hk => ⟨Kd.fresh' (Kd.R_lt (by (with_reducible repeat (first | apply Kd.R_alloc | apply Kd.R_drewN | apply Kd.R_drew)); exact HO_1.out)) k_ hk, Kd.fresh' (Kd.R_lt (by (with_reducible repeat (first | apply Kd.R_alloc | apply Kd.R_drewN | apply Kd.R_drew)); exact HO_3.out)) k_ hk, Kd.fresh' (Kd.R_lt (by (with_reducible repeat (first | apply Kd.R_alloc | apply Kd.R_drewN | apply Kd.R_drew)); exact HO_8.out)) k_ hk, Kd.fresh' (Kd.R_lt (by (with_reducible repeat (first | apply Kd.R_alloc | apply Kd.R_drewN | apply Kd.R_drew)); exact HO207.out)) k_ hk⟩))
                                                            (case aO => exact (by (with_reducible repeat (first | apply Kd.R_alloc | apply Kd.R_drewN | apply Kd.R_drew)); exact HO213.out))
                                                            (case aS => exact (below_size (by repeat (first | (with_reducible first | exact HB.out | apply below_alloc | apply pw_below_drewN | apply below_drew1) | exact HB.out))))
                                                            (case aL => have := LMc34.out; omega)
                                                            intro v219 w65 ho hb hg hat
                                                            rw [← Ny218.out] at ho
                                                            have n0_ := Aside0.mk (Kd.R_after (ok := (fun k_ => some k_ ≠ (.slice Ao21 t172.length co21 : Value).ownBlock ∧ some k_ ≠ (v187 : Value).ownBlock ∧ some k_ ≠ (v206 : Value).ownBlock)) (by (with_reducible repeat (first | apply Kd.R_alloc | apply Kd.R_drewN | apply Kd.R_drew)); exact HO_1.out) hg hat)
                                                            have n1_ := Aside0.mk (Kd.R_after (ok := (fun k_ => some k_ ≠ (.slice Ao58 t165.length co58 : Value).ownBlock ∧ some k_ ≠ (v187 : Value).ownBlock ∧ some k_ ≠ (v206 : Value).ownBlock)) (by (with_reducible repeat (first | apply Kd.R_alloc | apply Kd.R_drewN | apply Kd.R_drew)); exact HO_3.out) hg hat)
                                                            have n2_ := Aside0.mk (Kd.R_after (ok := (fun k_ => some k_ ≠ (.slice Ao58 t165.length co58 : Value).ownBlock ∧ some k_ ≠ (.slice Ao21 t172.length co21 : Value).ownBlock ∧ some k_ ≠ (v206 : Value).ownBlock)) (by (with_reducible repeat (first | apply Kd.R_alloc | apply Kd.R_drewN | apply Kd.R_drew)); exact HO_8.out) hg hat)
                                                            have n3_ := Aside0.mk (Kd.R_after (ok := (fun k_ => some k_ ≠ (.slice Ao58 t165.length co58 : Value).ownBlock ∧ some k_ ≠ (.slice Ao21 t172.length co21 : Value).ownBlock ∧ some k_ ≠ (v187 : Value).ownBlock)) (by (with_reducible repeat (first | apply Kd.R_alloc | apply Kd.R_drewN | apply Kd.R_drew)); exact HO207.out) hg hat)
                                                            have n4_ := Aside0.mk (hb)
                                                            have n5_ := Aside0.mk ((show Kd.C (Kd.int .u8) w65 Ao58 y198.length y198 from by rw [Ny198.out]; exact Kd.C_take (m := 6) ((Kd.R_reads' (Kd.R_after (ok := (fun k_ => some k_ ≠ (.slice Ao21 t172.length co21 : Value).ownBlock ∧ some k_ ≠ (v187 : Value).ownBlock ∧ some k_ ≠ (v206 : Value).ownBlock)) (by (with_reducible repeat (first | apply Kd.R_alloc | apply Kd.R_drewN | apply Kd.R_drew)); exact HO_1.out) hg hat)).2.2) KL57.out))
                                                            have n6_ := Aside0.mk ((show Kd.C (Kd.int .u8) w65 Ao58 y214.length y214 from by rw [Ny214.out]; exact Kd.C_take (m := 9) ((Kd.R_reads' (Kd.R_after (ok := (fun k_ => some k_ ≠ (.slice Ao21 t172.length co21 : Value).ownBlock ∧ some k_ ≠ (v187 : Value).ownBlock ∧ some k_ ≠ (v206 : Value).ownBlock)) (by (with_reducible repeat (first | apply Kd.R_alloc | apply Kd.R_drewN | apply Kd.R_drew)); exact HO_1.out) hg hat)).2.2) KL61.out))
                                                            have n7_ := Aside0.mk (ho)
                                                            clear HO_1
                                                            clear HO_3
                                                            clear HO_8
                                                            clear HO207
                                                            clear HB
                                                            clear HR201
                                                            clear HR217
                                                            clear HO213
                                                            have HO_1 := n0_
                                                            have HO_3 := n1_
                                                            have HO_8 := n2_
                                                            have HO207 := n3_
                                                            have HB := n4_
                                                            have HR201 := n5_
                                                            have HR217 := n6_
                                                            have HO220 := n7_
                                                            clear n0_ n1_ n2_ n3_ n4_ n5_ n6_ n7_
                                                            clear ho hb hg hat
                                                            obtain ⟨Ao66, co66, eo66⟩ := Kd.R_slice HO220.out
                                                            (first | subst eo66 | (injection eo66 with f1_ f2_ f3_; have f4_ := f1_.symm; have f5_ := f3_.symm; clear f1_ f2_ f3_; subst f4_; subst f5_))
                                                            refine hK.out _ _ trivial (fun hHeld => ?_)
                                                            clear hK K
                                                            refine norm_ (a' := ?_) ?_ ?_
                                                            rotate_left
                                                            · show Act.put _ (some 74) _ = _
                                                              simp only [Act.put, List.setIfInBounds_toArray, List.set_cons_zero, List.set_cons_succ, i64_w, i32_w]
                                                              rfl
                                                            refine one_ (i := 6) (N := some 75) #[true, true, true, true, true, true, true, false, false, false, false, false] rfl rfl (one_of HT_.out (by kernel_rfl)) (by decide) (fun K hK => ?_)
                                                            refine goes_ Try.func29 (by kernel_rfl) rfl #[.slice Ao66 y218.length co66] (by rfl) rfl rfl (by (try simp only [List.map_toArray, List.map_cons, List.map_nil]); first | done | rfl | (simp only [List.length_drop, List.length_take]; done) | (simp only [List.length_drop, List.length_take]; rfl)) ?_
                                                            with_reducible refine (seal_All.calls kj9 _ _ y218 t221 t222 _ ?side1 ?side2 A35.out).mono ?_
                                                            (case side1 => repeat (first | exact (Kd.R_reads' HO220.out).2.2 | (with_reducible refine Kd.C_alloc ?_ _) | (with_reducible refine Kd.C_drewN ?_ _) | (with_reducible refine Kd.C_drew ?_)))
                                                            (case side2 => exact (Kd.R_reads' HO220.out).2.1)
                                                            rintro e w67 ⟨v223, rfl, ho0, hb⟩
                                                            refine ⟨_, rfl, ?_⟩
                                                            have n0_ := Aside0.mk (Kd.R_below (by (with_reducible repeat (first | apply Kd.R_alloc | apply Kd.R_drewN | apply Kd.R_drew)); exact HO_1.out) hb)
                                                            have n1_ := Aside0.mk (Kd.R_below (by (with_reducible repeat (first | apply Kd.R_alloc | apply Kd.R_drewN | apply Kd.R_drew)); exact HO_3.out) hb)
                                                            have n2_ := Aside0.mk (Kd.R_below (by (with_reducible repeat (first | apply Kd.R_alloc | apply Kd.R_drewN | apply Kd.R_drew)); exact HO_8.out) hb)
                                                            have n3_ := Aside0.mk (Kd.R_below (by (with_reducible repeat (first | apply Kd.R_alloc | apply Kd.R_drewN | apply Kd.R_drew)); exact HO207.out) hb)
                                                            have n4_ := Aside0.mk (Kd.R_below (by (with_reducible repeat (first | apply Kd.R_alloc | apply Kd.R_drewN | apply Kd.R_drew)); exact HO220.out) hb)
                                                            have n5_ := Aside0.mk (Kd.S_lower (Kd.S_new' (Kd.S_new' (Kd.S_new' (Kd.S_new' (Kd.S_new' ho0 (Kd.R_lt (by (with_reducible repeat (first | apply Kd.R_alloc | apply Kd.R_drewN | apply Kd.R_drew)); exact HO_1.out))) (Kd.R_lt (by (with_reducible repeat (first | apply Kd.R_alloc | apply Kd.R_drewN | apply Kd.R_drew)); exact HO_3.out))) (Kd.R_lt (by (with_reducible repeat (first | apply Kd.R_alloc | apply Kd.R_drewN | apply Kd.R_drew)); exact HO_8.out))) (Kd.R_lt (by (with_reducible repeat (first | apply Kd.R_alloc | apply Kd.R_drewN | apply Kd.R_drew)); exact HO207.out))) (Kd.R_lt (by (with_reducible repeat (first | apply Kd.R_alloc | apply Kd.R_drewN | apply Kd.R_drew)); exact HO220.out))) (below_size (by repeat (first | (with_reducible first | exact HB.out | apply below_alloc | apply pw_below_drewN | apply below_drew1) | exact HB.out))))
                                                            have n6_ := Aside0.mk (Kd.C_below (by repeat (first | (with_reducible exact HR201.out) | (with_reducible refine Kd.C_alloc ?_ _) | (with_reducible refine Kd.C_drewN ?_ _) | (with_reducible refine Kd.C_drew ?_) | exact HR201.out)) hb)
                                                            have n7_ := Aside0.mk (Kd.C_below (by repeat (first | (with_reducible exact HR217.out) | (with_reducible refine Kd.C_alloc ?_ _) | (with_reducible refine Kd.C_drewN ?_ _) | (with_reducible refine Kd.C_drew ?_) | exact HR217.out)) hb)
                                                            have n8_ := Aside0.mk (below_step (by repeat (first | (with_reducible first | exact HB.out | apply below_alloc | apply pw_below_drewN | apply below_drew1) | exact HB.out)) hb)
                                                            clear HO_1
                                                            clear HO_3
                                                            clear HO_8
                                                            clear HO207
                                                            clear HO220
                                                            clear HR201
                                                            clear HR217
                                                            clear HB
                                                            have HO_1 := n0_
                                                            have HO_3 := n1_
                                                            have HO_8 := n2_
                                                            have HO207 := n3_
                                                            have HO220 := n4_
                                                            have HO224 := n5_
                                                            have HR201 := n6_
                                                            have HR217 := n7_
                                                            have HB := n8_
                                                            clear n0_ n1_ n2_ n3_ n4_ n5_ n6_ n7_ n8_
                                                            (try clear hb)
                                                            (try clear hb2)
                                                            (try clear hk)
                                                            (try clear hi)
                                                            (try clear ho0)
                                                            refine hK.out _ _ trivial (fun hHeld => ?_)
                                                            clear hK K
                                                            refine norm_ (a' := ?_) ?_ ?_
                                                            rotate_left
                                                            · show Act.put _ (some 75) _ = _
                                                              simp only [Act.put, List.setIfInBounds_toArray, List.set_cons_zero, List.set_cons_succ, i64_w, i32_w]
                                                              rfl
                                                            refine pure_ (i := 7) (N := some 68) (v := ?_) (a' := ?_) #[true, true, true, true, true, true, true, true, false, false, false, false] rfl rfl (any_of HT_.out (by kernel_rfl)) (fun _ _ _ h => h) (Or.inl ⟨by rfl, ?_⟩) ?_ ?_
                                                            rotate_left
                                                            · intro w'
                                                              go_simp
                                                              with_reducible rfl
                                                            rotate_left
                                                            · simp only [Act.put, List.setIfInBounds_toArray, List.set_cons_zero, List.set_cons_succ, i64_w, i32_w]
                                                              rfl
                                                            refine pure_ (i := 8) (N := some 76) (v := ?_) (a' := ?_) #[true, true, true, true, true, true, true, true, true, false, false, false] rfl rfl (any_of HT_.out (by kernel_rfl)) (fun _ _ _ h => h) (Or.inl ⟨by rfl, ?_⟩) ?_ ?_
                                                            rotate_left
                                                            · intro w'
                                                              go_simp
                                                              with_reducible rfl
                                                            rotate_left
                                                            · simp only [Act.put, List.setIfInBounds_toArray, List.set_cons_zero, List.set_cons_succ, i64_w, i32_w]
                                                              rfl
                                                            refine pure_ (i := 9) (N := some 77) (v := ?_) (a' := ?_) #[true, true, true, true, true, true, true, true, true, true, false, false] rfl rfl (any_of HT_.out (by kernel_rfl)) (fun _ _ _ h => h) (Or.inl ⟨by rfl, ?_⟩) ?_ ?_
                                                            rotate_left
                                                            · intro w'
                                                              go_simp
                                                              with_reducible rfl
                                                            rotate_left
                                                            · simp only [Act.put, List.setIfInBounds_toArray, List.set_cons_zero, List.set_cons_succ, i64_w, i32_w]
                                                              rfl
                                                            refine pure_ (i := 10) (N := some 19) (v := ?_) (a' := ?_) #[true, true, true, true, true, true, true, true, true, true, true, false] rfl rfl (any_of HT_.out (by kernel_rfl)) (fun _ _ _ h => h) (Or.inl ⟨by rfl, ?_⟩) ?_ ?_
                                                            rotate_left
                                                            · intro w'
                                                              go_simp
                                                              with_reducible rfl
                                                            rotate_left
                                                            · simp only [Act.put, List.setIfInBounds_toArray, List.set_cons_zero, List.set_cons_succ, i64_w, i32_w]
                                                              rfl
                                                            refine pure_ (i := 11) (N := some 20) (v := ?_) (a' := ?_) #[true, true, true, true, true, true, true, true, true, true, true, true] rfl rfl (any_of HT_.out (by kernel_rfl)) (fun _ _ _ h => h) (Or.inl ⟨by rfl, ?_⟩) ?_ ?_
                                                            rotate_left
                                                            · intro w'
                                                              go_simp
                                                              with_reducible rfl
                                                            rotate_left
                                                            · simp only [Act.put, List.setIfInBounds_toArray, List.set_cons_zero, List.set_cons_succ, i64_w, i32_w]
                                                              rfl
                                                            refine done_ (done_of HT_.out (by kernel_rfl)) ?_
                                                            try go_wp2_with (first | ((first | ((with_reducible refine gate_callee (f := 22) rfl ?_); refine goesL_ (some 80) rfl rfl Try.func22 (by kernel_rfl) rfl #[.slice (some ⟨w67.heap.size, 0, none⟩) y225.length 9] rfl (by (try simp only [List.map_toArray, List.map_cons, List.map_nil]); first | done | (rw [show y225.length = 9 from (by rw [Ny225.out]; rfl)] <;> rfl) | rfl) ?_; (with_reducible refine (seal_Sum.calls kj9 _ _ y225 t228 _ ?side1 ?side2 A36.out).mono ?_); (case side1 => exact const_row _ _ _ _ _ _ _ (by first | rfl | (simp [World.alloc, World.drewN]; done) | (simp; done)) (by rw [Ny225.out]; rfl) (by rw [Ny225.out]; decide)); (case side2 => exact (by rw [Ny225.out]; decide)); rintro e w68 ⟨rfl, hd_⟩; have hb := hd_.below; clear hd_; refine ⟨_, rfl, ?_⟩) | (go_at_call 22; refine calls_of_args (args' := #[.slice (some ⟨w67.heap.size, 0, none⟩) y225.length 9]) (by first | (rw [show y225.length = 9 from (by rw [Ny225.out]; rfl)] <;> rfl) | rfl) ?_; (with_reducible refine (seal_Sum.calls kj9 _ _ y225 t228 _ ?side1 ?side2 A36.out).mono ?_); (case side1 => exact const_row _ _ _ _ _ _ _ (by first | rfl | (simp [World.alloc, World.drewN]; done) | (simp; done)) (by rw [Ny225.out]; rfl) (by rw [Ny225.out]; decide)); (case side2 => exact (by rw [Ny225.out]; decide)); rintro e w68 ⟨rfl, hd_⟩; have hb := hd_.below; clear hd_)); have n0_ := Aside0.mk (Kd.R_below (by (with_reducible repeat (first | apply Kd.R_alloc | apply Kd.R_drewN | apply Kd.R_drew)); exact HO_1.out) hb); have n1_ := Aside0.mk (Kd.R_below (by (with_reducible repeat (first | apply Kd.R_alloc | apply Kd.R_drewN | apply Kd.R_drew)); exact HO_3.out) hb); have n2_ := Aside0.mk (Kd.R_below (by (with_reducible repeat (first | apply Kd.R_alloc | apply Kd.R_drewN | apply Kd.R_drew)); exact HO_8.out) hb); have n3_ := Aside0.mk (Kd.R_below (by (with_reducible repeat (first | apply Kd.R_alloc | apply Kd.R_drewN | apply Kd.R_drew)); exact HO207.out) hb); have n4_ := Aside0.mk (Kd.R_below (by (with_reducible repeat (first | apply Kd.R_alloc | apply Kd.R_drewN | apply Kd.R_drew)); exact HO220.out) hb); have n5_ := Aside0.mk (Kd.S_below (by (with_reducible repeat (first | apply Kd.S_alloc | apply Kd.S_drewN | apply Kd.S_drew)); exact HO224.out) hb); have n6_ := Aside0.mk (below_step (by repeat (first | (with_reducible first | exact HB.out | apply below_alloc | apply pw_below_drewN | apply below_drew1) | exact HB.out)) hb); clear HO_1; clear HO_3; clear HO_8; clear HO207; clear HO220; clear HO224; clear HB; have HO_1 := n0_; have HO_3 := n1_; have HO_8 := n2_; have HO207 := n3_; have HO220 := n4_; have HO224 := n5_; have HB := n6_; clear n0_ n1_ n2_ n3_ n4_ n5_ n6_; (try clear hb); (try clear hb2); (try clear hk); (try clear hi)) | (go_at_call 22; (refine (seal_Sum.calls kj9 _ _ ([] : List Int) t229 _ ?side1 ?side2 A38.out).mono ?_); (case side1 => exact Kd.C_nil _ _); (case side2 => exact Nat.le_refl _); rintro e w' ⟨rfl, ⟨nd, rfl⟩⟩; have p230 : 0 ≤ (0 : Int) := (by omega); have q230 : 0 < (t165.length : Int) := of_decide_eq_true (by first | (with_reducible assumption) | assumption); obtain ⟨ad230, e230, hx230_0⟩ := Kd.at_int (Kd.R_reads' HO_1.out).2.2 0 p230 q230; cases e230; have qi230 : (0 < t165.length) = True := eq_true (by omega); (try rw [show ((0 : Int)).toNat = 0 from rfl] at hx230_0); (try rw [Addr.add_zero'] at hx230_0); replace p230 := eq_true p230; replace q230 := eq_true q230; have p231 : 0 ≤ (1 : Int) := (by omega); have q231 : 1 < (t165.length : Int) := of_decide_eq_true (by first | (with_reducible assumption) | assumption); obtain ⟨ad231, e231, hx231_0⟩ := Kd.at_int (Kd.R_reads' HO_1.out).2.2 1 p231 q231; obtain rfl : ad230 = ad231 := (by injection e231); (try simp only [show (1 : Int).toNat = 1 from rfl, Nat.reduceMul, Nat.reduceEqDiff, Go.Addr.add, ↓reduceIte] at hx231_0); have qi231 : (1 < t165.length) = True := eq_true (by omega); (try rw [show ((1 : Int)).toNat = 1 from rfl] at hx231_0); replace p231 := eq_true p231; replace q231 := eq_true q231; have p232 : 0 ≤ (2 : Int) := (by omega); have q232 : 2 < (t165.length : Int) := of_decide_eq_true (by first | (with_reducible assumption) | assumption); obtain ⟨ad232, e232, hx232_0⟩ := Kd.at_int (Kd.R_reads' HO_1.out).2.2 2 p232 q232; obtain rfl : ad230 = ad232 := (by injection e232); (try simp only [show (2 : Int).toNat = 2 from rfl, Nat.reduceMul, Nat.reduceEqDiff, Go.Addr.add, ↓reduceIte] at hx232_0); have qi232 : (2 < t165.length) = True := eq_true (by omega); (try rw [show ((2 : Int)).toNat = 2 from rfl] at hx232_0); replace p232 := eq_true p232; replace q232 := eq_true q232; obtain ⟨Ao69, co69, eo69⟩ := Kd.R_slice HO_8.out; subst eo69; obtain ⟨Ao70, co70, eo70⟩ := Kd.S_slice HO224.out; subst eo70; have p233 : 0 ≤ (0 : Int) := (by omega); have q233 : 0 < (t221.length : Int) := of_decide_eq_true (by first | (with_reducible assumption) | assumption); obtain ⟨ad233, A233_0, c233_0, e233, hx233_0, hl233_0, hi233_0⟩ := at_L1 (Kd.S_reads' HO224.out).2.2 0 p233 q233; cases e233; obtain ⟨ce233, hce233, hMe233, hcc233⟩ := Kd.S_get HO224.out [] 0 p233 (by first | exact q233 | exact of_decide_eq_true (by first | (with_reducible assumption) | assumption) | (have e_ := (Kd.S_reads' HO224.out).1; omega)); obtain ⟨ve233_0, rfl, ge233_0⟩ := hMe233; have hv233_0 := hcc233 0 _ rfl; rw [Nat.add_zero, show ((Kd.slice 5 (Kd.int .u8))).sz = 1 from rfl, Nat.mul_one] at hv233_0; replace hv233_0 := Option.some.inj (hv233_0.symm.trans hx233_0); rw [hv233_0] at ge233_0; have HL233_0 := Aside0.mk (show Kd.R (Kd.int .u8) 5 _ _ _ _ (rd_L1 t221 0) from ge233_0); clear hv233_0 ge233_0; clear hcc233 hce233; have qi233 : (0 < t221.length) = True := eq_true (by omega); (try rw [show ((0 : Int)).toNat = 0 from rfl] at hx233_0); (try rw [Addr.add_zero'] at hx233_0); have HR233_0 := Aside0.mk hi233_0; have HC233_0 := Aside0.mk hl233_0; clear hi233_0 hl233_0; replace p233 := eq_true p233; replace q233 := eq_true q233; have hcv71 := fun n_ : Nat => Kd.C_string (P := Try.prog) (A := A233_0) (c := c233_0) Try.underlying22 Try.underlying5 Try.underlying9 (Kd.C_drewN HR233_0.out n_); have hcv72 := Kd.C_string (P := Try.prog) (A := A233_0) (c := c233_0) Try.underlying22 Try.underlying5 Try.underlying9 (by repeat (first | (with_reducible exact HR233_0.out) | (with_reducible refine Kd.C_alloc ?_ _) | (with_reducible refine Kd.C_drewN ?_ _) | (with_reducible refine Kd.C_drew ?_) | exact HR233_0.out))))
                                                            go_ret
                                                            exact ⟨by first | rfl | (simp [errW_none, errW_some] <;> rfl) | (simp [*, errW_none, errW_some] <;> rfl), by repeat (first | (with_reducible first | exact HB.out | apply below_alloc | apply pw_below_drewN | apply below_drew1) | exact HB.out)⟩
                                                          · rw [if_neg c56] at H
                                                            exact absurd H (by simp)
                                                        · rw [if_neg c55] at H
                                                          have c55b0 : (t222 == 16) = false := beq_eq_false_iff_ne.mpr c55
                                                          have c55b1 : (t222 != 16) = true := bne_iff_ne.mpr c55
                                                          exact absurd H (by rw [HLT.out]; repeat' first | (with_reducible exact dead_none) | (with_reducible exact dead_false) | (with_reducible refine dead_ite ?_ ?_) | (with_reducible refine dead_bind (fun _ => ?_)) | (refine dead_ite ?_ ?_) | (refine dead_bind (fun _ => ?_)) | (simp; done))
                                                      · rw [if_neg c54] at H
                                                        have c54b0 : ((t221.length : Int) == 1) = false := beq_eq_false_iff_ne.mpr c54
                                                        have c54b1 : ((t221.length : Int) != 1) = true := bne_iff_ne.mpr c54
                                                        exact absurd H (by rw [HLT.out]; repeat' first | (with_reducible exact dead_none) | (with_reducible exact dead_false) | (with_reducible refine dead_ite ?_ ?_) | (with_reducible refine dead_bind (fun _ => ?_)) | (refine dead_ite ?_ ?_) | (refine dead_bind (fun _ => ?_)) | (simp; done))
                                                    · rw [if_neg c53] at H
                                                      have c53b0 : (t205 == 7) = false := beq_eq_false_iff_ne.mpr c53
                                                      have c53b1 : (t205 != 7) = true := bne_iff_ne.mpr c53
                                                      exact absurd H (by rw [HLT.out]; repeat' first | (with_reducible exact dead_none) | (with_reducible exact dead_false) | (with_reducible refine dead_ite ?_ ?_) | (with_reducible refine dead_bind (fun _ => ?_)) | (refine dead_ite ?_ ?_) | (refine dead_bind (fun _ => ?_)) | (simp; done))
                                                  · rw [if_neg c52] at H
                                                    have c52b0 : (t195 == 3) = false := beq_eq_false_iff_ne.mpr c52
                                                    have c52b1 : (t195 != 3) = true := bne_iff_ne.mpr c52
                                                    exact absurd H (by rw [HLT.out]; repeat' first | (with_reducible exact dead_none) | (with_reducible exact dead_false) | (with_reducible refine dead_ite ?_ ?_) | (with_reducible refine dead_bind (fun _ => ?_)) | (refine dead_ite ?_ ?_) | (refine dead_bind (fun _ => ?_)) | (simp; done))
                                                · rw [if_neg c51] at H
                                                  have c51b0 : (t185 == (t172.length : Int)) = false := beq_eq_false_iff_ne.mpr c51
                                                  have c51b1 : (t185 != (t172.length : Int)) = true := bne_iff_ne.mpr c51
                                                  exact absurd H (by rw [HLT.out]; repeat' first | (with_reducible exact dead_none) | (with_reducible exact dead_false) | (with_reducible refine dead_ite ?_ ?_) | (with_reducible refine dead_bind (fun _ => ?_)) | (refine dead_ite ?_ ?_) | (refine dead_bind (fun _ => ?_)) | (simp; done))
                                              · rw [if_neg c50] at H
                                                have c50b0 : ((t184.length : Int) == 32768) = false := beq_eq_false_iff_ne.mpr c50
                                                have c50b1 : ((t184.length : Int) != 32768) = true := bne_iff_ne.mpr c50
                                                exact absurd H (by rw [HLT.out]; repeat' first | (with_reducible exact dead_none) | (with_reducible exact dead_false) | (with_reducible refine dead_ite ?_ ?_) | (with_reducible refine dead_bind (fun _ => ?_)) | (refine dead_ite ?_ ?_) | (refine dead_bind (fun _ => ?_)) | (simp; done))
                                            · rw [if_neg c49] at H
                                              have c49b0 : (t183 == 1) = false := beq_eq_false_iff_ne.mpr c49
                                              have c49b1 : (t183 != 1) = true := bne_iff_ne.mpr c49
                                              exact absurd H (by rw [HLT.out]; repeat' first | (with_reducible exact dead_none) | (with_reducible exact dead_false) | (with_reducible refine dead_ite ?_ ?_) | (with_reducible refine dead_bind (fun _ => ?_)) | (refine dead_ite ?_ ?_) | (refine dead_bind (fun _ => ?_)) | (simp; done))
                                          · rw [if_neg c48] at H
                                            have c48b0 : (t186 == 0) = false := beq_eq_false_iff_ne.mpr c48
                                            have c48b1 : (t186 != 0) = true := bne_iff_ne.mpr c48
                                            exact absurd H (by rw [HLT.out]; repeat' first | (with_reducible exact dead_none) | (with_reducible exact dead_false) | (with_reducible refine dead_ite ?_ ?_) | (with_reducible refine dead_bind (fun _ => ?_)) | (refine dead_ite ?_ ?_) | (refine dead_bind (fun _ => ?_)) | (simp; done))
                                        · rw [if_neg c47] at H
                                          have c47b0 : (t180 == 3) = false := beq_eq_false_iff_ne.mpr c47
                                          have c47b1 : (t180 != 3) = true := bne_iff_ne.mpr c47
                                          exact absurd H (by rw [HLT.out]; repeat' first | (with_reducible exact dead_none) | (with_reducible exact dead_false) | (with_reducible refine dead_ite ?_ ?_) | (with_reducible refine dead_bind (fun _ => ?_)) | (refine dead_ite ?_ ?_) | (refine dead_bind (fun _ => ?_)) | (simp; done))
                                      · rw [if_neg c46] at H
                                        have c46b0 : (t173 == 0) = false := beq_eq_false_iff_ne.mpr c46
                                        have c46b1 : (t173 != 0) = true := bne_iff_ne.mpr c46
                                        exact absurd H (by rw [HLT.out]; repeat' first | (with_reducible exact dead_none) | (with_reducible exact dead_false) | (with_reducible refine dead_ite ?_ ?_) | (with_reducible refine dead_bind (fun _ => ?_)) | (refine dead_ite ?_ ?_) | (refine dead_bind (fun _ => ?_)) | (simp; done))
                                    · rw [if_neg c45] at H
                                      have c45b0 : ((rd t165 2) == 9) = false := beq_eq_false_iff_ne.mpr c45
                                      have c45b1 : ((rd t165 2) != 9) = true := bne_iff_ne.mpr c45
                                      exact absurd H (by rw [HLT.out]; repeat' first | (with_reducible exact dead_none) | (with_reducible exact dead_false) | (with_reducible refine dead_ite ?_ ?_) | (with_reducible refine dead_bind (fun _ => ?_)) | (refine dead_ite ?_ ?_) | (refine dead_bind (fun _ => ?_)) | (simp; done))
                                  · rw [if_neg c44] at H
                                    exact absurd H (by simp)
                                · rw [if_neg c43] at H
                                  have c43b0 : ((rd t165 1) == 9) = false := beq_eq_false_iff_ne.mpr c43
                                  have c43b1 : ((rd t165 1) != 9) = true := bne_iff_ne.mpr c43
                                  exact absurd H (by rw [HLT.out]; repeat' first | (with_reducible exact dead_none) | (with_reducible exact dead_false) | (with_reducible refine dead_ite ?_ ?_) | (with_reducible refine dead_bind (fun _ => ?_)) | (refine dead_ite ?_ ?_) | (refine dead_bind (fun _ => ?_)) | (simp; done))
                              · rw [if_neg c42] at H
                                exact absurd H (by simp)
                            · rw [if_neg c41] at H
                              have c41b0 : ((rd t165 0) == 0) = false := beq_eq_false_iff_ne.mpr c41
                              have c41b1 : ((rd t165 0) != 0) = true := bne_iff_ne.mpr c41
                              exact absurd H (by rw [HLT.out]; repeat' first | (with_reducible exact dead_none) | (with_reducible exact dead_false) | (with_reducible refine dead_ite ?_ ?_) | (with_reducible refine dead_bind (fun _ => ?_)) | (refine dead_ite ?_ ?_) | (refine dead_bind (fun _ => ?_)) | (simp; done))
                          · rw [if_neg c40] at H
                            exact absurd H (by simp)
                        · rw [if_neg c39] at H
                          have c39b0 : (t229 == 1) = false := beq_eq_false_iff_ne.mpr c39
                          have c39b1 : (t229 != 1) = true := bne_iff_ne.mpr c39
                          exact absurd H (by rw [HLT.out]; repeat' first | (with_reducible exact dead_none) | (with_reducible exact dead_false) | (with_reducible refine dead_ite ?_ ?_) | (with_reducible refine dead_bind (fun _ => ?_)) | (refine dead_ite ?_ ?_) | (refine dead_bind (fun _ => ?_)) | (simp; done))
                      · rw [if_neg c37] at H
                        have c37b0 : (t228 == 300286872) = false := beq_eq_false_iff_ne.mpr c37
                        have c37b1 : (t228 != 300286872) = true := bne_iff_ne.mpr c37
                        exact absurd H (by rw [HLT.out]; repeat' first | (with_reducible exact dead_none) | (with_reducible exact dead_false) | (with_reducible refine dead_ite ?_ ?_) | (with_reducible refine dead_bind (fun _ => ?_)) | (refine dead_ite ?_ ?_) | (refine dead_bind (fun _ => ?_)) | (simp; done))
                    · rw [if_neg c34] at H
                      exact absurd H (by simp)
                  · rw [if_neg c33] at H
                    exact absurd H (by simp)
                · rw [if_neg c32] at H
                  exact absurd H (by simp)
              · rw [if_neg c30] at H
                exact absurd H (by simp)
      · rw [if_neg c6] at H
        exact absurd H (by simp)
    · rw [if_neg c4] at H
      exact absurd H (by simp)
  · replace c2 := Bool.eq_false_iff.mpr c2
    subst c2
    have H1 : (some false) = some r := by rw [if_neg (show ¬ (false = true) by decide)] at H; exact H
    clear H
    have H := H1
    clear H1
    exact absurd H (by rw [HLT.out]; repeat' first | (with_reducible exact dead_none) | (with_reducible exact dead_false) | (with_reducible refine dead_ite ?_ ?_) | (with_reducible refine dead_bind (fun _ => ?_)) | (refine dead_ite ?_ ?_) | (refine dead_bind (fun _ => ?_)) | (simp; done))

end Go.Proofs.Ytkolcgofhjbebaa.PSealKnown
