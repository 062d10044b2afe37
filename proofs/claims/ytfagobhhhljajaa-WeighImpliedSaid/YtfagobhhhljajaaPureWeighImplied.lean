/- WeighImplied, the plain law over the printed functions. No condition. -/
import Derived.Test.YtfagobhhhljajaaPWeighImpliedy
namespace Go.Proofs.Ytfagobhhhljajaa.Pure
set_option linter.unusedVariables false
set_option linter.unusedSimpArgs false
open Go.RowKit Go.Proofs.Ytfagobhhhljajaa.PWeighImplied Go.Proofs.YtfagobhhhljajaaW.PrintWords Go.Proofs.YtfagobhhhljajaaW.PrintLast Go.Proofs.YtfagobhhhljajaaW.PrintMore
set_option maxRecDepth 100000 in
theorem awake_ok : gazetteerlaw3_awake.f 100 = some true := by kernel_rfl
theorem imp1 (a : Int) (h0 : 0 ≤ a) (h1 : a ≤ 1114111) : weigh_Implied.f a = some (64000 + a / 3999, 32, 2, 60001 + a % 3999, 0, 0) := by
 unfold weigh_Implied.f
 rw [Int.tdiv_eq_ediv_of_nonneg h0, Int.tmod_eq_emod_of_nonneg h0]
 have e1 : wrap64 (64000 + wrap64 (wrap32 (a / 3999))) = 64000 + a / 3999 := by unfold wrap64 wrap32; omega
 have e2 : wrap64 (60001 + wrap64 (a % 3999)) = 60001 + a % 3999 := by unfold wrap64; omega
 rw [e1, e2]
theorem imp2 (a : Int) (h0 : 0 ≤ a) (h1 : a ≤ 1114111) : gazetteerref1_Implied.f a = some (64000 + a / 3999, 32, 2, 60001 + a % 3999, 0, 0) := by
 unfold gazetteerref1_Implied.f
 have e0 : wrap64 a = a := by unfold wrap64; omega
 rw [e0, Int.tdiv_eq_ediv_of_nonneg h0, Int.tmod_eq_emod_of_nonneg h0]
 have e1 : wrap64 (64000 + wrap64 (a / 3999)) = 64000 + a / 3999 := by unfold wrap64; omega
 have e2 : wrap64 (60001 + a % 3999) = 60001 + a % 3999 := by unfold wrap64; omega
 rw [e1, e2]
theorem rmay (a : Int) : ∃ b, gazetteerref1_May.f a = some b ∧ (b = true → 0 ≤ a ∧ a ≤ 1114111) := by
 unfold gazetteerref1_May.f
 by_cases h0 : a ≥ 0
 ·
  rw [if_pos h0]
  by_cases h1 : a ≤ 1114111
  ·
   rw [if_pos h1]
   split
   ·
    exact ⟨_, rfl, fun _ => ⟨h0, h1⟩⟩
   ·
    exact ⟨_, rfl, fun _ => ⟨h0, h1⟩⟩
  ·
   rw [if_neg h1]; exact ⟨_, rfl, fun h => by cases h⟩
 ·
  rw [if_neg h0]; exact ⟨_, rfl, fun h => by cases h⟩
theorem WeighImplied : gazetteerlaw3_WeighImplied.Pure := by
 intro a b ha hb
 refine ⟨99 + 1, ?_⟩
 unfold gazetteerlaw3_WeighImplied.f
 refine bindE awake_ok (iteT rfl ?_)
 obtain ⟨b1, e1, f1⟩ := rmay a
 obtain ⟨b2, e2, f2⟩ := rmay b
 refine bindE e1 ?_
 cases b1 with
 | false => rfl
 | true =>
 refine iteT rfl (bindE e2 ?_)
 cases b2 with
 | false => rfl
 | true =>
 obtain ⟨a0, a1⟩ := f1 rfl
 obtain ⟨c0, c1⟩ := f2 rfl
 simp only [gazetteerlaw3_WeighImplied.j0]
 refine iteF (by simp) (bindE (imp1 a a0 a1) (bindE (imp1 b c0 c1) ?_))
 rw [imp2 a a0 a1]
 have hda := Int.emod_add_mul_ediv a 3999
 have hdb := Int.emod_add_mul_ediv b 3999
 have h1 := Int.emod_nonneg a (show (3999 : Int) ≠ 0 by decide)
 have h2 := Int.emod_lt_of_pos a (show (0 : Int) < 3999 by decide)
 have h3 := Int.emod_nonneg b (show (3999 : Int) ≠ 0 by decide)
 have h4 := Int.emod_lt_of_pos b (show (0 : Int) < 3999 by decide)
 have hqa : a / 3999 ≤ 278 := by omega
 have hqa0 : 0 ≤ a / 3999 := by omega
 generalize a / 3999 = q at *
 generalize a % 3999 = r at *
 generalize b / 3999 = q' at *
 generalize b % 3999 = r' at *
 have key : ((64000 + q == 64000 + q' && ((32 : Int) == 32 && ((2 : Int) == 2))) && ((60001 + r == 60001 + r' && ((0 : Int) == 0 && ((0 : Int) == 0))))) = (a == b) := by
  rw [Bool.eq_iff_iff]
  simp only [Bool.and_eq_true, beq_iff_eq]
  constructor
  ·
   rintro ⟨⟨h5, _⟩, h6, _⟩; omega
  ·
   intro h5
   subst h5
   exact ⟨⟨by omega, by simp⟩, by omega, by simp⟩
 have self : ((64000 + q == 64000 + q && ((32 : Int) == 32 && ((2 : Int) == 2))) && ((60001 + r == 60001 + r && ((0 : Int) == 0 && ((0 : Int) == 0))))) = true := by simp
 have fin : (decide (60001 + r > 60000)) = true := decide_eq_true (by omega)
 by_cases hlt : 64000 + q < 64000 + q'
 ·
  refine iteT hlt (iteT (by rw [decide_eq_true (show a < b by omega)]; rfl) (iteT (by rw [key]; simp) (bindE rfl (iteT self (iteT (by omega) (by rw [fin]))))))
 ·
  refine iteF hlt ?_
  by_cases heq : 64000 + q = 64000 + q'
  ·
   refine iteT heq (iteT ?_ (iteT (by rw [key]; simp) (bindE rfl (iteT self (iteT (by omega) (by rw [fin]))))))
   show (decide (60001 + r < 60001 + r') == decide (a < b)) = true
   rw [beq_iff_eq]
   exact decide_eq_decide.2 ⟨fun h => by omega, fun h => by omega⟩
  ·
   refine iteF heq (iteT (by rw [decide_eq_false (show ¬ a < b by omega)]; rfl) (iteT (by rw [key]; simp) (bindE rfl (iteT self (iteT (by omega) (by rw [fin]))))))
end Go.Proofs.Ytfagobhhhljajaa.Pure
