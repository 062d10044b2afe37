/- MediumPlays, the plain law: what the walk by hand shows is all of it. No condition. -/
import Derived.Test.YtkolcgofhjbebaaPMediumPlaysy
namespace Go.Proofs.Ytkolcgofhjbebaa.Pure
open Go.RowKit Go.Proofs.Ytkolcgofhjbebaa.PMediumPlays Go.Proofs.YtkolcgofhjbebaaW.PrintWords Go.Proofs.YtkolcgofhjbebaaW.PrintLast Go.Proofs.YtkolcgofhjbebaaW.PrintMore
set_option linter.unusedVariables false

theorem plays_all (l : List S48) (h : ∀ y ∈ l, Bd48 y) : (l.all fun d => decide (d.f2.length ≤ 140737488351232)) = true := by
  rw [List.all_eq_true]
  intro d hd
  obtain ⟨_, _, _, h2, _⟩ := h d hd
  exact decide_eq_true (by omega)
theorem MediumPlays : gazetteerlaw10_MediumPlays.Pure := by
  unfold gazetteerlaw10_MediumPlays.Pure
  intro l0 l1 h0 h1
  unfold gazetteerlaw10_MediumPlays.f
  rw [if_pos ⟨⟨by omega, plays_all l0 h0.2.2⟩, ⟨by omega, plays_all l1 h1.2.2⟩⟩]

end Go.Proofs.Ytkolcgofhjbebaa.Pure
