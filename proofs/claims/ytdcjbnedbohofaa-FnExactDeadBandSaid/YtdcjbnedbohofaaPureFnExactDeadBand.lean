/- The law FnExactDeadBand answers true for every two numbers; no condition. -/
import Derived.Test.YtdcjbnedbohofaaPFnExactDeadBandx1
namespace Go.Proofs.Ytdcjbnedbohofaa.Pure
open Go.RowKit Go.Proofs.Ytdcjbnedbohofaa.PFnExactDeadBand Go.Proofs.YtdcjbnedbohofaaW.PrintWords Go.Proofs.YtdcjbnedbohofaaW.PrintLast

theorem FnExactDeadBand : laws_FnExactDeadBand.Pure := by
  intro a b ha hb
  refine ⟨1, ?_⟩
  have wa : -9223372036854775808 ≤ a ∧ a ≤ 9223372036854775807 := by
    simp [Lit.wf, IntKind.min, IntKind.max, IntKind.signed, IntKind.bits] at ha
    omega
  unfold laws_FnExactDeadBand.f spec_DeadBand.f impl_DeadBand.f spec_l7Word.f impl_isWord.f spec_l1In.f impl_in.f
  by_cases h1 : -32768 ≤ a
  · by_cases h2 : a ≤ 32767
    · by_cases h3 : 0 ≤ b
      · by_cases h4 : b ≤ 32767
        · have e1 : wrap64 (-a) = -a := by unfold wrap64; omega
          have e2 : wrap64 (-b) = -b := by unfold wrap64; omega
          simp [h1, h2, h3, h4, spec_DeadBand.j0, impl_DeadBand.j0, e1, e2, mx]
          by_cases g1 : a < -a
          · simp only [if_pos g1]
            by_cases g2 : -a ≤ b
            · have g3 : ¬ b < a := by omega
              have g4 : ¬ a < -b := by omega
              simp [g2, g3, g4]
            · have g3 : ¬ b < a := by omega
              have g4 : a < -b := by omega
              have g5 : ¬ 0 < a := by omega
              simp [g2, g3, g4, g5]
          · simp only [if_neg g1]
            by_cases g2 : a ≤ b
            · have g3 : ¬ b < a := by omega
              have g4 : ¬ a < -b := by omega
              simp [g2, g3, g4]
            · have g3 : b < a := by omega
              have g5 : 0 < a := by omega
              simp [g2, g3, g5]
        · simp [h1, h2, h3, h4, spec_DeadBand.j0, impl_DeadBand.j0]
      · simp [h1, h2, h3, spec_DeadBand.j0, impl_DeadBand.j0]
    · simp [h1, h2, spec_DeadBand.j0, impl_DeadBand.j0]
  · simp [h1, spec_DeadBand.j0, impl_DeadBand.j0]

end Go.Proofs.Ytdcjbnedbohofaa.Pure
