/- The law FnExactHysteresis answers true for every state and every three numbers; no condition. -/
import Derived.Test.YtdcjbnedbohofaaPFnExactHysteresisx1
namespace Go.Proofs.Ytdcjbnedbohofaa.Pure
open Go.RowKit Go.Proofs.Ytdcjbnedbohofaa.PFnExactHysteresis Go.Proofs.YtdcjbnedbohofaaW.PrintWords Go.Proofs.YtdcjbnedbohofaaW.PrintLast

theorem FnExactHysteresis : laws_FnExactHysteresis.Pure := by
  intro s x lo hi _ _ _
  have key : impl_Hysteresis.f s x lo hi = spec_Hysteresis.f s x lo hi := by
    unfold impl_Hysteresis.f spec_Hysteresis.f
    by_cases h1 : lo ≥ hi
    · rw [if_pos h1, if_pos h1]
    · rw [if_neg h1, if_neg h1]
      by_cases h2 : x ≥ hi
      · rw [if_pos h2, if_pos h2]
      · rw [if_neg h2, if_neg h2]
        by_cases h3 : x ≤ lo
        · rw [if_pos h3]
          have h4 : ¬ x > lo := by omega
          cases s <;> simp [h4]
        · rw [if_neg h3]
          have h4 : x > lo := by omega
          cases s <;> simp [h4]
  have ex : ∃ r, spec_Hysteresis.f s x lo hi = some r := by
    unfold spec_Hysteresis.f
    split
    · exact ⟨_, rfl⟩
    · split
      · exact ⟨_, rfl⟩
      · split <;> exact ⟨_, rfl⟩
  obtain ⟨r, hr⟩ := ex
  unfold laws_FnExactHysteresis.f
  rw [key, hr]
  cases r <;> rfl

end Go.Proofs.Ytdcjbnedbohofaa.Pure
