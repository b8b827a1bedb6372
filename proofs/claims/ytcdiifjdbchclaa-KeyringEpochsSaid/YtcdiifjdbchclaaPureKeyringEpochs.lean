/- The plain side of KeyringEpochs: for every slot number and every step back the printed law function answers true. -/
import Derived.Test.YtcdiifjdbchclaaE
import Derived.Test.YtcdiifjdbchclaaU
namespace Go.Proofs.Ytcdiifjdbchclaa.Pure
open Go.RowKit Go.Proofs.Ytcdiifjdbchclaa.P Go.Proofs.YtcdiifjdbchclaaW.PrintWords Go.Proofs.YtcdiifjdbchclaaW.PrintLast
set_option linter.unusedVariables false
set_option linter.unusedSimpArgs false

theorem KeyringEpochs : slotmeshlaw32_KeyringEpochs.Pure := by
  intro a0 a1 h0 h1
  have h0 := wf_u32 h0
  have h1 := wf_u16 h1
  refine ⟨5, ?_⟩
  unfold slotmeshlaw32_KeyringEpochs.f
  rw [slot_eq h0]
  have hs : 0 ≤ a0 % 999996000 ∧ a0 % 999996000 < 999996000 := by omega
  generalize a0 % 999996000 = s at *
  have e0 : Int.tmod s 2000 = s % 2000 := Int.tmod_eq_emod_of_nonneg hs.1
  have e1 : wrap64 (s - s % 2000) = s - s % 2000 := w64 (by omega)
  have e2 : wrap64 (s - a1) = s - a1 := w64 (by omega)
  have e3 : wrap64 (s + 2000) = s + 2000 := w64 (by omega)
  have e4 : wrap64 (s - s % 2000 - 1) = s - s % 2000 - 1 := w64 (by omega)
  have e5 : wrap64 a1 = a1 := w64 (by omega)
  have b1 : slotB s = true := by simp [slotB]; omega
  have b3 : slotB (s + 2000) = true := by simp [slotB]; omega
  obtain ⟨m, hm⟩ : ∃ m, mx (s - s % 2000) (s - a1) = m := ⟨_, rfl⟩
  have hm2 : s - s % 2000 ≤ m ∧ m ≤ s := by subst hm; unfold mx; split <;> omega
  have b2 : slotB m = true := by simp [slotB]; omega
  have q2 : m / 2000 = s / 2000 := by omega
  have q3 : (s + 2000) / 2000 = s / 2000 + 1 := by omega
  have e6 : wrap64 (s / 2000 + 1) = s / 2000 + 1 := w64 (by omega)
  have e7 : wrap64 (s / 2000 - 1) = s / 2000 - 1 := w64 (by omega)
  simp only [slotmeshlaw32_head.f, Option.bind_some, epoch_f, e0, e1, e2, e3, e4, e5, e6, e7, hm, b1, b2, b3, q2, q3, if_true]
  by_cases hz : s - s % 2000 = 0
  · have b4 : slotB (-1) = false := by decide
    simp [b4, hz]
  · have b4 : slotB (s - s % 2000 - 1) = true := by simp [slotB]; omega
    have q4 : (s - s % 2000 - 1) / 2000 = s / 2000 - 1 := by omega
    have g : s - s % 2000 > 0 := by omega
    simp [b4, hz, q4, g]
    omega

end Go.Proofs.Ytcdiifjdbchclaa.Pure
