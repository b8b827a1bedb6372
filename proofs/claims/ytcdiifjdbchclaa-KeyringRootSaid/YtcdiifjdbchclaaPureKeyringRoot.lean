/- The plain side of KeyringRoot: for every slot number and every other epoch the printed law function answers true. -/
import Derived.Test.YtcdiifjdbchclaaR
import Derived.Test.YtcdiifjdbchclaaU
namespace Go.Proofs.Ytcdiifjdbchclaa.Pure
open Go.RowKit Go.Proofs.Ytcdiifjdbchclaa.P Go.Proofs.YtcdiifjdbchclaaW.PrintWords Go.Proofs.YtcdiifjdbchclaaW.PrintLast
set_option linter.unusedVariables false
set_option linter.unusedSimpArgs false

theorem KeyringRoot : slotmeshlaw32_KeyringRoot.Pure := by
  intro a0 a1 h0 h1
  have h0 := wf_u32 h0
  refine ⟨5, ?_⟩
  unfold slotmeshlaw32_KeyringRoot.f
  rw [slot_eq h0]
  have hs : 0 ≤ a0 % 999996000 ∧ a0 % 999996000 < 999996000 := by omega
  generalize a0 % 999996000 = s at *
  have b1 : slotB s = true := by simp [slotB]; omega
  have q : 0 ≤ s / 2000 ∧ s / 2000 ≤ 500000 := by omega
  simp only [slotmeshlaw32_head.f, Option.bind_some, epoch_f, root_f, knows_f, rootV, b1, if_true]
  generalize s / 2000 = e at *
  have e6 : wrap64 (e + 1) = e + 1 := w64 (by omega)
  rw [e6]
  have v : validB e (e + 2) = true := by simp [validB]; omega
  have k1 : knowsB e (e + 2) e = true := by simp [knowsB, v]; omega
  have k2 : knowsB e (e + 2) (e + 1) = true := by simp [knowsB, v]; omega
  simp only [k1, k2, if_true]
  by_cases g : a1 = e
  · subst g
    simp [k1]
  · simp only [g, if_false]
    simp only [knowsB, v, Bool.true_and]
    congr 1
    rw [beq_iff_eq, Bool.eq_iff_iff]
    simp
    omega
end Go.Proofs.Ytcdiifjdbchclaa.Pure
