/- KeyringAging's contract: for every ring, slot numbers and epoch the law returns true and changes nothing older. -/
import Derived.Test.YtcdiifjdbchclaaA
import Derived.Test.YtcdiifjdbchclaaU
namespace Go.Proofs.Ytcdiifjdbchclaa.P
open Go.RowKit Go.Proofs.YtcdiifjdbchclaaW.PrintWords Go.Proofs.YtcdiifjdbchclaaW.PrintLast
set_option linter.unusedVariables false
set_option linter.unusedSimpArgs false

theorem valid_age {a b n : Int} (hn : slotB n = true) (v : validB a b = true) : validB (ageV a b n).1 (ageV a b n).2 = true := by
  have := slot_dom hn
  unfold ageV
  simp only [hn, v, Bool.and_self, Bool.true_and]
  split
  · rename_i h
    simp at h
    split
    · decide
    · simp [validB] at v ⊢; omega
  · exact v
theorem invalid_age {a b n : Int} (v : validB a b = false) : ageV a b n = (a, b) := by simp [ageV, v]
theorem age_age {a b n m : Int} (hm : slotB m = true) (hn : slotB n = true) (h : m ≤ n) : ageV (ageV a b n).1 (ageV a b n).2 m = ageV a b n := by
  have q : m / 2000 ≤ n / 2000 := by omega
  have := slot_dom hm
  cases v : validB a b
  · simp [ageV, v]
  · by_cases g : a < n / 2000
    · by_cases g2 : b ≤ n / 2000
      · have e : ageV a b n = (0, 0) := by simp [ageV, hn, v, g, g2]
        rw [e]
        simp only [ageV, hm, Bool.true_and]
        split
        · rw [if_pos (by omega)]
        · rfl
      · have e : ageV a b n = (n / 2000, b) := by simp [ageV, hn, v, g, g2]
        rw [e]
        have : ¬ (n / 2000 < m / 2000) := by omega
        simp [ageV, this]
    · have e : ageV a b n = (a, b) := by simp [ageV, g]
      rw [e]
      have : ¬ (a < m / 2000) := by omega
      simp [ageV, this]
theorem knows_age {a b n e : Int} (hn : slotB n = true) : knowsB (ageV a b n).1 (ageV a b n).2 e = (knowsB a b e && decide (n / 2000 ≤ e)) := by
  have := slot_dom hn
  cases v : validB a b
  · rw [invalid_age v]; simp [knowsB, v]
  · have v' := valid_age hn v
    rw [Bool.eq_iff_iff]
    simp only [knowsB, v, v', Bool.true_and, Bool.and_eq_true, decide_eq_true_eq]
    simp only [ageV, hn, v, Bool.true_and, decide_eq_true_eq]
    split
    · split
      · simp; omega
      · simp; omega
    · simp only []
      simp [validB] at v
      omega

theorem up5 {α : Type} {F : Nat → Option α} (mono : ∀ k, LeO (F k) (F (k + 1))) {r : α} (h : F 5 = some r) : ∀ j, F (5 + j) = some r
  | 0 => h
  | j + 1 => mono (5 + j) r (up5 mono h j)
theorem epoch_6 (n : Int) : keyring_Epoch.f 6 n = some (if slotB n then (n / 2000, 0) else (0, 1)) := up5 (F := fun k => keyring_Epoch.f k n) (keyring_Epoch.mono n) (epoch_f n) 1
theorem age_6 (a b n : Int) : keyring_Age.f 6 a b n = some (ageV a b n) := up5 (F := fun k => keyring_Age.f k a b n) (keyring_Age.mono a b n) (age_f a b n) 1

theorem keyringAging_f (a b n m e : Int) (hn : 0 ≤ n ∧ n < 4294967296) (hm : 0 ≤ m ∧ m < 4294967296) : slotmeshlaw32_KeyringAging.f 6 a b n m e = some true := by
  unfold slotmeshlaw32_KeyringAging.f
  rw [slot_eq hn]
  have hs : 0 ≤ n % 999996000 ∧ n % 999996000 < 999996000 := by omega
  generalize n % 999996000 = s at *
  have b1 : slotB s = true := by simp [slotB]; omega
  have e1 : wrap64 (s + 1) = s + 1 := w64 (by omega)
  have e2 : wrap64 m = m := w64 (by omega)
  have e3 : Int.tmod m (s + 1) = m % (s + 1) := Int.tmod_eq_emod_of_nonneg hm.1
  have hz : ¬ (s + 1 = 0) := by omega
  have hb : 0 ≤ m % (s + 1) ∧ m % (s + 1) ≤ s := ⟨Int.emod_nonneg _ hz, by have := Int.emod_lt_of_pos m (show 0 < s + 1 by omega); omega⟩
  have b2 : slotB (m % (s + 1)) = true := by simp [slotB]; omega
  simp only [slotmeshlaw32_head.f, Option.bind_some, epoch_6, age_6, e1, e2, e3, hz, if_false, b1, if_true]
  rw [age_age b1 b1 (Int.le_refl _), age_age b2 b1 hb.2]
  simp [slotmeshlaw32_KeyringAging.j0, knows_f, knows_age b1]
  cases knowsB a b e <;> simp
theorem keyringAging_any (a b n m e : Int) (w : World) (wa : (Lit.int .i64 a).wf = true) (wb : (Lit.int .i64 b).wf = true) (wn : (Lit.int .u32 n).wf = true) (wm : (Lit.int .u32 m).wf = true) (we : (Lit.int .i64 e).wf = true) :
    Calls Try.prog 8 #[.agg #[.int .i64 a, .int .i64 b], .int .u32 n, .int .u32 m, .int .i64 e] w fun e w' => e = .returned (.bool true) ∧ Below w.heap.size w w' :=
  slotmeshlaw32_KeyringAging.calls 6 a b n m e true w (keyringAging_f a b n m e (wf_u32 wn) (wf_u32 wm))
end Go.Proofs.Ytcdiifjdbchclaa.P
