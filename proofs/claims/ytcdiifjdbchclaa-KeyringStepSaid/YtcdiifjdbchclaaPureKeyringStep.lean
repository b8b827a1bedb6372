/- The plain side of KeyringStep: for every slot number and lists of slots the printed law function answers true. -/
import Derived.Test.YtcdiifjdbchclaaS
import Derived.Test.YtcdiifjdbchclaaU
namespace Go.Proofs.Ytcdiifjdbchclaa.Pure
open Go.RowKit Go.Proofs.Ytcdiifjdbchclaa.P Go.Proofs.YtcdiifjdbchclaaW.PrintWords Go.Proofs.YtcdiifjdbchclaaW.PrintLast
set_option linter.unusedVariables false
set_option linter.unusedSimpArgs false

theorem epoch_ge {k : Nat} (hk : 5 ≤ k) (n : Int) : keyring_Epoch.f k n = some (if slotB n then (n / 2000, 0) else (0, 1)) := at_rounds (g := fun k => keyring_Epoch.f k n) (keyring_Epoch.mono n) hk (epoch_f n)
theorem age_ge {k : Nat} (hk : 5 ≤ k) (a b n : Int) : keyring_Age.f k a b n = some (ageV a b n) := at_rounds (g := fun k => keyring_Age.f k a b n) (keyring_Age.mono a b n) hk (age_f a b n)
theorem root_ge {k : Nat} (hk : 5 ≤ k) (n : Int) : keyring_Root.f k n = some (rootV n) := at_rounds (g := fun k => keyring_Root.f k n) (keyring_Root.mono n) hk (root_f n)
theorem knows_ge {k : Nat} (hk : 5 ≤ k) (a b e : Int) : keyring_Knows.f k a b e = some (knowsB a b e) := at_rounds (g := fun k => keyring_Knows.f k a b e) (keyring_Knows.mono a b e) hk (knows_f a b e)

theorem ageV_at {a b n E : Int} (hs : slotB n = true) (hn : n / 2000 = E) (hv : validB a b = true) (h1 : a ≤ E) (h2 : E < b) : ageV a b n = (E, b) := by
  unfold ageV
  rw [hs, hv, hn]
  by_cases h : a < E
  · have : ¬ b ≤ E := by omega
    simp [h, this]
  · have : a = E := by omega
    simp [this]
theorem learnV_at {a b n E : Int} (hs : slotB n = true) (hn : n / 2000 = E) (h0 : 0 ≤ a) (h1 : a ≤ E) (hb : b = E + 1) (hE : E + 2 ≤ 500002) : learnV a b E (E + 2) n = (a, E + 2) := by
  have hE0 : E ≤ 500000 := by omega
  unfold learnV
  have k1 : knowsB a b E = true := by simp [knowsB, validB]; omega
  have k2 : knowsB E (E + 2) E = true := by simp [knowsB, validB]; omega
  rw [hs, hn, k1, k2]
  have m1 : mn a E = a := by unfold mn; omega
  have m2 : mx b (E + 2) = E + 2 := by unfold mx; omega
  simp [m1, m2]

theorem rd_u16 {l : List Int} (h : ∀ x ∈ l, (Lit.int .u16 x).wf = true) (i : Int) : 0 ≤ rd l i ∧ rd l i < 65536 := by
  unfold rd
  rw [List.getD_eq_getElem?_getD]
  cases hg : l[i.toNat]? with
  | none => simp
  | some v => exact wf_u16 (h v (List.mem_of_getElem? hg))

theorem step_rest {l1 l2 : List Int} {K : Nat} {E i a heard aged : Int} (hh : 2000 * E ≤ heard ∧ heard < 2000 * E + 2000) (hg : 2000 * E ≤ aged ∧ aged < 2000 * E + 2000) (hi : 0 ≤ i ∧ i < 30) (hE : 0 ≤ E ∧ E ≤ 499990) (ha : a = E ∨ a = E - 1) (h0 : 0 ≤ a)
    (hn : slotmeshlaw32_KeyringStep.l0 K l1 l2 true (2000 * (E + 1)) (i + 1) E (E + 2) = some true) :
    slotmeshlaw32_KeyringStep.j2 (K + 10 + 4) l1 l2 true (2000 * E) i heard aged a (E + 1) = some true := by
  have s0 : slotB (2000 * E) = true := by simp [slotB]; omega
  have s1 : slotB heard = true := by simp [slotB]; omega
  have s2 : slotB aged = true := by simp [slotB]; omega
  have q0 : 2000 * E / 2000 = E := by omega
  have q1 : heard / 2000 = E := by omega
  have q2 : aged / 2000 = E := by omega
  have v0 : validB a (E + 1) = true := by simp [validB]; omega
  have v1 : validB a (E + 2) = true := by simp [validB]; omega
  have v2 : validB E (E + 1) = true := by simp [validB]; omega
  have k0 : knowsB a (E + 1) E = true := by simp [knowsB, v0]; omega
  have k1 : knowsB E (E + 2) E = true := by simp [knowsB, validB]; omega
  have k2 : knowsB E (E + 2) (E + 1) = true := by simp [knowsB, validB]; omega
  have w1 : wrap64 (E + 1) = E + 1 := w64 (by omega)
  have w2 : wrap64 (2000 * E + 2000) = 2000 * (E + 1) := by rw [w64 (by omega)]; omega
  have w3 : wrap64 (i + 1) = i + 1 := w64 (by omega)
  have ro : rootV heard = (E, E + 2) := by simp [rootV, s1, q1]
  have hK : slotmeshlaw32_KeyringStep.l0 (K + 10) l1 l2 true (2000 * (E + 1)) (i + 1) E (E + 2) = some true :=
    at_rounds (g := fun k => slotmeshlaw32_KeyringStep.l0 k l1 l2 true (2000 * (E + 1)) (i + 1) E (E + 2)) (fun k => (slotmeshlaw32_KeyringStep.mono_l k).1 _ _ _ _ _ _ _) (by omega) hn
  have h5 : slotmeshlaw32_KeyringStep.j5 (K + 10 + 1) l1 l2 true (2000 * E) i E E (E + 2) = some true := by
    simp only [slotmeshlaw32_KeyringStep.j5, knows_ge (show 5 ≤ K + 10 by omega), Option.bind_some, k1, k2, w1, w2, w3, if_true]
    exact hK
  have a1 : ageV a (E + 1) aged = (E, E + 1) := ageV_at s2 q2 v0 (by omega) (by omega)
  have a2 : ageV a (E + 2) aged = (E, E + 2) := ageV_at s2 q2 v1 (by omega) (by omega)
  have e1 : learnV E (E + 1) E (E + 2) heard = (E, E + 2) := learnV_at s1 q1 (by omega) (by omega) rfl (by omega)
  have e2 : learnV a (E + 1) E (E + 2) heard = (a, E + 2) := learnV_at s1 q1 (by omega) (by omega) rfl (by omega)
  simp only [slotmeshlaw32_KeyringStep.j2, epoch_ge (show 5 ≤ K + 10 + 3 by omega), knows_ge (show 5 ≤ K + 10 + 3 by omega), Option.bind_some, s0, q0, k0, if_true, Bool.not_true]
  simp only [slotmeshlaw32_KeyringStep.j3, age_ge (show 5 ≤ K + 10 + 2 by omega), Option.bind_some, Bool.false_eq_true, if_false]
  by_cases hc : aged ≤ heard
  · have hc' : ¬ aged > heard := by omega
    simp only [hc, if_true, a1, slotmeshlaw32_KeyringStep.j4, root_ge (show 5 ≤ K + 10 + 1 by omega), age_ge (show 5 ≤ K + 10 + 1 by omega), keyring_Learn.f, Option.bind_some, ro, e1, hc', if_false]
    exact h5
  · have hc' : aged > heard := by omega
    simp only [hc, if_false, slotmeshlaw32_KeyringStep.j4, root_ge (show 5 ≤ K + 10 + 1 by omega), age_ge (show 5 ≤ K + 10 + 1 by omega), keyring_Learn.f, Option.bind_some, ro, e2, a2, hc', if_true]
    exact h5

theorem step_l0 {l1 l2 : List Int} (h1 : ∀ x ∈ l1, (Lit.int .u16 x).wf = true) (h2 : ∀ x ∈ l2, (Lit.int .u16 x).wf = true) (d : Nat) : ∀ (E i a : Int), 0 ≤ i → i + d = 30 → 0 ≤ E → E + d ≤ 499990 → (a = E ∨ a = E - 1) → 0 ≤ a →
    ∃ K, slotmeshlaw32_KeyringStep.l0 K l1 l2 true (2000 * E) i a (E + 1) = some true := by
  induction d with
  | zero =>
    intro E i a hi hd _ _ _ _
    refine ⟨2, ?_⟩
    have : ¬ i < 30 := by omega
    simp only [slotmeshlaw32_KeyringStep.l0, slotmeshlaw32_KeyringStep.j1, this, decide_false, Bool.false_eq_true, if_false, ite_self]
  | succ d ih =>
    intro E i a hi hd hE0 hE ha h0
    by_cases hl : i < (l1.length : Int)
    · obtain ⟨K, hK⟩ := ih (E + 1) (i + 1) E (by omega) (by omega) (by omega) (by omega) (.inr (by omega)) (by omega)
      have e : E + 1 + 1 = E + 2 := by omega
      rw [e] at hK
      have b1 := rd_u16 h1 i
      have b2 := rd_u16 h2 i
      have m1 : Int.tmod (wrap64 (rd l1 i)) 2000 = rd l1 i % 2000 := by rw [w64 (by omega), Int.tmod_eq_emod_of_nonneg b1.1]
      have m2 : Int.tmod (wrap64 (rd l2 i)) 2000 = rd l2 i % 2000 := by rw [w64 (by omega), Int.tmod_eq_emod_of_nonneg b2.1]
      have w1 : wrap64 (2000 * E + rd l1 i % 2000) = 2000 * E + rd l1 i % 2000 := w64 (by omega)
      have w2 : wrap64 (2000 * E + rd l2 i % 2000) = 2000 * E + rd l2 i % 2000 := w64 (by omega)
      have hi30 : i < 30 := by omega
      refine ⟨K + 10 + 4 + 2, ?_⟩
      simp only [slotmeshlaw32_KeyringStep.l0, hl, if_true, hi30, decide_true, slotmeshlaw32_KeyringStep.j1, hi, m1, m2, w1, w2]
      split
      · exact step_rest (by omega) (by omega) ⟨hi, hi30⟩ ⟨hE0, by omega⟩ ha h0 hK
      · exact step_rest (by omega) (by omega) ⟨hi, hi30⟩ ⟨hE0, by omega⟩ ha h0 hK
    · refine ⟨2, ?_⟩
      simp only [slotmeshlaw32_KeyringStep.l0, hl, if_false, slotmeshlaw32_KeyringStep.j1, Bool.false_eq_true]

theorem KeyringStep : slotmeshlaw32_KeyringStep.Pure := by
  intro a0 l1 l2 h0 _ _ h1 _ _ h2
  have h0 := wf_u32 h0
  have hs : 0 ≤ a0 % 999996000 ∧ a0 % 999996000 < 999996000 := by omega
  have hf : ∀ k, slotmeshlaw32_KeyringStep.f k a0 l1 l2 = slotmeshlaw32_KeyringStep.l0 k l1 l2 true (2000 * ((a0 % 999996000 % 999920000) / 2000)) 0 ((a0 % 999996000 % 999920000) / 2000) ((a0 % 999996000 % 999920000) / 2000 + 1) := by
    intro k
    unfold slotmeshlaw32_KeyringStep.f
    rw [slot_eq h0]
    generalize a0 % 999996000 = s at *
    have e1 : Int.tmod s 999920000 = s % 999920000 := Int.tmod_eq_emod_of_nonneg hs.1
    have e2 : Int.tmod s 2000 = s % 2000 := Int.tmod_eq_emod_of_nonneg hs.1
    have e3 : wrap64 (s % 999920000 - s % 2000) = 2000 * ((s % 999920000) / 2000) := by rw [w64 (by omega)]; omega
    simp only [slotmeshlaw32_head.f, Option.bind_some, slotmeshlaw32_ring.f, e1, e2, e3]
    have hE : 0 ≤ (s % 999920000) / 2000 ∧ (s % 999920000) / 2000 ≤ 499959 := by omega
    generalize (s % 999920000) / 2000 = E at *
    have e4 : Int.tdiv (2000 * E) 2000 = E := by rw [Int.tdiv_eq_ediv_of_nonneg (by omega)]; omega
    have e5 : wrap64 E = E := w64 (by omega)
    have e6 : wrap64 (E + 1) = E + 1 := w64 (by omega)
    rw [e4, e5, e6]
  have hE : 0 ≤ (a0 % 999996000 % 999920000) / 2000 ∧ (a0 % 999996000 % 999920000) / 2000 ≤ 499959 := by omega
  obtain ⟨K, hK⟩ := step_l0 h1 h2 30 ((a0 % 999996000 % 999920000) / 2000) 0 ((a0 % 999996000 % 999920000) / 2000) (by omega) (by omega) hE.1 (by omega) (.inl rfl) hE.1
  exact ⟨K, (hf K).trans hK⟩
end Go.Proofs.Ytcdiifjdbchclaa.Pure
