-- LAID BY PROGRAM out of the translation's own text (no part of it is trusted: Lean checks every line)
import Derived.Test.YtppkmmifjfcfiaaB
namespace Go.Proofs.Ytppkmmifjfcfiaa.P
open Go.RowKit Go.Proofs.YtppkmmifjfcfiaaW.PrintWords Go.Proofs.YtppkmmifjfcfiaaW.PrintLast Go.Proofs.YtppkmmifjfcfiaaW.PrintMore
attribute [local go_sem] max2_int min2_int max_two min_two max_three min_three max_four min_four   -- for this text's walks alone
set_option linter.unusedVariables false
set_option linter.unusedSimpArgs false

/-! ### slotmeshref22_Valid: function 16 -/
mutual
def slotmeshref22_Valid.l0 : Nat → List (List Bool) → Int → Int → Option (Bool)
  | 0, _, _, _ => none
  | k + 1, x0, x3, x4 => if x4 < x3 then (if 0 ≤ x4 then (if x4 < (x0.length : Int) then (if ((rd_L2 x0 x4).length : Int) = x3 then (slotmeshref22_Valid.l0 k x0 x3 (wrap64 (x4 + 1))) else (some false)) else (none)) else (none)) else (slotmeshref22_Valid.l1 k x0 x3 0)
def slotmeshref22_Valid.l1 : Nat → List (List Bool) → Int → Int → Option (Bool)
  | 0, _, _, _ => none
  | k + 1, x0, x3, x5 => if x5 < x3 then (slotmeshref22_Valid.l2 k x0 x3 x5 0) else (some true)
def slotmeshref22_Valid.l2 : Nat → List (List Bool) → Int → Int → Int → Option (Bool)
  | 0, _, _, _, _ => none
  | k + 1, x0, x3, x5, x6 => if x6 < x3 then (if 0 ≤ x5 then (if x5 < (x0.length : Int) then (if 0 ≤ x6 then (if x6 < ((rd_L2 x0 x5).length : Int) then (if x6 < (x0.length : Int) then (if x5 < ((rd_L2 x0 x6).length : Int) then (if ((rdOf false (rd_L2 x0 x5) x6) != (rdOf false (rd_L2 x0 x6) x5)) = true then (some false) else (if x5 = x6 then (if rdOf false (rd_L2 x0 x5) x6 = true then (some false) else (slotmeshref22_Valid.l2 k x0 x3 x5 (wrap64 (x6 + 1)))) else (slotmeshref22_Valid.l2 k x0 x3 x5 (wrap64 (x6 + 1))))) else (none)) else (none)) else (none)) else (none)) else (none)) else (none)) else (slotmeshref22_Valid.l1 k x0 x3 (wrap64 (x5 + 1)))
end
def slotmeshref22_Valid.f (k : Nat) (l0 : List (List Bool)) : Option (Bool) := if (l0.length : Int) > 60 then (some false) else (slotmeshref22_Valid.l0 k l0 (l0.length : Int) 0)
theorem slotmeshref22_Valid.mono_l : ∀ k, (∀ y0 y1 y2, LeO (slotmeshref22_Valid.l0 k y0 y1 y2) (slotmeshref22_Valid.l0 (k + 1) y0 y1 y2)) ∧ (∀ y0 y1 y2, LeO (slotmeshref22_Valid.l1 k y0 y1 y2) (slotmeshref22_Valid.l1 (k + 1) y0 y1 y2)) ∧ (∀ y0 y1 y2 y3, LeO (slotmeshref22_Valid.l2 k y0 y1 y2 y3) (slotmeshref22_Valid.l2 (k + 1) y0 y1 y2 y3))
  | 0 => ⟨fun _ _ _ r h => by simp [slotmeshref22_Valid.l0] at h, fun _ _ _ r h => by simp [slotmeshref22_Valid.l1] at h, fun _ _ _ _ r h => by simp [slotmeshref22_Valid.l2] at h⟩
  | k + 1 => by
    obtain ⟨ih0, ih1, ih2⟩ := slotmeshref22_Valid.mono_l k
    refine ⟨?_, ?_, ?_⟩
    · intro y0 y1 y2
      unfold slotmeshref22_Valid.l0
      repeat' first
      | (with_reducible exact ih0 _ _ _)
      | (with_reducible exact ih1 _ _ _)
      | (with_reducible exact ih2 _ _ _ _)
      | (with_reducible exact LeO.refl _)
      | (with_reducible exact LeO.none _)
      | (with_reducible refine LeO.ite ?_ ?_)
      | (with_reducible refine LeO.bind ?_ (fun _ => ?_))
      | exact ih0 _ _ _
      | exact ih1 _ _ _
      | exact ih2 _ _ _ _
      | exact LeO.none _
      | refine LeO.ite ?_ ?_
      | refine LeO.bind ?_ (fun _ => ?_)
    · intro y0 y1 y2
      unfold slotmeshref22_Valid.l1
      repeat' first
      | (with_reducible exact ih0 _ _ _)
      | (with_reducible exact ih1 _ _ _)
      | (with_reducible exact ih2 _ _ _ _)
      | (with_reducible exact LeO.refl _)
      | (with_reducible exact LeO.none _)
      | (with_reducible refine LeO.ite ?_ ?_)
      | (with_reducible refine LeO.bind ?_ (fun _ => ?_))
      | exact ih0 _ _ _
      | exact ih1 _ _ _
      | exact ih2 _ _ _ _
      | exact LeO.none _
      | refine LeO.ite ?_ ?_
      | refine LeO.bind ?_ (fun _ => ?_)
    · intro y0 y1 y2 y3
      unfold slotmeshref22_Valid.l2
      repeat' first
      | (with_reducible exact ih0 _ _ _)
      | (with_reducible exact ih1 _ _ _)
      | (with_reducible exact ih2 _ _ _ _)
      | (with_reducible exact LeO.refl _)
      | (with_reducible exact LeO.none _)
      | (with_reducible refine LeO.ite ?_ ?_)
      | (with_reducible refine LeO.bind ?_ (fun _ => ?_))
      | exact ih0 _ _ _
      | exact ih1 _ _ _
      | exact ih2 _ _ _ _
      | exact LeO.none _
      | refine LeO.ite ?_ ?_
      | refine LeO.bind ?_ (fun _ => ?_)
theorem slotmeshref22_Valid.mono : ∀ a0 k, LeO (slotmeshref22_Valid.f k a0) (slotmeshref22_Valid.f (k + 1) a0) := by
  intro a0 k
  obtain ⟨ih0, ih1, ih2⟩ := slotmeshref22_Valid.mono_l k
  unfold slotmeshref22_Valid.f
  repeat' first
      | (with_reducible exact ih0 _ _ _)
      | (with_reducible exact ih1 _ _ _)
      | (with_reducible exact ih2 _ _ _ _)
      | (with_reducible exact LeO.refl _)
      | (with_reducible exact LeO.none _)
      | (with_reducible refine LeO.ite ?_ ?_)
      | (with_reducible refine LeO.bind ?_ (fun _ => ?_))
      | exact ih0 _ _ _
      | exact ih1 _ _ _
      | exact ih2 _ _ _ _
      | exact LeO.none _
      | refine LeO.ite ?_ ?_
      | refine LeO.bind ?_ (fun _ => ?_)
set_option maxHeartbeats 8000000 in
set_option maxRecDepth 100000 in
theorem slotmeshref22_Valid.calls (k : Nat) (A0 : Option Addr) (c0 : Nat) (l0 : List (List Bool)) (r : Bool) (w : World) (hr0 : Kd.C (Kd.slice 4 Kd.bool) w A0 l0.length l0) (hc0 : l0.length ≤ c0) (h : slotmeshref22_Valid.f k l0 = some r) :
    Calls Try.prog 16 #[.slice A0 l0.length c0] w fun e w' => e = .returned (.bool r) ∧ Drawn0 w w' := by
  have HR0 := Aside0.mk hr0
  have HC0 := Aside0.mk hc0
  clear hr0 hc0
  have H : (if (l0.length : Int) > 60 then (some false) else (slotmeshref22_Valid.l0 k l0 (l0.length : Int) 0)) = some r := h
  clear h
  by_cases c2 : (l0.length : Int) > 60
  · rw [if_pos c2] at H
    have c2b0 : decide (60 < (l0.length : Int)) = true := decide_eq_true c2
    have c2b1 : decide (60 < l0.length) = true := decide_eq_true (by omega)
    clear c2
    obtain rfl := Option.some.inj H
    go_enter Try.func16, Try.ntmps16
    go_wp2
    repeat (go_quiet (fail); try go_wp2)
    go_ret
    exact ⟨by first | rfl | (simp; done) | (simp [*]; done), by repeat (first | exact Drawn0.refl _ | apply Drawn0.step)⟩
  · rw [if_neg c2] at H
    have c2b0 : decide (60 < (l0.length : Int)) = false := decide_eq_false c2
    have c2b1 : decide (60 < l0.length) = false := decide_eq_false (by omega)
    clear c2
    have H' := Aside0.mk H
    clear H
    go_enter Try.func16, Try.ntmps16
    go_wp2
    repeat (go_quiet (fail); try go_wp2)
    go_loopg [4] k (fun kq v4 w' => ∃ (x4_1 : Int), v4 = .int .i64 x4_1 ∧ Aside0 (slotmeshref22_Valid.l0 kq l0 (l0.length : Int) x4_1 = some r) ∧ Aside0 (kq ≤ k) ∧ Drawn0 w w')
    case atStart => exact ⟨(0), (by first | rfl | (simp; done) | (simp [*]; done)), H', ⟨Nat.le_refl _⟩, by repeat (first | exact Drawn0.refl _ | apply Drawn0.step)⟩
    case round =>
      clear H'
      try clear c1
      try clear c2
      try clear c2b0
      try clear c2b1
      try clear p2
      obtain ⟨x4_1, rfl, HA, HK1, ⟨m1, rfl⟩⟩ := hrel
      cases gk with
      | zero => exact absurd HA.out (by simp [slotmeshref22_Valid.l0])
      | succ k1 =>
        have H := HA.out
        clear HA
        simp only [slotmeshref22_Valid.l0] at H
        by_cases c3 : x4_1 < (l0.length : Int)
        · rw [if_pos c3] at H
          have c3b0 : decide (x4_1 < (l0.length : Int)) = true := decide_eq_true c3
          clear c3
          by_cases c4 : 0 ≤ x4_1
          · rw [if_pos c4] at H
            have c4b0 : decide (0 ≤ x4_1) = true := decide_eq_true c4
            clear c4
            by_cases c5 : x4_1 < (l0.length : Int)
            · rw [if_pos c5] at H
              have c5b0 : decide (x4_1 < (l0.length : Int)) = true := decide_eq_true c5
              clear c5
              by_cases c6 : ((rd_L2 l0 x4_1).length : Int) = (l0.length : Int)
              · rw [if_pos c6] at H
                have c6b0 : (((rd_L2 l0 x4_1).length : Int) == (l0.length : Int)) = true := beq_iff_eq.mpr c6
                have c6b1 : (((rd_L2 l0 x4_1).length : Int) != (l0.length : Int)) = false := bne_eq_false_iff_eq.mpr c6
                have c6b2 : ((rd_L2 l0 x4_1).length == l0.length) = true := by first | simpa using c6 | (simp at c6 ⊢; omega)
                clear c6
                have H' := Aside0.mk H
                clear H
                have p121 : 0 ≤ (x4_1 : Int) := of_decide_eq_true (by first | (with_reducible assumption) | assumption)
                have q121 : x4_1 < (l0.length : Int) := of_decide_eq_true (by first | (with_reducible assumption) | assumption)
                obtain ⟨ad121, A121_0, c121_0, e121, hx121_0, hl121_0, hi121_0⟩ := at_L2 HR0.out x4_1 p121 q121
                cases e121
                have HR121_0 := Aside0.mk hi121_0
                have HC121_0 := Aside0.mk hl121_0
                clear hi121_0 hl121_0
                replace p121 := eq_true p121
                replace q121 := eq_true q121
                go_wp2
                repeat (go_quiet (fail); try go_wp2)
                go_roundg k1
                case measure => have := HK1.out; omega
                case rel => exact ⟨(wrap64 (x4_1 + 1)), (by first | rfl | (simp; done) | (simp [*]; done)), H', ⟨by have := HK1.out; omega⟩, by repeat (first | exact Drawn0.refl _ | apply Drawn0.step)⟩
              · rw [if_neg c6] at H
                have c6b0 : (((rd_L2 l0 x4_1).length : Int) == (l0.length : Int)) = false := beq_eq_false_iff_ne.mpr c6
                have c6b1 : (((rd_L2 l0 x4_1).length : Int) != (l0.length : Int)) = true := bne_iff_ne.mpr c6
                have c6b2 : ((rd_L2 l0 x4_1).length == l0.length) = false := by first | simpa using c6 | (simp at c6 ⊢; omega)
                obtain rfl := Option.some.inj H
                have p121 : 0 ≤ (x4_1 : Int) := of_decide_eq_true (by first | (with_reducible assumption) | assumption)
                have q121 : x4_1 < (l0.length : Int) := of_decide_eq_true (by first | (with_reducible assumption) | assumption)
                obtain ⟨ad121, A121_0, c121_0, e121, hx121_0, hl121_0, hi121_0⟩ := at_L2 HR0.out x4_1 p121 q121
                cases e121
                have HR121_0 := Aside0.mk hi121_0
                have HC121_0 := Aside0.mk hl121_0
                clear hi121_0 hl121_0
                replace p121 := eq_true p121
                replace q121 := eq_true q121
                go_wp2
                repeat (go_quiet (fail); try go_wp2)
                go_ret
                exact ⟨by first | rfl | (simp; done) | (simp [*]; done), by repeat (first | exact Drawn0.refl _ | apply Drawn0.step)⟩
            · rw [if_neg c5] at H
              exact absurd H (by simp)
          · rw [if_neg c4] at H
            exact absurd H (by simp)
        · rw [if_neg c3] at H
          have c3b0 : decide (x4_1 < (l0.length : Int)) = false := decide_eq_false c3
          clear c3
          have H' := Aside0.mk H
          clear H
          go_wp2
          repeat (go_quiet (fail); try go_wp2)
          go_loopg [5] k1 (fun kq v5 w' => ∃ (x5_2 : Int), v5 = .int .i64 x5_2 ∧ Aside0 (slotmeshref22_Valid.l1 kq l0 (l0.length : Int) x5_2 = some r) ∧ Aside0 (kq ≤ k1) ∧ Drawn0 w w')
          case atStart => exact ⟨(0), (by first | rfl | (simp; done) | (simp [*]; done)), H', ⟨Nat.le_refl _⟩, by repeat (first | exact Drawn0.refl _ | apply Drawn0.step)⟩
          case round =>
            clear H'
            try clear c1
            try clear p1
            try clear q1
            try clear hx1
            try clear c2
            try clear c2b0
            try clear c2b1
            try clear p2
            try clear c3
            try clear c3b0
            try clear c4
            try clear c4b0
            try clear c5
            try clear c5b0
            try clear c6
            try clear c6b0
            try clear c6b1
            try clear c6b2
            try clear p6
            try clear hx121_0
            try clear p121
            try clear p2
            try clear q121
            obtain ⟨x5_2, rfl, HA, HK2, ⟨m2, rfl⟩⟩ := hrel
            cases gk with
            | zero => exact absurd HA.out (by simp [slotmeshref22_Valid.l1])
            | succ k2 =>
              have H := HA.out
              clear HA
              simp only [slotmeshref22_Valid.l1] at H
              by_cases c7 : x5_2 < (l0.length : Int)
              · rw [if_pos c7] at H
                have c7b0 : decide (x5_2 < (l0.length : Int)) = true := decide_eq_true c7
                clear c7
                have H' := Aside0.mk H
                clear H
                go_wp2
                repeat (go_quiet (fail); try go_wp2)
                go_loopg [6] k2 (fun kq v6 w' => ∃ (x6_3 : Int), v6 = .int .i64 x6_3 ∧ Aside0 (slotmeshref22_Valid.l2 kq l0 (l0.length : Int) x5_2 x6_3 = some r) ∧ Aside0 (kq ≤ k2) ∧ Drawn0 w w')
                case atStart => exact ⟨(0), (by first | rfl | (simp; done) | (simp [*]; done)), H', ⟨Nat.le_refl _⟩, by repeat (first | exact Drawn0.refl _ | apply Drawn0.step)⟩
                case round =>
                  clear H'
                  try clear c1
                  try clear p1
                  try clear q1
                  try clear hx1
                  try clear c2
                  try clear c2b0
                  try clear c2b1
                  try clear p2
                  try clear c3
                  try clear c3b0
                  try clear c4
                  try clear c4b0
                  try clear c5
                  try clear c5b0
                  try clear c6
                  try clear c6b0
                  try clear c6b1
                  try clear c6b2
                  try clear p6
                  try clear c7
                  try clear c7b0
                  try clear hx121_0
                  try clear p1
                  try clear p121
                  try clear p2
                  try clear p6
                  try clear q1
                  try clear q121
                  obtain ⟨x6_3, rfl, HA, HK3, ⟨m3, rfl⟩⟩ := hrel
                  cases gk with
                  | zero => exact absurd HA.out (by simp [slotmeshref22_Valid.l2])
                  | succ k3 =>
                    have H := HA.out
                    clear HA
                    simp only [slotmeshref22_Valid.l2] at H
                    by_cases c8 : x6_3 < (l0.length : Int)
                    · rw [if_pos c8] at H
                      have c8b0 : decide (x6_3 < (l0.length : Int)) = true := decide_eq_true c8
                      clear c8
                      by_cases c9 : 0 ≤ x5_2
                      · rw [if_pos c9] at H
                        have c9b0 : decide (0 ≤ x5_2) = true := decide_eq_true c9
                        clear c9
                        by_cases c10 : x5_2 < (l0.length : Int)
                        · rw [if_pos c10] at H
                          have c10b0 : decide (x5_2 < (l0.length : Int)) = true := decide_eq_true c10
                          clear c10
                          by_cases c11 : 0 ≤ x6_3
                          · rw [if_pos c11] at H
                            have c11b0 : decide (0 ≤ x6_3) = true := decide_eq_true c11
                            clear c11
                            by_cases c12 : x6_3 < ((rd_L2 l0 x5_2).length : Int)
                            · rw [if_pos c12] at H
                              have c12b0 : decide (x6_3 < ((rd_L2 l0 x5_2).length : Int)) = true := decide_eq_true c12
                              clear c12
                              by_cases c13 : x6_3 < (l0.length : Int)
                              · rw [if_pos c13] at H
                                have c13b0 : decide (x6_3 < (l0.length : Int)) = true := decide_eq_true c13
                                clear c13
                                by_cases c14 : x5_2 < ((rd_L2 l0 x6_3).length : Int)
                                · rw [if_pos c14] at H
                                  have c14b0 : decide (x5_2 < ((rd_L2 l0 x6_3).length : Int)) = true := decide_eq_true c14
                                  clear c14
                                  by_cases c15 : ((rdOf false (rd_L2 l0 x5_2) x6_3) != (rdOf false (rd_L2 l0 x6_3) x5_2)) = true
                                  · rw [if_pos c15] at H
                                    have c15b0 : ((rdOf false (rd_L2 l0 x5_2) x6_3) != (rdOf false (rd_L2 l0 x6_3) x5_2)) = true := c15
                                    (try (have c15b1 : decide ((rdOf false (rd_L2 l0 x5_2) x6_3) = (rdOf false (rd_L2 l0 x6_3) x5_2)) = false := by simpa using c15))
                                    (try (have c15b2 : ((rdOf false (rd_L2 l0 x5_2) x6_3) == (rdOf false (rd_L2 l0 x6_3) x5_2)) = false := by simpa using c15))
                                    (try (have c15b3 : ¬ ((rdOf false (rd_L2 l0 x5_2) x6_3) = (rdOf false (rd_L2 l0 x6_3) x5_2)) := by simpa using c15))
                                    clear c15
                                    obtain rfl := Option.some.inj H
                                    have p122 : 0 ≤ (x5_2 : Int) := of_decide_eq_true (by first | (with_reducible assumption) | assumption)
                                    have q122 : x5_2 < (l0.length : Int) := of_decide_eq_true (by first | (with_reducible assumption) | assumption)
                                    obtain ⟨ad122, A122_0, c122_0, e122, hx122_0, hl122_0, hi122_0⟩ := at_L2 HR0.out x5_2 p122 q122
                                    cases e122
                                    have HR122_0 := Aside0.mk hi122_0
                                    have HC122_0 := Aside0.mk hl122_0
                                    clear hi122_0 hl122_0
                                    replace p122 := eq_true p122
                                    replace q122 := eq_true q122
                                    have p123 : 0 ≤ (x6_3 : Int) := of_decide_eq_true (by first | (with_reducible assumption) | assumption)
                                    have q123 : x6_3 < ((rd_L2 l0 x5_2).length : Int) := of_decide_eq_true (by first | (with_reducible assumption) | assumption)
                                    obtain ⟨ad123, e123, hx123_0⟩ := Kd.at_bool HR122_0.out x6_3 p123 q123
                                    cases e123
                                    replace p123 := eq_true p123
                                    replace q123 := eq_true q123
                                    have p124 : 0 ≤ (x6_3 : Int) := of_decide_eq_true (by first | (with_reducible assumption) | assumption)
                                    have q124 : x6_3 < (l0.length : Int) := of_decide_eq_true (by first | (with_reducible assumption) | assumption)
                                    obtain ⟨ad124, A124_0, c124_0, e124, hx124_0, hl124_0, hi124_0⟩ := at_L2 HR0.out x6_3 p124 q124
                                    obtain rfl : ad122 = ad124 := (by injection e124)
                                    have HR124_0 := Aside0.mk hi124_0
                                    have HC124_0 := Aside0.mk hl124_0
                                    clear hi124_0 hl124_0
                                    replace p124 := eq_true p124
                                    replace q124 := eq_true q124
                                    have p125 : 0 ≤ (x5_2 : Int) := of_decide_eq_true (by first | (with_reducible assumption) | assumption)
                                    have q125 : x5_2 < ((rd_L2 l0 x6_3).length : Int) := of_decide_eq_true (by first | (with_reducible assumption) | assumption)
                                    obtain ⟨ad125, e125, hx125_0⟩ := Kd.at_bool HR124_0.out x5_2 p125 q125
                                    cases e125
                                    replace p125 := eq_true p125
                                    replace q125 := eq_true q125
                                    go_wp2
                                    repeat (go_quiet (fail); try go_wp2)
                                    go_ret
                                    exact ⟨by first | rfl | (simp; done) | (simp [*]; done), by repeat (first | exact Drawn0.refl _ | apply Drawn0.step)⟩
                                  · rw [if_neg c15] at H
                                    have c15b0 : ((rdOf false (rd_L2 l0 x5_2) x6_3) != (rdOf false (rd_L2 l0 x6_3) x5_2)) = false := by simpa using c15
                                    (try (have c15b1 : decide ((rdOf false (rd_L2 l0 x5_2) x6_3) = (rdOf false (rd_L2 l0 x6_3) x5_2)) = true := by simpa using c15))
                                    (try (have c15b2 : ((rdOf false (rd_L2 l0 x5_2) x6_3) == (rdOf false (rd_L2 l0 x6_3) x5_2)) = true := by simpa using c15))
                                    clear c15
                                    by_cases c16 : x5_2 = x6_3
                                    · rw [if_pos c16] at H
                                      subst c16
                                      obtain ⟨bq17, hbq17⟩ : ∃ b_ : Bool, b_ = (rdOf false (rd_L2 l0 x5_2) x5_2) := ⟨_, rfl⟩
                                      replace H : (if bq17 = true then (some false) else (slotmeshref22_Valid.l2 k3 l0 (l0.length : Int) x5_2 (wrap64 (x5_2 + 1)))) = some r := by rw [← hbq17] at H; exact H
                                      have Nbq17 := Aside0.mk hbq17
                                      clear hbq17
                                      by_cases c18 : bq17 = true
                                      · subst c18
                                        have H1 : (some false) = some r := by rw [if_pos rfl] at H; exact H
                                        clear H
                                        have H := H1
                                        clear H1
                                        obtain rfl := Option.some.inj H
                                        have p122 : 0 ≤ (x5_2 : Int) := of_decide_eq_true (by first | (with_reducible assumption) | assumption)
                                        have q122 : x5_2 < (l0.length : Int) := of_decide_eq_true (by first | (with_reducible assumption) | assumption)
                                        obtain ⟨ad122, A122_0, c122_0, e122, hx122_0, hl122_0, hi122_0⟩ := at_L2 HR0.out x5_2 p122 q122
                                        cases e122
                                        have HR122_0 := Aside0.mk hi122_0
                                        have HC122_0 := Aside0.mk hl122_0
                                        clear hi122_0 hl122_0
                                        replace p122 := eq_true p122
                                        replace q122 := eq_true q122
                                        have p123 : 0 ≤ (x5_2 : Int) := of_decide_eq_true (by first | (with_reducible assumption) | assumption)
                                        have q123 : x5_2 < ((rd_L2 l0 x5_2).length : Int) := of_decide_eq_true (by first | (with_reducible assumption) | assumption)
                                        obtain ⟨ad123, e123, hx123_0⟩ := Kd.at_bool HR122_0.out x5_2 p123 q123
                                        (try rw [← Nbq17.out] at hx123_0)
                                        cases e123
                                        replace p123 := eq_true p123
                                        replace q123 := eq_true q123
                                        have p124 : 0 ≤ (x5_2 : Int) := of_decide_eq_true (by first | (with_reducible assumption) | assumption)
                                        have q124 : x5_2 < (l0.length : Int) := of_decide_eq_true (by first | (with_reducible assumption) | assumption)
                                        obtain ⟨ad124, A124_0, c124_0, e124, hx124_0, hl124_0, hi124_0⟩ := at_L2 HR0.out x5_2 p124 q124
                                        obtain rfl : ad122 = ad124 := (by injection e124)
                                        have eb_ := Option.some.inj (hx122_0.symm.trans hx124_0)
                                        injection eb_ with eb_ en_ ec_
                                        subst eb_
                                        subst ec_
                                        clear en_
                                        have HR124_0 := Aside0.mk hi124_0
                                        have HC124_0 := Aside0.mk hl124_0
                                        clear hi124_0 hl124_0
                                        replace p124 := eq_true p124
                                        replace q124 := eq_true q124
                                        have p125 : 0 ≤ (x5_2 : Int) := of_decide_eq_true (by first | (with_reducible assumption) | assumption)
                                        have q125 : x5_2 < ((rd_L2 l0 x5_2).length : Int) := of_decide_eq_true (by first | (with_reducible assumption) | assumption)
                                        obtain ⟨ad125, e125, hx125_0⟩ := Kd.at_bool HR124_0.out x5_2 p125 q125
                                        (try rw [← Nbq17.out] at hx125_0)
                                        cases e125
                                        replace p125 := eq_true p125
                                        replace q125 := eq_true q125
                                        have p126 : 0 ≤ (x5_2 : Int) := of_decide_eq_true (by first | (with_reducible assumption) | assumption)
                                        have q126 : x5_2 < (l0.length : Int) := of_decide_eq_true (by first | (with_reducible assumption) | assumption)
                                        obtain ⟨ad126, A126_0, c126_0, e126, hx126_0, hl126_0, hi126_0⟩ := at_L2 HR0.out x5_2 p126 q126
                                        obtain rfl : ad122 = ad126 := (by injection e126)
                                        have HR126_0 := Aside0.mk hi126_0
                                        have HC126_0 := Aside0.mk hl126_0
                                        clear hi126_0 hl126_0
                                        replace p126 := eq_true p126
                                        replace q126 := eq_true q126
                                        have ea_ := Option.some.inj (hx122_0.symm.trans hx126_0)
                                        injection ea_ with ea_ en_ ec_
                                        subst ea_
                                        subst ec_
                                        clear en_
                                        have p127 : 0 ≤ (x5_2 : Int) := of_decide_eq_true (by first | (with_reducible assumption) | assumption)
                                        have q127 : x5_2 < ((rd_L2 l0 x5_2).length : Int) := of_decide_eq_true (by first | (with_reducible assumption) | assumption)
                                        obtain ⟨ad127, e127, hx127_0⟩ := Kd.at_bool HR126_0.out x5_2 p127 q127
                                        (try rw [← Nbq17.out] at hx127_0)
                                        cases e127
                                        replace p127 := eq_true p127
                                        replace q127 := eq_true q127
                                        go_wp2
                                        repeat (go_quiet (fail); try go_wp2)
                                        go_ret
                                        exact ⟨by first | rfl | (simp; done) | (simp [*]; done), by repeat (first | exact Drawn0.refl _ | apply Drawn0.step)⟩
                                      · replace c18 := Bool.eq_false_iff.mpr c18
                                        subst c18
                                        have H1 : (slotmeshref22_Valid.l2 k3 l0 (l0.length : Int) x5_2 (wrap64 (x5_2 + 1))) = some r := by rw [if_neg (show ¬ (false = true) by decide)] at H; exact H
                                        clear H
                                        have H := H1
                                        clear H1
                                        have H' := Aside0.mk H
                                        clear H
                                        have p122 : 0 ≤ (x5_2 : Int) := of_decide_eq_true (by first | (with_reducible assumption) | assumption)
                                        have q122 : x5_2 < (l0.length : Int) := of_decide_eq_true (by first | (with_reducible assumption) | assumption)
                                        obtain ⟨ad122, A122_0, c122_0, e122, hx122_0, hl122_0, hi122_0⟩ := at_L2 HR0.out x5_2 p122 q122
                                        cases e122
                                        have HR122_0 := Aside0.mk hi122_0
                                        have HC122_0 := Aside0.mk hl122_0
                                        clear hi122_0 hl122_0
                                        replace p122 := eq_true p122
                                        replace q122 := eq_true q122
                                        have p123 : 0 ≤ (x5_2 : Int) := of_decide_eq_true (by first | (with_reducible assumption) | assumption)
                                        have q123 : x5_2 < ((rd_L2 l0 x5_2).length : Int) := of_decide_eq_true (by first | (with_reducible assumption) | assumption)
                                        obtain ⟨ad123, e123, hx123_0⟩ := Kd.at_bool HR122_0.out x5_2 p123 q123
                                        (try rw [← Nbq17.out] at hx123_0)
                                        cases e123
                                        replace p123 := eq_true p123
                                        replace q123 := eq_true q123
                                        have p124 : 0 ≤ (x5_2 : Int) := of_decide_eq_true (by first | (with_reducible assumption) | assumption)
                                        have q124 : x5_2 < (l0.length : Int) := of_decide_eq_true (by first | (with_reducible assumption) | assumption)
                                        obtain ⟨ad124, A124_0, c124_0, e124, hx124_0, hl124_0, hi124_0⟩ := at_L2 HR0.out x5_2 p124 q124
                                        obtain rfl : ad122 = ad124 := (by injection e124)
                                        have eb_ := Option.some.inj (hx122_0.symm.trans hx124_0)
                                        injection eb_ with eb_ en_ ec_
                                        subst eb_
                                        subst ec_
                                        clear en_
                                        have HR124_0 := Aside0.mk hi124_0
                                        have HC124_0 := Aside0.mk hl124_0
                                        clear hi124_0 hl124_0
                                        replace p124 := eq_true p124
                                        replace q124 := eq_true q124
                                        have p125 : 0 ≤ (x5_2 : Int) := of_decide_eq_true (by first | (with_reducible assumption) | assumption)
                                        have q125 : x5_2 < ((rd_L2 l0 x5_2).length : Int) := of_decide_eq_true (by first | (with_reducible assumption) | assumption)
                                        obtain ⟨ad125, e125, hx125_0⟩ := Kd.at_bool HR124_0.out x5_2 p125 q125
                                        (try rw [← Nbq17.out] at hx125_0)
                                        cases e125
                                        replace p125 := eq_true p125
                                        replace q125 := eq_true q125
                                        have p126 : 0 ≤ (x5_2 : Int) := of_decide_eq_true (by first | (with_reducible assumption) | assumption)
                                        have q126 : x5_2 < (l0.length : Int) := of_decide_eq_true (by first | (with_reducible assumption) | assumption)
                                        obtain ⟨ad126, A126_0, c126_0, e126, hx126_0, hl126_0, hi126_0⟩ := at_L2 HR0.out x5_2 p126 q126
                                        obtain rfl : ad122 = ad126 := (by injection e126)
                                        have HR126_0 := Aside0.mk hi126_0
                                        have HC126_0 := Aside0.mk hl126_0
                                        clear hi126_0 hl126_0
                                        replace p126 := eq_true p126
                                        replace q126 := eq_true q126
                                        have ea_ := Option.some.inj (hx122_0.symm.trans hx126_0)
                                        injection ea_ with ea_ en_ ec_
                                        subst ea_
                                        subst ec_
                                        clear en_
                                        have p127 : 0 ≤ (x5_2 : Int) := of_decide_eq_true (by first | (with_reducible assumption) | assumption)
                                        have q127 : x5_2 < ((rd_L2 l0 x5_2).length : Int) := of_decide_eq_true (by first | (with_reducible assumption) | assumption)
                                        obtain ⟨ad127, e127, hx127_0⟩ := Kd.at_bool HR126_0.out x5_2 p127 q127
                                        (try rw [← Nbq17.out] at hx127_0)
                                        cases e127
                                        replace p127 := eq_true p127
                                        replace q127 := eq_true q127
                                        go_wp2
                                        repeat (go_quiet (fail); try go_wp2)
                                        go_roundg k3
                                        case measure => have := HK1.out; have := HK2.out; have := HK3.out; omega
                                        case rel => exact ⟨(wrap64 (x5_2 + 1)), (by first | rfl | (simp; done) | (simp [*]; done)), H', ⟨by have := HK1.out; have := HK2.out; have := HK3.out; omega⟩, by repeat (first | exact Drawn0.refl _ | apply Drawn0.step)⟩
                                    · rw [if_neg c16] at H
                                      have c16b0 : (x5_2 == x6_3) = false := beq_eq_false_iff_ne.mpr c16
                                      have c16b1 : (x5_2 != x6_3) = true := bne_iff_ne.mpr c16
                                      have H' := Aside0.mk H
                                      clear H
                                      have p122 : 0 ≤ (x5_2 : Int) := of_decide_eq_true (by first | (with_reducible assumption) | assumption)
                                      have q122 : x5_2 < (l0.length : Int) := of_decide_eq_true (by first | (with_reducible assumption) | assumption)
                                      obtain ⟨ad122, A122_0, c122_0, e122, hx122_0, hl122_0, hi122_0⟩ := at_L2 HR0.out x5_2 p122 q122
                                      cases e122
                                      have HR122_0 := Aside0.mk hi122_0
                                      have HC122_0 := Aside0.mk hl122_0
                                      clear hi122_0 hl122_0
                                      replace p122 := eq_true p122
                                      replace q122 := eq_true q122
                                      have p123 : 0 ≤ (x6_3 : Int) := of_decide_eq_true (by first | (with_reducible assumption) | assumption)
                                      have q123 : x6_3 < ((rd_L2 l0 x5_2).length : Int) := of_decide_eq_true (by first | (with_reducible assumption) | assumption)
                                      obtain ⟨ad123, e123, hx123_0⟩ := Kd.at_bool HR122_0.out x6_3 p123 q123
                                      cases e123
                                      replace p123 := eq_true p123
                                      replace q123 := eq_true q123
                                      have p124 : 0 ≤ (x6_3 : Int) := of_decide_eq_true (by first | (with_reducible assumption) | assumption)
                                      have q124 : x6_3 < (l0.length : Int) := of_decide_eq_true (by first | (with_reducible assumption) | assumption)
                                      obtain ⟨ad124, A124_0, c124_0, e124, hx124_0, hl124_0, hi124_0⟩ := at_L2 HR0.out x6_3 p124 q124
                                      obtain rfl : ad122 = ad124 := (by injection e124)
                                      have HR124_0 := Aside0.mk hi124_0
                                      have HC124_0 := Aside0.mk hl124_0
                                      clear hi124_0 hl124_0
                                      replace p124 := eq_true p124
                                      replace q124 := eq_true q124
                                      have p125 : 0 ≤ (x5_2 : Int) := of_decide_eq_true (by first | (with_reducible assumption) | assumption)
                                      have q125 : x5_2 < ((rd_L2 l0 x6_3).length : Int) := of_decide_eq_true (by first | (with_reducible assumption) | assumption)
                                      obtain ⟨ad125, e125, hx125_0⟩ := Kd.at_bool HR124_0.out x5_2 p125 q125
                                      cases e125
                                      replace p125 := eq_true p125
                                      replace q125 := eq_true q125
                                      go_wp2
                                      repeat (go_quiet (fail); try go_wp2)
                                      go_roundg k3
                                      case measure => have := HK1.out; have := HK2.out; have := HK3.out; omega
                                      case rel => exact ⟨(wrap64 (x6_3 + 1)), (by first | rfl | (simp; done) | (simp [*]; done)), H', ⟨by have := HK1.out; have := HK2.out; have := HK3.out; omega⟩, by repeat (first | exact Drawn0.refl _ | apply Drawn0.step)⟩
                                · rw [if_neg c14] at H
                                  exact absurd H (by simp)
                              · rw [if_neg c13] at H
                                exact absurd H (by simp)
                            · rw [if_neg c12] at H
                              exact absurd H (by simp)
                          · rw [if_neg c11] at H
                            exact absurd H (by simp)
                        · rw [if_neg c10] at H
                          exact absurd H (by simp)
                      · rw [if_neg c9] at H
                        exact absurd H (by simp)
                    · rw [if_neg c8] at H
                      have c8b0 : decide (x6_3 < (l0.length : Int)) = false := decide_eq_false c8
                      clear c8
                      have H' := Aside0.mk H
                      clear H
                      go_wp2
                      repeat (go_quiet (fail); try go_wp2)
                      go_roundg k3
                      case measure => have := HK1.out; have := HK2.out; have := HK3.out; omega
                      case rel => exact ⟨(wrap64 (x5_2 + 1)), (by first | rfl | (simp; done) | (simp [*]; done)), H', ⟨by have := HK1.out; have := HK2.out; have := HK3.out; omega⟩, by repeat (first | exact Drawn0.refl _ | apply Drawn0.step)⟩
              · rw [if_neg c7] at H
                have c7b0 : decide (x5_2 < (l0.length : Int)) = false := decide_eq_false c7
                clear c7
                obtain rfl := Option.some.inj H
                go_wp2
                repeat (go_quiet (fail); try go_wp2)
                go_ret
                exact ⟨by first | rfl | (simp; done) | (simp [*]; done), by repeat (first | exact Drawn0.refl _ | apply Drawn0.step)⟩


end Go.Proofs.Ytppkmmifjfcfiaa.P
