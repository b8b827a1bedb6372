/- GraphLoops, without Go and memory. -/
import Derived.Test.YtppkmmifjfcfiaaHf
import Derived.Test.YtppkmmifjfcfiaaLd
namespace Go.Proofs.Ytppkmmifjfcfiaa.P
open Go.RowKit Go.Proofs.YtppkmmifjfcfiaaW.PrintWords Go.Proofs.YtppkmmifjfcfiaaW.PrintLast Go.Proofs.YtppkmmifjfcfiaaW.PrintMore
set_option linter.unusedVariables false
set_option linter.unusedSimpArgs false

theorem loopV_len60 (l : List Int) : (loopV l).length ≤ 60 := by
  unfold loopV
  split
  · simp
  · exact Nat.le_trans (loopTo_le _ _) (by omega)
theorem loopV_sorted (l : List Int) : (loopV l).Pairwise (· < ·) := by
  unfold loopV
  split
  · exact List.Pairwise.nil
  · unfold loopTo
    rw [List.pairwise_map]
    refine List.Pairwise.filter _ ?_
    exact (List.pairwise_lt_range).imp (fun h => by omega)
theorem loopV_up (l : List Int) (j : Nat) (hj : j + 1 < (loopV l).length) : rd (loopV l) (j : Int) < rd (loopV l) ((j + 1 : Nat) : Int) := by
  have := List.pairwise_iff_getElem.mp (loopV_sorted l) j (j + 1) (by omega) hj (by omega)
  simpa [rd, hj, show j < (loopV l).length by omega] using this

theorem d_loop1 (l : List Int) (hl : l.length ≤ 60) (d : Nat) : ∀ (i : Nat), i + d = l.length → Ev (fun k => slotmeshlaw22_GraphLoops.l1 k l true (loopV l) (i : Int)) true := by
  induction d with
  | zero =>
    intro i hi
    refine Ev.un ?_
    simp only [slotmeshlaw22_GraphLoops.l1]
    exact Ev.neg (by omega) Ev.pure
  | succ d ih =>
    intro i hi
    have nxt := ih (i + 1) (by omega)
    have hll := loopV_len60 l
    refine Ev.un ?_
    simp only [slotmeshlaw22_GraphLoops.l1]
    rw [nx (by omega)]
    refine Ev.pos (by omega) (Ev.bind (has_ev _ (by omega) _) (Ev.bind (Meets_ev l (by omega) _ _) (Ev.pos (by simp) ?_)))
    have hiff : (i : Int) ∈ loopV l ↔ meetsV l (i : Int) l.length (i : Int) = true := by
      rw [mem_loopV l hl, meetsV_len l _ (by omega) (by omega) _ _ (Nat.le_refl _)]
      exact ⟨fun h => h.2.2, fun h => ⟨by omega, by omega, h⟩⟩
    have heq : decide ((i : Int) ∈ loopV l) = meetsV l (i : Int) l.length (i : Int) := by
      rw [Bool.eq_iff_iff, decide_eq_true_iff]; exact hiff
    refine Ev.pos (by rw [heq]; simp) ?_
    by_cases hL : (i : Int) ∈ loopV l
    · refine Ev.pos (by simpa using hL) (Ev.bind (Step_ev l _) (Ev.bind (has_ev _ (by omega) _) ?_))
      have : decide (stepV l (i : Int) ∈ loopV l) = true := by
        rw [decide_eq_true_iff]
        obtain ⟨m, hm⟩ := ((mem_loopV l hl _).mp hL).2.2
        have rng := stepV_rng l (i : Int)
        have e : stepN l m (stepV l (i : Int)) = (i : Int) := hm
        have hs : ¬ stepV l (i : Int) < 0 := fun q => by have := stepN_neg l m q; omega
        refine (mem_loopV l hl _).mpr ⟨by omega, rng.2, m, ?_⟩
        have : stepN l (m + 1) (stepN l 1 (i : Int)) = stepN l 1 (stepN l (m + 1) (i : Int)) := stepN_comm l _ _ _
        rw [hm] at this
        exact this
      rw [this]
      exact nxt
    · exact Ev.neg (by simpa using hL) nxt
theorem d_loop0 (l : List Int) (hl : l.length ≤ 60) (d : Nat) : ∀ (i : Nat), i + d = (loopV l).length → Ev (fun k => slotmeshlaw22_GraphLoops.l0 k l true (loopV l) (i : Int)) true := by
  induction d with
  | zero =>
    intro i hi
    refine Ev.un ?_
    simp only [slotmeshlaw22_GraphLoops.l0]
    exact Ev.neg (by omega) (d_loop1 l hl l.length 0 (by omega))
  | succ d ih =>
    intro i hi
    have nxt := ih (i + 1) (by omega)
    have hll := loopV_len60 l
    refine Ev.un ?_
    simp only [slotmeshlaw22_GraphLoops.l0]
    rw [nx (by omega)]
    refine Ev.pos (by omega) (Ev.pos (by simp) ?_)
    cases i with
    | zero => exact Ev.pos rfl nxt
    | succ j =>
      have e : wrap64 (((j + 1 : Nat) : Int) - 1) = (j : Int) := by rw [w64' (by omega)]; omega
      rw [e]
      refine Ev.neg (by omega) (Ev.pos (by omega) (Ev.pos (by omega) (Ev.pos (by omega) ?_)))
      have : decide (rd (loopV l) ((j + 1 : Nat) : Int) > rd (loopV l) (j : Int)) = true := decide_eq_true (loopV_up l j (by omega))
      rw [this]
      exact nxt
theorem Pure.GraphLoops : slotmeshlaw22_GraphLoops.Pure := by
  intro l hm hb _
  refine Ev.get ?_
  simp only [slotmeshlaw22_GraphLoops.f]
  refine Ev.bind head_ev ?_
  by_cases h : (l.length : Int) > 60
  · refine Ev.pos h (Ev.pos (by simp) (Ev.bind (Loop_ev l) (Ev.pure' ?_)))
    unfold loopV
    rw [if_pos (by omega)]
    rfl
  · refine Ev.neg h (Ev.bind (Loop_ev l) ?_)
    exact d_loop0 l (by omega) (loopV l).length 0 (by omega)
end Go.Proofs.Ytppkmmifjfcfiaa.P
