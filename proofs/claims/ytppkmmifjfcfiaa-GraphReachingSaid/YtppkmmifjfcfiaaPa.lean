/- GraphReaching, without Go and memory. -/
import Derived.Test.YtppkmmifjfcfiaaHf
import Derived.Test.YtppkmmifjfcfiaaLa
namespace Go.Proofs.Ytppkmmifjfcfiaa.P
open Go.RowKit Go.Proofs.YtppkmmifjfcfiaaW.PrintWords Go.Proofs.YtppkmmifjfcfiaaW.PrintLast Go.Proofs.YtppkmmifjfcfiaaW.PrintMore
set_option linter.unusedVariables false
set_option linter.unusedSimpArgs false

theorem loopV_length (l : List Int) : (loopV l).length ≤ 60 := by
  unfold loopV
  split
  · simp
  · exact Nat.le_trans (loopTo_le _ _) (by omega)
theorem Rch_step (l : List Int) (root : Int) (h0 : 0 ≤ root) (i : Nat) : Rch l root i ↔ (i : Int) = root ∨ (0 ≤ stepV l (i : Int) ∧ Rch l root (stepV l (i : Int)).toNat) := by
  constructor
  · rintro ⟨n, h⟩
    cases n with
    | zero => exact .inl h
    | succ n =>
      have h' : stepN l n (stepV l (i : Int)) = root := h
      have hs : ¬ stepV l (i : Int) < 0 := fun q => by have := stepN_neg l n q; omega
      refine .inr ⟨by omega, n, ?_⟩
      rwa [show (((stepV l (i : Int)).toNat : Nat) : Int) = stepV l (i : Int) by omega]
  · rintro (h | ⟨h1, n, h⟩)
    · exact ⟨0, h⟩
    · refine ⟨n + 1, ?_⟩
      show stepN l n (stepV l (i : Int)) = root
      rwa [show (((stepV l (i : Int)).toNat : Nat) : Int) = stepV l (i : Int) by omega] at h

theorem a_next (l : List Int) (hl : l.length ≤ 60) (root : Int) (i : Nat) (hi : i < l.length) (x10 : Bool) (hx : 0 ≤ root → root < (l.length : Int) → (reachV l root).getD i false = x10)
    (nxt : Ev (fun k => slotmeshlaw22_GraphReaching.l0 k l root true (reachV l root) (loopV l) ((i + 1 : Nat) : Int)) true) :
    Ev (fun k => slotmeshlaw22_GraphReaching.j1 k l root true (reachV l root) (loopV l) (i : Int) x10) true := by
  have hrl := reachV_length l root hl
  refine Ev.un ?_
  simp only [slotmeshlaw22_GraphReaching.j1]
  refine Ev.bind (has_ev _ (by have := loopV_length l; omega) _) ?_
  have e0 : rdOf false (reachV l root) (i : Int) = (reachV l root).getD i false := rfl
  rw [nx (by omega)]
  by_cases h0 : 0 ≤ root
  · refine Ev.pos h0 ?_
    by_cases h1 : root < (l.length : Int)
    · refine Ev.pos (by omega) (Ev.pos (by simp) (Ev.pos (by omega) (Ev.pos (by omega) ?_)))
      refine Ev.pos (by rw [e0, hx h0 h1]; simp) ?_
      by_cases hL : (i : Int) ∈ loopV l
      · refine Ev.pos (by simpa using hL) ?_
        by_cases hr : rdOf false (reachV l root) (i : Int) = true
        · refine Ev.pos hr ?_
          have hroot : root ∈ loopV l := by
            obtain ⟨m, hm⟩ := ((mem_loopV l hl _).mp hL).2.2
            obtain ⟨n, hn⟩ := (reachV_iff l root hl h0 h1 i hi).mp hr
            refine (mem_loopV l hl _).mpr ⟨h0, h1, m, ?_⟩
            rw [← hn, stepN_comm, hm]
          refine Ev.bind (has_ev _ (by have := loopV_length l; omega) _) ?_
          have : decide (root ∈ loopV l) = true := decide_eq_true hroot
          rw [this]
          exact nxt
        · exact Ev.neg hr nxt
      · exact Ev.neg (by simpa using hL) nxt
    · refine Ev.neg (by omega) (Ev.pos (by simp) (Ev.pos (by omega) (Ev.pos (by omega) ?_)))
      have : rdOf false (reachV l root) (i : Int) = false := by
        rw [e0, reachV_get l root hl i hi, decide_eq_false (by omega)]; rfl
      rw [this]
      exact nxt
  · refine Ev.neg (by omega) (Ev.pos (by simp) (Ev.pos (by omega) (Ev.pos (by omega) ?_)))
    have : rdOf false (reachV l root) (i : Int) = false := by
      rw [e0, reachV_get l root hl i hi, decide_eq_false (by omega)]; rfl
    rw [this]
    exact nxt
theorem a_loop (l : List Int) (hl : l.length ≤ 60) (root : Int) (d : Nat) : ∀ (i : Nat), i + d = l.length → Ev (fun k => slotmeshlaw22_GraphReaching.l0 k l root true (reachV l root) (loopV l) (i : Int)) true := by
  have hrl := reachV_length l root hl
  induction d with
  | zero =>
    intro i hi
    refine Ev.un ?_
    simp only [slotmeshlaw22_GraphReaching.l0]
    exact Ev.neg (by omega) Ev.pure
  | succ d ih =>
    intro i hi
    have nxt := ih (i + 1) (by omega)
    refine Ev.un ?_
    simp only [slotmeshlaw22_GraphReaching.l0]
    refine Ev.pos (by omega) (Ev.bind (Step_ev l _) ?_)
    have rng := stepV_rng l (i : Int)
    by_cases hr : (i : Int) = root
    · refine Ev.pos hr (a_next l hl root i (by omega) true (fun h0 h1 => ?_) nxt)
      rw [reachV_iff l root hl h0 h1 i (by omega)]
      exact ⟨0, hr⟩
    · refine Ev.neg hr ?_
      by_cases hs : 0 ≤ stepV l (i : Int)
      · refine Ev.pos hs (Ev.pos hs (Ev.pos (by omega) ?_))
        refine a_next l hl root i (by omega) _ (fun h0 h1 => ?_) nxt
        have e1 : rdOf false (reachV l root) (stepV l (i : Int)) = (reachV l root).getD (stepV l (i : Int)).toNat false := rfl
        rw [e1, Bool.eq_iff_iff, reachV_iff l root hl h0 h1 i (by omega), reachV_iff l root hl h0 h1 _ (by omega), Rch_step l root h0 i]
        exact ⟨fun h => h.elim (fun h => absurd h hr) (·.2), fun h => .inr ⟨hs, h⟩⟩
      · refine Ev.neg (by omega) (a_next l hl root i (by omega) _ (fun h0 h1 => ?_) nxt)
        refine Bool.eq_false_iff.mpr fun h => ?_
        rw [reachV_iff l root hl h0 h1 i (by omega), Rch_step l root h0 i] at h
        exact h.elim hr (fun h => hs h.1)
theorem Pure.GraphReaching : slotmeshlaw22_GraphReaching.Pure := by
  intro l root hm hb _ _
  refine Ev.get ?_
  simp only [slotmeshlaw22_GraphReaching.f]
  refine Ev.bind head_ev ?_
  by_cases h : (l.length : Int) > 60
  · refine Ev.pos h (Ev.pos (by simp) (Ev.bind (Reaches_ev l (by omega) root) (Ev.pure' ?_)))
    unfold reachV
    rw [if_pos (by omega)]
    rfl
  · have hl : l.length ≤ 60 := by omega
    refine Ev.neg h (Ev.bind (Reaches_ev l (by omega) root) (Ev.pos (by rw [reachV_length l root hl]) (Ev.bind (Loop_ev l) ?_)))
    exact a_loop l hl root l.length 0 (by omega)
end Go.Proofs.Ytppkmmifjfcfiaa.P
