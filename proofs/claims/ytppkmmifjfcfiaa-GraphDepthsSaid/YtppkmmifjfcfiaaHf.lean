/- The fixed examples answer true. -/
import Derived.Test.YtppkmmifjfcfiaaCf
import Derived.Test.YtppkmmifjfcfiaaH
namespace Go.Proofs.Ytppkmmifjfcfiaa.P
open Go.RowKit Go.Proofs.YtppkmmifjfcfiaaW.PrintWords Go.Proofs.YtppkmmifjfcfiaaW.PrintLast Go.Proofs.YtppkmmifjfcfiaaW.PrintMore
open Go.Proofs.Ytppkmmifjfcfiaa.V
set_option linter.unusedVariables false
set_option linter.unusedSimpArgs false

def exT : List (List Bool) := [[false, true, false, false, false], [true, false, true, false, false], [false, true, false, false, false], [false, false, false, false, true], [false, false, false, true, false]]
theorem exT_valid : Valid exT := ⟨by decide, by decide, by decide, fun i k hi hk => (by decide : ∀ i, i < exT.length → ∀ k, k < exT.length → cell exT i k = cell exT k i) i hi k hk⟩
theorem exT_dist : IsDist exT 0 [0, 1, 2, -1, -1] := by
  refine ⟨by decide, by decide, by decide, ?_, fun i k hi hk => (by decide : ∀ i, i < exT.length → ∀ k, k < exT.length → cell exT i k = true → 0 ≤ ov [0, 1, 2, -1, -1] i → 0 ≤ ov [0, 1, 2, -1, -1] k ∧ ov [0, 1, 2, -1, -1] k ≤ ov [0, 1, 2, -1, -1] i + 1) i hi k hk⟩
  intro i hi h0
  have hi5 : i < 5 := hi
  rcases i with _ | _ | _ | _ | _ | i
  · exact absurd h0 (by decide)
  · exact ⟨0, by decide, by decide, by decide⟩
  · exact ⟨1, by decide, by decide, by decide⟩
  · exact absurd h0 (by decide)
  · exact absurd h0 (by decide)
  · omega
theorem exT_isl : IsIsl exT [0, 0, 0, 3, 3] := by
  have c01 : Conn exT 0 1 := .step (.refl 0) (by decide) (by decide) (by decide)
  have c34 : Conn exT 3 4 := .step (.refl 3) (by decide) (by decide) (by decide)
  refine ⟨by decide, ?_, fun i k hi hk => (by decide : ∀ i, i < exT.length → ∀ k, k < exT.length → cell exT i k = true → ov [0, 0, 0, 3, 3] k = ov [0, 0, 0, 3, 3] i) i hi k hk⟩
  intro i hi
  have hi5 : i < 5 := hi
  rcases i with _ | _ | _ | _ | _ | i
  · exact ⟨0, by decide, by decide, .refl 0, by decide⟩
  · exact ⟨0, by decide, by decide, c01, by decide⟩
  · exact ⟨0, by decide, by decide, .step c01 (by decide) (by decide) (by decide), by decide⟩
  · exact ⟨3, by decide, by decide, .refl 3, by decide⟩
  · exact ⟨3, by decide, by decide, c34, by decide⟩
  · omega
theorem Depths_ev (h : List (List Bool)) (r : Int) : Ev (fun k => graph_Depths.f k h r) (depthsV h r) := Ev.pure
theorem Islands_ev (h : List (List Bool)) : Ev (fun k => graph_Islands.f k h) (islandsV h) := Ev.pure
theorem exT_d0 : depthsV exT 0 = ([0, 1, 2, -1, -1], 0) := by
  unfold depthsV
  rw [if_pos ⟨exT_valid, by decide, by decide⟩]
  exact congrArg (·, (0 : Int)) (distL_eq exT_valid exT_dist)
theorem exT_d5 : depthsV exT 5 = ([], 1) := by
  unfold depthsV
  rw [if_neg (fun q => absurd q.2.2 (by decide))]
theorem exT_i : islandsV exT = ([0, 0, 0, 3, 3], 0) := by
  unfold islandsV
  rw [if_pos exT_valid, islL_eq exT_isl]
theorem head_ev : Ev (fun k => slotmeshlaw22_head.f k) true := by
  simp only [slotmeshlaw22_head.f]
  refine Ev.bind Ev.pure (Ev.bind Ev.pure ?_)
  refine Ev.bind ((Depths_ev exT 0).cong exT_d0) (Ev.bind ((Islands_ev exT).cong exT_i) (Ev.bind ((Depths_ev exT 5).cong exT_d5) ?_))
  refine Ev.pos rfl (Ev.pos rfl (Ev.pos rfl ?_))
  refine Ev.bind ((Loop_ev [-1, 0, 3, 4, 2, 2]).cong (s := [2, 3, 4]) (by decide)) (Ev.bind ((Ints_ev _ _ (by decide)).cong (s := true) (by decide)) (Ev.pos rfl ?_))
  refine Ev.bind ((Loop_ev [0]).cong (s := [0]) (by decide)) (Ev.bind ((Ints_ev _ _ (by decide)).cong (s := true) (by decide)) (Ev.un ?_))
  simp only [slotmeshlaw22_head.j0]
  refine Ev.pos (by simp) ?_
  refine Ev.bind ((Reaches_ev [-1, 0, 3, 4, 2, 2] (by decide) 0).cong (s := [true, true, false, false, false, false]) (by decide)) ?_
  refine Ev.bind ((Bools_ev _ _ (by decide)).cong (s := true) (by decide)) (Ev.pos rfl ?_)
  refine Ev.bind ((Ints_ev _ _ (by decide)).cong (s := true) (by decide)) (Ev.pos rfl ?_)
  exact Ev.bind ((Ints_ev _ _ (by decide)).cong (s := true) (by decide)) Ev.pure
end Go.Proofs.Ytppkmmifjfcfiaa.P
