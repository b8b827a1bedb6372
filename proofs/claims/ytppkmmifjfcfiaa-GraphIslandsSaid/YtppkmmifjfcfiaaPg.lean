/- GraphIslands, without Go and memory; and its contract for every table. -/
import Derived.Test.YtppkmmifjfcfiaaHf
import Derived.Test.YtppkmmifjfcfiaaCg
import Derived.Test.YtppkmmifjfcfiaaLg
namespace Go.Proofs.Ytppkmmifjfcfiaa.P
open Go.RowKit Go.Proofs.YtppkmmifjfcfiaaW.PrintWords Go.Proofs.YtppkmmifjfcfiaaW.PrintLast Go.Proofs.YtppkmmifjfcfiaaW.PrintMore
open Go.Proofs.Ytppkmmifjfcfiaa.V
set_option linter.unusedVariables false
set_option linter.unusedSimpArgs false

theorem depthsV_in {h : List (List Bool)} (v : Valid h) {i : Nat} (hi : i < h.length) : depthsV h (i : Int) = (distL h i, 0) := by
  unfold depthsV
  rw [if_pos ⟨v, by omega, by omega⟩, Int.toNat_natCast]
theorem islandsV_in {h : List (List Bool)} (v : Valid h) : islandsV h = (islL h, 0) := by
  unfold islandsV
  rw [if_pos v]
theorem g_row (h : List (List Bool)) (v : Valid h) (i : Nat) (hi : i < h.length) (nxt : Ev (fun k => slotmeshlaw22_GraphIslands.l0 k h true (islL h) ((i + 1 : Nat) : Int)) true) (d : Nat) :
    ∀ j : Nat, j + d = h.length → Ev (fun k => slotmeshlaw22_GraphIslands.l1 k h true (islL h) (i : Int) (distL h i) (j : Int)) true := by
  have h60 := v.len
  have S := isl_exists v
  have D := dist_exists v hi
  have l1 := S.len
  have l2 := D.len
  induction d with
  | zero =>
    intro j hj
    refine Ev.un ?_
    simp only [slotmeshlaw22_GraphIslands.l1]
    refine Ev.neg (by omega) ?_
    rw [nx (by omega)]
    exact nxt
  | succ d ih =>
    intro j hj
    refine Ev.un ?_
    simp only [slotmeshlaw22_GraphIslands.l1]
    rw [nx (by omega), rd_ov, rd_ov, rd_ov]
    refine Ev.pos (by omega) (Ev.pos (by simp) (Ev.pos (by omega) (Ev.pos (by omega) (Ev.pos (by omega) (Ev.pos (by omega) ?_)))))
    have e : ((ov (islL h) i == ov (islL h) j) == decide (ov (distL h i) j ≥ 0)) = true := by
      rw [beq_iff_eq, Bool.eq_iff_iff, beq_iff_eq, decide_eq_true_iff]
      rw [S.iff v hi (by omega)]
      exact ((D.conn v hi (by omega)).symm)
    rw [e]
    exact ih (j + 1) (by omega)
theorem g_rows (h : List (List Bool)) (v : Valid h) (d : Nat) : ∀ i : Nat, i + d = h.length → Ev (fun k => slotmeshlaw22_GraphIslands.l0 k h true (islL h) (i : Int)) true := by
  have h60 := v.len
  have S := isl_exists v
  have l1 := S.len
  induction d with
  | zero =>
    intro i hi
    refine Ev.un ?_
    simp only [slotmeshlaw22_GraphIslands.l0]
    exact Ev.neg (by omega) Ev.pure
  | succ d ih =>
    intro i hi
    have nxt := ih (i + 1) (by omega)
    have hil : i < h.length := by omega
    obtain ⟨a, a1, a2, a3, a4⟩ := S.val i hil
    have l2 := (dist_exists v hil).len
    refine Ev.un ?_
    simp only [slotmeshlaw22_GraphIslands.l0]
    refine Ev.pos (by omega) (Ev.bind ((Depths_ev h (i : Int)).cong (depthsV_in v hil)) ?_)
    rw [rd_ov, a1, rd_ov, a4]
    refine Ev.pos rfl (Ev.pos (by show ((distL h i).length : Int) = _; omega) (Ev.pos (by omega) (Ev.neg (by omega) (Ev.neg (by omega) (Ev.pos (by omega) (Ev.pos (by omega) (Ev.un ?_)))))))
    simp only [slotmeshlaw22_GraphIslands.j3]
    exact Ev.neg (by simp) (g_row h v i hil nxt h.length 0 (by omega))
theorem GraphIslands_true (h : List (List Bool)) : Ev (fun k => slotmeshlaw22_GraphIslands.f k h) true := by
  simp only [slotmeshlaw22_GraphIslands.f]
  obtain ⟨b1, hb1, _⟩ := few_ev h []
  obtain ⟨b2, hb2, hv⟩ := RValid_ev h
  refine Ev.bind head_ev (Ev.bind hb1 (Ev.bind hb2 ?_))
  have bad : Ev (fun k => slotmeshlaw22_GraphIslands.j0 k h true true) true := by
    refine Ev.un ?_
    simp only [slotmeshlaw22_GraphIslands.j0]
    exact Ev.pos (by simp) Ev.pure
  cases b1 with
  | false => exact Ev.neg (by simp) bad
  | true =>
    refine Ev.pos rfl ?_
    cases b2 with
    | false => exact bad
    | true =>
      have v := hv.1 rfl
      have S := isl_exists v
      refine Ev.un ?_
      simp only [slotmeshlaw22_GraphIslands.j0]
      refine Ev.neg (by simp) (Ev.bind ((Islands_ev h).cong (islandsV_in v)) (Ev.pos rfl (Ev.un ?_)))
      simp only [slotmeshlaw22_GraphIslands.j1]
      exact Ev.neg (by rw [S.len]; simp) (g_rows h v h.length 0 (by omega))
theorem graphIslands_any (W : World) (A0 : Option Addr) (c0 : Nat) (l0 : List (List Bool)) (hr0 : Kd.C (Kd.slice 4 Kd.bool) W A0 l0.length l0) (hc0 : l0.length ≤ c0) :
    Calls Try.prog 9 #[.slice A0 l0.length c0] W fun e w' => e = .returned (.bool true) ∧ Below W.heap.size W w' := by
  obtain ⟨k, hk⟩ := (GraphIslands_true l0).get
  exact slotmeshlaw22_GraphIslands.calls k A0 c0 l0 true W hr0 hc0 hk
end Go.Proofs.Ytppkmmifjfcfiaa.P
