-- LAID BY PROGRAM out of the translation's own text (no part of it is trusted: Lean checks every line)
import Derived.Test.YtppkmmifjfcfiaaB
import Derived.Test.YtppkmmifjfcfiaaRv
namespace Go.Proofs.Ytppkmmifjfcfiaa.P
open Go.RowKit Go.Proofs.YtppkmmifjfcfiaaW.PrintWords Go.Proofs.YtppkmmifjfcfiaaW.PrintLast Go.Proofs.YtppkmmifjfcfiaaW.PrintMore
attribute [local go_sem] max2_int min2_int max_two min_two max_three min_three max_four min_four   -- for this text's walks alone
set_option linter.unusedVariables false
set_option linter.unusedSimpArgs false

/-! ### slotmeshref22_Depths: function 19 -/
mutual
def slotmeshref22_Depths.j0 : Nat → List (List Bool) → Int → Int → Bool → Option (List Int × Int)
  | 0, _, _, _, _ => none
  | k + 1, x0, x1, x7, x27 => if x27 = true then (some (([] : List Int), 1)) else (if 0 ≤ x7 then (if (x7 : Int).toNat ≤ 35184372088832 then (slotmeshref22_Depths.l0 k x0 x1 x7 (List.replicate (x7 : Int).toNat 0) 0) else (none)) else (none))
def slotmeshref22_Depths.l0 : Nat → List (List Bool) → Int → Int → List Int → Int → Option (List Int × Int)
  | 0, _, _, _, _, _ => none
  | k + 1, x0, x1, x7, x8, x9 => if x9 < x7 then (if 0 ≤ x9 then (if x9 < (x8.length : Int) then (slotmeshref22_Depths.l0 k x0 x1 x7 (x8.set (x9 : Int).toNat (-1)) (wrap64 (x9 + 1))) else (none)) else (none)) else (if 0 ≤ x1 then (if x1 < (x8.length : Int) then (slotmeshref22_Depths.l1 k x0 x7 (x8.set (x1 : Int).toNat 0) 1) else (none)) else (none))
def slotmeshref22_Depths.l1 : Nat → List (List Bool) → Int → List Int → Int → Option (List Int × Int)
  | 0, _, _, _, _ => none
  | k + 1, x0, x7, x8, x10 => if x10 < x7 then (slotmeshref22_Depths.l2 k x0 x7 x8 x10 0) else (some (x8, 0))
def slotmeshref22_Depths.l2 : Nat → List (List Bool) → Int → List Int → Int → Int → Option (List Int × Int)
  | 0, _, _, _, _, _ => none
  | k + 1, x0, x7, x8, x10, x11 => if x11 < x7 then (slotmeshref22_Depths.l3 k x0 x7 x8 x10 x11 0) else (slotmeshref22_Depths.l1 k x0 x7 x8 (wrap64 (x10 + 1)))
def slotmeshref22_Depths.l3 : Nat → List (List Bool) → Int → List Int → Int → Int → Int → Option (List Int × Int)
  | 0, _, _, _, _, _, _ => none
  | k + 1, x0, x7, x8, x10, x11, x12 => if x12 < x7 then (if 0 ≤ x11 then (if x11 < (x8.length : Int) then (if (rd x8 x11) < 0 then (if x11 < (x0.length : Int) then (if 0 ≤ x12 then (if x12 < ((rd_L2 x0 x11).length : Int) then (if rdOf false (rd_L2 x0 x11) x12 = true then (if x12 < (x8.length : Int) then (if (rd x8 x12) = (wrap64 (x10 - 1)) then (slotmeshref22_Depths.l3 k x0 x7 (x8.set (x11 : Int).toNat x10) x10 x11 (wrap64 (x12 + 1))) else (slotmeshref22_Depths.l3 k x0 x7 x8 x10 x11 (wrap64 (x12 + 1)))) else (none)) else (slotmeshref22_Depths.l3 k x0 x7 x8 x10 x11 (wrap64 (x12 + 1)))) else (none)) else (none)) else (none)) else (slotmeshref22_Depths.l3 k x0 x7 x8 x10 x11 (wrap64 (x12 + 1)))) else (none)) else (none)) else (slotmeshref22_Depths.l2 k x0 x7 x8 x10 (wrap64 (x11 + 1)))
end
def slotmeshref22_Depths.f (k : Nat) (l0 : List (List Bool)) (a1 : Int) : Option (List Int × Int) := (slotmeshref22_Valid.f k l0).bind fun t270 => (if t270 = true then (if a1 < 0 then (slotmeshref22_Depths.j0 k l0 a1 (l0.length : Int) true) else (slotmeshref22_Depths.j0 k l0 a1 (l0.length : Int) (decide (a1 ≥ (l0.length : Int))))) else (slotmeshref22_Depths.j0 k l0 a1 (l0.length : Int) true))
theorem slotmeshref22_Depths.mono_l : ∀ k, (∀ y0 y1 y2 y3, LeO (slotmeshref22_Depths.j0 k y0 y1 y2 y3) (slotmeshref22_Depths.j0 (k + 1) y0 y1 y2 y3)) ∧ (∀ y0 y1 y2 y3 y4, LeO (slotmeshref22_Depths.l0 k y0 y1 y2 y3 y4) (slotmeshref22_Depths.l0 (k + 1) y0 y1 y2 y3 y4)) ∧ (∀ y0 y1 y2 y3, LeO (slotmeshref22_Depths.l1 k y0 y1 y2 y3) (slotmeshref22_Depths.l1 (k + 1) y0 y1 y2 y3)) ∧ (∀ y0 y1 y2 y3 y4, LeO (slotmeshref22_Depths.l2 k y0 y1 y2 y3 y4) (slotmeshref22_Depths.l2 (k + 1) y0 y1 y2 y3 y4)) ∧ (∀ y0 y1 y2 y3 y4 y5, LeO (slotmeshref22_Depths.l3 k y0 y1 y2 y3 y4 y5) (slotmeshref22_Depths.l3 (k + 1) y0 y1 y2 y3 y4 y5))
  | 0 => ⟨fun _ _ _ _ r h => by simp [slotmeshref22_Depths.j0] at h, fun _ _ _ _ _ r h => by simp [slotmeshref22_Depths.l0] at h, fun _ _ _ _ r h => by simp [slotmeshref22_Depths.l1] at h, fun _ _ _ _ _ r h => by simp [slotmeshref22_Depths.l2] at h, fun _ _ _ _ _ _ r h => by simp [slotmeshref22_Depths.l3] at h⟩
  | k + 1 => by
    obtain ⟨ih0, ih1, ih2, ih3, ih4⟩ := slotmeshref22_Depths.mono_l k
    refine ⟨?_, ?_, ?_, ?_, ?_⟩
    · intro y0 y1 y2 y3
      unfold slotmeshref22_Depths.j0
      repeat' first
      | (with_reducible exact ih0 _ _ _ _)
      | (with_reducible exact ih1 _ _ _ _ _)
      | (with_reducible exact ih2 _ _ _ _)
      | (with_reducible exact ih3 _ _ _ _ _)
      | (with_reducible exact ih4 _ _ _ _ _ _)
      | (with_reducible exact slotmeshref22_Valid.mono _ _)
      | (with_reducible exact LeO.refl _)
      | (with_reducible exact LeO.none _)
      | (with_reducible refine LeO.ite ?_ ?_)
      | (with_reducible refine LeO.bind ?_ (fun _ => ?_))
      | exact ih0 _ _ _ _
      | exact ih1 _ _ _ _ _
      | exact ih2 _ _ _ _
      | exact ih3 _ _ _ _ _
      | exact ih4 _ _ _ _ _ _
      | exact slotmeshref22_Valid.mono _ _
      | exact LeO.none _
      | refine LeO.ite ?_ ?_
      | refine LeO.bind ?_ (fun _ => ?_)
    · intro y0 y1 y2 y3 y4
      unfold slotmeshref22_Depths.l0
      repeat' first
      | (with_reducible exact ih0 _ _ _ _)
      | (with_reducible exact ih1 _ _ _ _ _)
      | (with_reducible exact ih2 _ _ _ _)
      | (with_reducible exact ih3 _ _ _ _ _)
      | (with_reducible exact ih4 _ _ _ _ _ _)
      | (with_reducible exact slotmeshref22_Valid.mono _ _)
      | (with_reducible exact LeO.refl _)
      | (with_reducible exact LeO.none _)
      | (with_reducible refine LeO.ite ?_ ?_)
      | (with_reducible refine LeO.bind ?_ (fun _ => ?_))
      | exact ih0 _ _ _ _
      | exact ih1 _ _ _ _ _
      | exact ih2 _ _ _ _
      | exact ih3 _ _ _ _ _
      | exact ih4 _ _ _ _ _ _
      | exact slotmeshref22_Valid.mono _ _
      | exact LeO.none _
      | refine LeO.ite ?_ ?_
      | refine LeO.bind ?_ (fun _ => ?_)
    · intro y0 y1 y2 y3
      unfold slotmeshref22_Depths.l1
      repeat' first
      | (with_reducible exact ih0 _ _ _ _)
      | (with_reducible exact ih1 _ _ _ _ _)
      | (with_reducible exact ih2 _ _ _ _)
      | (with_reducible exact ih3 _ _ _ _ _)
      | (with_reducible exact ih4 _ _ _ _ _ _)
      | (with_reducible exact slotmeshref22_Valid.mono _ _)
      | (with_reducible exact LeO.refl _)
      | (with_reducible exact LeO.none _)
      | (with_reducible refine LeO.ite ?_ ?_)
      | (with_reducible refine LeO.bind ?_ (fun _ => ?_))
      | exact ih0 _ _ _ _
      | exact ih1 _ _ _ _ _
      | exact ih2 _ _ _ _
      | exact ih3 _ _ _ _ _
      | exact ih4 _ _ _ _ _ _
      | exact slotmeshref22_Valid.mono _ _
      | exact LeO.none _
      | refine LeO.ite ?_ ?_
      | refine LeO.bind ?_ (fun _ => ?_)
    · intro y0 y1 y2 y3 y4
      unfold slotmeshref22_Depths.l2
      repeat' first
      | (with_reducible exact ih0 _ _ _ _)
      | (with_reducible exact ih1 _ _ _ _ _)
      | (with_reducible exact ih2 _ _ _ _)
      | (with_reducible exact ih3 _ _ _ _ _)
      | (with_reducible exact ih4 _ _ _ _ _ _)
      | (with_reducible exact slotmeshref22_Valid.mono _ _)
      | (with_reducible exact LeO.refl _)
      | (with_reducible exact LeO.none _)
      | (with_reducible refine LeO.ite ?_ ?_)
      | (with_reducible refine LeO.bind ?_ (fun _ => ?_))
      | exact ih0 _ _ _ _
      | exact ih1 _ _ _ _ _
      | exact ih2 _ _ _ _
      | exact ih3 _ _ _ _ _
      | exact ih4 _ _ _ _ _ _
      | exact slotmeshref22_Valid.mono _ _
      | exact LeO.none _
      | refine LeO.ite ?_ ?_
      | refine LeO.bind ?_ (fun _ => ?_)
    · intro y0 y1 y2 y3 y4 y5
      unfold slotmeshref22_Depths.l3
      repeat' first
      | (with_reducible exact ih0 _ _ _ _)
      | (with_reducible exact ih1 _ _ _ _ _)
      | (with_reducible exact ih2 _ _ _ _)
      | (with_reducible exact ih3 _ _ _ _ _)
      | (with_reducible exact ih4 _ _ _ _ _ _)
      | (with_reducible exact slotmeshref22_Valid.mono _ _)
      | (with_reducible exact LeO.refl _)
      | (with_reducible exact LeO.none _)
      | (with_reducible refine LeO.ite ?_ ?_)
      | (with_reducible refine LeO.bind ?_ (fun _ => ?_))
      | exact ih0 _ _ _ _
      | exact ih1 _ _ _ _ _
      | exact ih2 _ _ _ _
      | exact ih3 _ _ _ _ _
      | exact ih4 _ _ _ _ _ _
      | exact slotmeshref22_Valid.mono _ _
      | exact LeO.none _
      | refine LeO.ite ?_ ?_
      | refine LeO.bind ?_ (fun _ => ?_)
theorem slotmeshref22_Depths.mono : ∀ a0 a1 k, LeO (slotmeshref22_Depths.f k a0 a1) (slotmeshref22_Depths.f (k + 1) a0 a1) := by
  intro a0 a1 k
  obtain ⟨ih0, ih1, ih2, ih3, ih4⟩ := slotmeshref22_Depths.mono_l k
  unfold slotmeshref22_Depths.f
  repeat' first
      | (with_reducible exact ih0 _ _ _ _)
      | (with_reducible exact ih1 _ _ _ _ _)
      | (with_reducible exact ih2 _ _ _ _)
      | (with_reducible exact ih3 _ _ _ _ _)
      | (with_reducible exact ih4 _ _ _ _ _ _)
      | (with_reducible exact slotmeshref22_Valid.mono _ _)
      | (with_reducible exact LeO.refl _)
      | (with_reducible exact LeO.none _)
      | (with_reducible refine LeO.ite ?_ ?_)
      | (with_reducible refine LeO.bind ?_ (fun _ => ?_))
      | exact ih0 _ _ _ _
      | exact ih1 _ _ _ _ _
      | exact ih2 _ _ _ _
      | exact ih3 _ _ _ _ _
      | exact ih4 _ _ _ _ _ _
      | exact slotmeshref22_Valid.mono _ _
      | exact LeO.none _
      | refine LeO.ite ?_ ?_
      | refine LeO.bind ?_ (fun _ => ?_)
set_option maxHeartbeats 8000000 in
set_option maxRecDepth 100000 in
theorem slotmeshref22_Depths.calls (k : Nat) (A0 : Option Addr) (c0 : Nat) (l0 : List (List Bool)) (a1 : Int) (r1 : List Int) (r2 : Int) (w : World) (hr0 : Kd.C (Kd.slice 4 Kd.bool) w A0 l0.length l0) (hc0 : l0.length ≤ c0) (h : slotmeshref22_Depths.f k l0 a1 = some (r1, r2)) :
    Calls Try.prog 19 #[.slice A0 l0.length c0, .int .i64 a1] w fun e w' => ∃ v0_ : Value, e = .returned (.tuple #[v0_, .int .i64 r2]) ∧ Kd.R (Kd.int .i64) 3 w' w.heap.size (fun _ => True) v0_ r1 ∧ Below w.heap.size w w' := by
  have HR0 := Aside0.mk hr0
  have HC0 := Aside0.mk hc0
  clear hr0 hc0
  have HB := Aside0.mk (Below.refl w.heap.size w)
  have H : ((slotmeshref22_Valid.f k l0).bind fun t270 => (if t270 = true then (if a1 < 0 then (slotmeshref22_Depths.j0 k l0 a1 (l0.length : Int) true) else (slotmeshref22_Depths.j0 k l0 a1 (l0.length : Int) (decide (a1 ≥ (l0.length : Int))))) else (slotmeshref22_Depths.j0 k l0 a1 (l0.length : Int) true))) = some (r1, r2) := h
  clear h
  replace H := Option.bind_eq_some_iff.mp H
  obtain ⟨t270, A30, H⟩ := H
  replace H : (if t270 = true then (if a1 < 0 then (slotmeshref22_Depths.j0 k l0 a1 (l0.length : Int) true) else (slotmeshref22_Depths.j0 k l0 a1 (l0.length : Int) (decide (a1 ≥ (l0.length : Int))))) else (slotmeshref22_Depths.j0 k l0 a1 (l0.length : Int) true)) = some (r1, r2) := H
  have A3 := Aside0.mk A30
  clear A30
  have HC4 := Aside0.mk H
  clear H
  go_enter Try.func19, Try.ntmps19
  go_upto_region 3 with (first | ((with_reducible refine gate_callee (f := 16) rfl ?_); refine goesL_ (some 14) rfl rfl Try.func16 (by kernel_rfl) rfl #[.slice A0 l0.length c0] rfl (by (try simp only [List.map_toArray, List.map_cons, List.map_nil]); first | done | rfl | (simp only [List.length_drop, List.length_take]; rfl)) ?_; (with_reducible refine (slotmeshref22_Valid.calls k _ _ l0 t270 _ ?side1 ?side2 A3.out).mono ?_); (case side1 => repeat (first | exact HR0.out | (with_reducible refine Kd.C_alloc ?_ _) | (with_reducible refine Kd.C_drewN ?_ _) | (with_reducible refine Kd.C_drew ?_))); (case side2 => exact HC0.out); rintro e w' ⟨rfl, ⟨nd, rfl⟩⟩; refine ⟨_, rfl, ?_⟩))
  (try simp only [Act.put, List.setIfInBounds_toArray, List.set_cons_zero, List.set_cons_succ])
  go_cut [27] (fun v27 wc => ∃ (kq : Nat) (x27_3 : Bool), v27 = .bool x27_3 ∧ Aside0 (slotmeshref22_Depths.j0 kq l0 a1 (l0.length : Int) x27_3 = some (r1, r2)) ∧ Aside0 (kq ≤ k) ∧ Aside0 (Below w.heap.size w wc))
  case first =>
    have H := HC4.out
    clear HC4
    by_cases c5 : t270 = true
    · subst c5
      have H1 : (if a1 < 0 then (slotmeshref22_Depths.j0 k l0 a1 (l0.length : Int) true) else (slotmeshref22_Depths.j0 k l0 a1 (l0.length : Int) (decide (a1 ≥ (l0.length : Int))))) = some (r1, r2) := by rw [if_pos rfl] at H; exact H
      clear H
      have H := H1
      clear H1
      by_cases c6 : a1 < 0
      · rw [if_pos c6] at H
        have c6b0 : decide (a1 < 0) = true := decide_eq_true c6
        clear c6
        (first | rw [c6b0] | (simp only [i64_w, i32_w]; rw [c6b0]) | skip)
        have H' := Aside0.mk H
        clear H
        go_wp2
        go_meet
        case rel => exact ⟨_, (true), (by first | rfl | (simp; done) | (simp [*]; done)), H', ⟨by first | omega | exact Nat.le_refl _⟩, ⟨by repeat (first | (with_reducible first | exact HB.out | apply below_alloc | apply pw_below_drewN | apply below_drew1) | exact HB.out)⟩⟩
      · rw [if_neg c6] at H
        have c6b0 : decide (a1 < 0) = false := decide_eq_false c6
        clear c6
        (first | rw [c6b0] | (simp only [i64_w, i32_w]; rw [c6b0]) | skip)
        have H' := Aside0.mk H
        clear H
        go_wp2
        go_meet
        case rel => exact ⟨_, (decide (a1 ≥ (l0.length : Int))), (by first | rfl | (simp; done) | (simp [*]; done)), H', ⟨by first | omega | exact Nat.le_refl _⟩, ⟨by repeat (first | (with_reducible first | exact HB.out | apply below_alloc | apply pw_below_drewN | apply below_drew1) | exact HB.out)⟩⟩
    · replace c5 := Bool.eq_false_iff.mpr c5
      subst c5
      have H1 : (slotmeshref22_Depths.j0 k l0 a1 (l0.length : Int) true) = some (r1, r2) := by rw [if_neg (show ¬ (false = true) by decide)] at H; exact H
      clear H
      have H := H1
      clear H1
      have H' := Aside0.mk H
      clear H
      go_wp2
      go_meet
      case rel => exact ⟨_, (true), (by first | rfl | (simp; done) | (simp [*]; done)), H', ⟨by first | omega | exact Nat.le_refl _⟩, ⟨by repeat (first | (with_reducible first | exact HB.out | apply below_alloc | apply pw_below_drewN | apply below_drew1) | exact HB.out)⟩⟩
  case rest =>
    clear HC4
    try clear c1
    try clear p2
    try clear c5
    try clear c6
    try clear c6b0
    obtain ⟨kq, x27_3, rfl, HA, HJ3, HB⟩ := hcut
    cases kq with
    | zero => exact absurd HA.out (by simp [slotmeshref22_Depths.j0])
    | succ kj3 =>
      have H := HA.out
      clear HA
      simp only [slotmeshref22_Depths.j0] at H
      by_cases c7 : x27_3 = true
      · subst c7
        have H1 : (some (([] : List Int), 1)) = some (r1, r2) := by rw [if_pos rfl] at H; exact H
        clear H
        have H := H1
        clear H1
        simp only [Option.some.injEq, Prod.mk.injEq] at H
        obtain ⟨rfl, rfl⟩ := H
        go_wp2
        go_ret2
        exact ⟨_, by first | rfl | (simp [errW_none, errW_some] <;> rfl) | (simp [*, errW_none, errW_some] <;> rfl), by first | exact Kd.R_nil _ _ _ _ _ | exact Kd.N_nil _ _ _ _ _ | exact Kd.V_nil _ _ _ _ _ | exact Kd.Q_nil _ _ _ _ _ | exact Kd.S_nil _ _ _ _ _, by repeat (first | (with_reducible first | exact HB.out | apply below_alloc | apply pw_below_drewN | apply below_drew1) | exact HB.out)⟩
      · replace c7 := Bool.eq_false_iff.mpr c7
        subst c7
        have H1 : (if 0 ≤ (l0.length : Int) then (if ((l0.length : Int) : Int).toNat ≤ 35184372088832 then (slotmeshref22_Depths.l0 kj3 l0 a1 (l0.length : Int) (List.replicate ((l0.length : Int) : Int).toNat 0) 0) else (none)) else (none)) = some (r1, r2) := by rw [if_neg (show ¬ (false = true) by decide)] at H; exact H
        clear H
        have H := H1
        clear H1
        by_cases c8 : 0 ≤ (l0.length : Int)
        · rw [if_pos c8] at H
          have c8b0 := eq_true c8
          have c8b1 : decide (0 ≤ (l0.length : Int)) = true := decide_eq_true c8
          clear c8
          by_cases c9 : ((l0.length : Int) : Int).toNat ≤ 35184372088832
          · rw [if_pos c9] at H
            have c9b0 := eq_true c9
            have c9b1 : decide (((l0.length : Int) : Int).toNat ≤ 35184372088832) = true := decide_eq_true c9
            clear c9
            obtain ⟨y271, hy271⟩ : ∃ y_ : List Int, y_ = (List.replicate ((l0.length : Int) : Int).toNat 0) := ⟨_, rfl⟩
            replace H : (slotmeshref22_Depths.l0 kj3 l0 a1 (l0.length : Int) y271 0) = some (r1, r2) := by first | (rw [hy271]; with_reducible exact H) | (have H2_ := (Option.bind_some _ _).symm.trans H; rw [hy271]; with_reducible exact H2_) | (have H2_ := (Option.bind_some _ _).symm.trans H; with_reducible exact H2_) | with_reducible exact H | (rw [hy271]; exact H) | exact H
            have Ny271 := Aside0.mk hy271
            clear hy271
            have H' := Aside0.mk H
            clear H
            go_wp2_with (first | ((with_reducible refine gate_dst (N := 29) rfl ?_); refine Kd.R_make (Kd.int .i64) _ 3 rfl (N := 29) rfl 22 _ _ rfl (l0.length : Int) rfl rfl Try.underlying22 (.int .i64 0) 8 info3 rfl (by decide) (by omega) 0 (ok := fun _ => True) (okp := fun _ => True) rfl (fun _ hk => hk) trivial (of_decide_eq_true (by first | (with_reducible assumption) | assumption)) (Nat.le_trans (Nat.mul_le_mul_right _ (of_decide_eq_true (by first | (with_reducible assumption) | assumption) : (l0.length : Int).toNat ≤ 35184372088832)) (by omega)) (Below.refl _ _) (Nat.le_refl _) ?_; intro v272 w10 ho11 hb hg_ hnew_; clear hg_ hnew_; (first | rw [← Ny271.out] at ho11 | (simp only [Int.reduceToNat] at ho11; rw [← Ny271.out] at ho11)); have n0_ := Aside0.mk (Kd.R_lower ho11 (below_size (by repeat (first | (with_reducible first | exact HB.out | apply below_alloc | apply pw_below_drewN | apply below_drew1) | exact HB.out)))); have n1_ := Aside0.mk (below_step (by repeat (first | (with_reducible first | exact HB.out | apply below_alloc | apply pw_below_drewN | apply below_drew1) | exact HB.out)) hb); clear HB; have HO273 := n0_; have HB := n1_; clear n0_ n1_; clear hb ho11))
            go_loopg [9] kj3 (fun kq v9 w' => ∃ (x8_2 : List Int) (x9_2 : Int), v9 = .int .i64 x9_2 ∧ Aside0 (slotmeshref22_Depths.l0 kq l0 a1 (l0.length : Int) x8_2 x9_2 = some (r1, r2)) ∧ Aside0 (kq ≤ kj3) ∧ Aside0 (Kd.R (Kd.int .i64) 3 w' w.heap.size (fun _ => True) v272 x8_2) ∧ Aside0 (Below w.heap.size w w'))
            case atStart => exact ⟨(y271), (0), (by first | rfl | (simp; done) | (simp [*]; done)), H', ⟨Nat.le_refl _⟩, ⟨by (with_reducible repeat (first | apply Kd.R_alloc | apply Kd.R_drewN | apply Kd.R_drew)); exact HO273.out⟩, ⟨by repeat (first | (with_reducible first | exact HB.out | apply below_alloc | apply pw_below_drewN | apply below_drew1) | exact HB.out)⟩⟩
            case round =>
              clear H'
              try clear c1
              try clear p2
              try clear c5
              try clear c6
              try clear c6b0
              try clear c7
              try clear c8
              try clear c8b0
              try clear c8b1
              try clear c9
              try clear c9b0
              try clear c9b1
              try clear p2
              obtain ⟨x8_2, x9_2, rfl, HA, HK2, HO_8, HB⟩ := hrel
              cases gk with
              | zero => exact absurd HA.out (by simp [slotmeshref22_Depths.l0])
              | succ k2 =>
                have H := HA.out
                clear HA
                simp only [slotmeshref22_Depths.l0] at H
                by_cases c12 : x9_2 < (l0.length : Int)
                · rw [if_pos c12] at H
                  have c12b0 : decide (x9_2 < (l0.length : Int)) = true := decide_eq_true c12
                  clear c12
                  by_cases c13 : 0 ≤ x9_2
                  · rw [if_pos c13] at H
                    have c13b0 : decide (0 ≤ x9_2) = true := decide_eq_true c13
                    clear c13
                    by_cases c14 : x9_2 < (x8_2.length : Int)
                    · rw [if_pos c14] at H
                      have c14b0 : decide (x9_2 < (x8_2.length : Int)) = true := decide_eq_true c14
                      clear c14
                      obtain ⟨y274, hy274⟩ : ∃ y_ : List Int, y_ = (x8_2.set (x9_2 : Int).toNat (-1)) := ⟨_, rfl⟩
                      replace H : (slotmeshref22_Depths.l0 k2 l0 a1 (l0.length : Int) y274 (wrap64 (x9_2 + 1))) = some (r1, r2) := by first | (rw [hy274]; with_reducible exact H) | (have H2_ := (Option.bind_some _ _).symm.trans H; rw [hy274]; with_reducible exact H2_) | (have H2_ := (Option.bind_some _ _).symm.trans H; with_reducible exact H2_) | with_reducible exact H | (rw [hy274]; exact H) | exact H
                      have Ny274 := Aside0.mk hy274
                      clear hy274
                      have H' := Aside0.mk H
                      clear H
                      have p15 : 0 ≤ (x9_2 : Int) := of_decide_eq_true (by first | (with_reducible assumption) | assumption)
                      have q15 : (x9_2 : Int) < ((x8_2.length : Int) : Int) := of_decide_eq_true (by first | (with_reducible assumption) | assumption)
                      obtain ⟨go15, co15, eo15, gb15, gl15, cl15, HG15⟩ := Kd.R_form HO_8.out (by omega)
                      (first | cases eo15 | (injection eo15 with ea_ en_ ec_; (first | subst ea_ | (injection ea_ with ea_; subst ea_)); subst ec_; clear en_))
                      have GB15 := Aside0.mk gb15
                      have GG15 := Aside0.mk HG15
                      clear gb15 gl15 HG15
                      obtain ⟨hx15_0, hf15_0⟩ := Kd.R_celln 0 HO_8.out (x9_2 : Int) p15 q15
                      replace p15 := eq_true p15
                      replace q15 := eq_true q15
                      have HP16 := Kd.R_putg HO_8.out (x9_2 : Int) (-1)
                      go_wp2_with (first | ((with_reducible refine gate_store (t := 3) (p := 37) rfl ?_); refine store_event (t := 3) (p := 37) (v := ?vo_w17) (w1 := (wr.setCell ⟨go15, (x9_2 : Int).toNat, none⟩ (.int .i64 (-1)))) ?hg ?ho ?hn ?hr ?_; (case ho => rfl); (case hg => rfl); (case hn => rfl); (case hr => first | (go_simp; done) | (go_simp; rfl)); intro w17 hw; have hg : wr.grownBy w17 (some go15) := (by rw [hw]; exact HP16.2); have hp_ : Kd.R (Kd.int .i64) 3 w17 w.heap.size (fun _ => True) (.slice (some ⟨go15, 0, none⟩) x8_2.length co15) y274 := (by rw [hw, Ny274.out]; exact HP16.1); clear HP16; have n0_ := Aside0.mk (hp_); have n1_ := Aside0.mk ((by rw [hw]; exact below_set (HB.out) GB15.out : Below w.heap.size w w17)); clear HO_8; clear HB; have HO_8 := n0_; have HB := n1_; clear n0_ n1_; clear hg hw hp_))
                      go_roundg k2
                      case measure => have := HJ3.out; have := HK2.out; omega
                      case rel => exact ⟨(y274), (wrap64 (x9_2 + 1)), (by first | rfl | (simp; done) | (simp [*]; done)), H', ⟨by have := HJ3.out; have := HK2.out; omega⟩, ⟨by (with_reducible repeat (first | apply Kd.R_alloc | apply Kd.R_drewN | apply Kd.R_drew)); exact HO_8.out⟩, ⟨by repeat (first | (with_reducible first | exact HB.out | apply below_alloc | apply pw_below_drewN | apply below_drew1) | exact HB.out)⟩⟩
                    · rw [if_neg c14] at H
                      exact absurd H (by simp)
                  · rw [if_neg c13] at H
                    exact absurd H (by simp)
                · rw [if_neg c12] at H
                  have c12b0 : decide (x9_2 < (l0.length : Int)) = false := decide_eq_false c12
                  clear c12
                  by_cases c18 : 0 ≤ a1
                  · rw [if_pos c18] at H
                    have c18b0 : decide (0 ≤ a1) = true := decide_eq_true c18
                    clear c18
                    by_cases c19 : a1 < (x8_2.length : Int)
                    · rw [if_pos c19] at H
                      have c19b0 : decide (a1 < (x8_2.length : Int)) = true := decide_eq_true c19
                      clear c19
                      obtain ⟨y275, hy275⟩ : ∃ y_ : List Int, y_ = (x8_2.set (a1 : Int).toNat 0) := ⟨_, rfl⟩
                      replace H : (slotmeshref22_Depths.l1 k2 l0 (l0.length : Int) y275 1) = some (r1, r2) := by first | (rw [hy275]; with_reducible exact H) | (have H2_ := (Option.bind_some _ _).symm.trans H; rw [hy275]; with_reducible exact H2_) | (have H2_ := (Option.bind_some _ _).symm.trans H; with_reducible exact H2_) | with_reducible exact H | (rw [hy275]; exact H) | exact H
                      have Ny275 := Aside0.mk hy275
                      clear hy275
                      have H' := Aside0.mk H
                      clear H
                      have p20 : 0 ≤ (a1 : Int) := of_decide_eq_true (by first | (with_reducible assumption) | assumption)
                      have q20 : (a1 : Int) < ((x8_2.length : Int) : Int) := of_decide_eq_true (by first | (with_reducible assumption) | assumption)
                      obtain ⟨go20, co20, eo20, gb20, gl20, cl20, HG20⟩ := Kd.R_form HO_8.out (by omega)
                      (first | cases eo20 | (injection eo20 with ea_ en_ ec_; (first | subst ea_ | (injection ea_ with ea_; subst ea_)); subst ec_; clear en_))
                      have GB20 := Aside0.mk gb20
                      have GG20 := Aside0.mk HG20
                      clear gb20 gl20 HG20
                      obtain ⟨hx20_0, hf20_0⟩ := Kd.R_celln 0 HO_8.out (a1 : Int) p20 q20
                      replace p20 := eq_true p20
                      replace q20 := eq_true q20
                      have HP21 := Kd.R_putg HO_8.out (a1 : Int) 0
                      go_wp2_with (first | ((with_reducible refine gate_store (t := 3) (p := 40) rfl ?_); refine store_event (t := 3) (p := 40) (v := ?vo_w22) (w1 := (wr.setCell ⟨go20, (a1 : Int).toNat, none⟩ (.int .i64 0))) ?hg ?ho ?hn ?hr ?_; (case ho => rfl); (case hg => rfl); (case hn => rfl); (case hr => first | (go_simp; done) | (go_simp; rfl)); intro w22 hw; have hg : wr.grownBy w22 (some go20) := (by rw [hw]; exact HP21.2); have hp_ : Kd.R (Kd.int .i64) 3 w22 w.heap.size (fun _ => True) (.slice (some ⟨go20, 0, none⟩) x8_2.length co20) y275 := (by rw [hw, Ny275.out]; exact HP21.1); clear HP21; have n0_ := Aside0.mk (hp_); have n1_ := Aside0.mk ((by rw [hw]; exact below_set (HB.out) GB20.out : Below w.heap.size w w22)); clear HO_8; clear HB; have HO_8 := n0_; have HB := n1_; clear n0_ n1_; clear hg hw hp_))
                      go_loopg [10] k2 (fun kq v10 w' => ∃ (x8_3 : List Int) (x10_3 : Int), v10 = .int .i64 x10_3 ∧ Aside0 (slotmeshref22_Depths.l1 kq l0 (l0.length : Int) x8_3 x10_3 = some (r1, r2)) ∧ Aside0 (kq ≤ k2) ∧ Aside0 (Kd.R (Kd.int .i64) 3 w' w.heap.size (fun _ => True) (.slice (some ⟨go20, 0, none⟩) x8_2.length co20) x8_3) ∧ Aside0 (Below w.heap.size w w'))
                      case atStart => exact ⟨(y275), (1), (by first | rfl | (simp; done) | (simp [*]; done)), H', ⟨Nat.le_refl _⟩, ⟨by (with_reducible repeat (first | apply Kd.R_alloc | apply Kd.R_drewN | apply Kd.R_drew)); exact HO_8.out⟩, ⟨by repeat (first | (with_reducible first | exact HB.out | apply below_alloc | apply pw_below_drewN | apply below_drew1) | exact HB.out)⟩⟩
                      case round =>
                        clear H'
                        try clear c1
                        try clear p1
                        try clear q1
                        try clear hx1
                        try clear p2
                        try clear q2
                        try clear hx2
                        try clear hf2
                        try clear c5
                        try clear c6
                        try clear c6b0
                        try clear p6
                        try clear c7
                        try clear c8
                        try clear c8b0
                        try clear c8b1
                        try clear c9
                        try clear c9b0
                        try clear c9b1
                        try clear c12
                        try clear c12b0
                        try clear c13
                        try clear c13b0
                        try clear c14
                        try clear c14b0
                        try clear p15
                        try clear q15
                        try clear hx15
                        try clear hf15
                        try clear c16
                        try clear c18
                        try clear c18b0
                        try clear c19
                        try clear c19b0
                        try clear p20
                        try clear q20
                        try clear hx20
                        try clear hf20
                        try clear hx15_0
                        try clear hx20_0
                        try clear p15
                        try clear p2
                        try clear p20
                        try clear q15
                        try clear q20
                        obtain ⟨x8_3, x10_3, rfl, HA, HK3, HO_8, HB⟩ := hrel
                        have hl8_3 := (Kd.R_reads' HO_8.out).1
                        rw [hl8_3] at HO_8
                        (try simp only [hl8_3])
                        cases gk with
                        | zero => exact absurd HA.out (by simp [slotmeshref22_Depths.l1])
                        | succ k3 =>
                          have H := HA.out
                          clear HA
                          simp only [slotmeshref22_Depths.l1] at H
                          by_cases c23 : x10_3 < (l0.length : Int)
                          · rw [if_pos c23] at H
                            have c23b0 : decide (x10_3 < (l0.length : Int)) = true := decide_eq_true c23
                            clear c23
                            have H' := Aside0.mk H
                            clear H
                            go_wp2
                            go_loopg [11] k3 (fun kq v11 w' => ∃ (x8_4 : List Int) (x11_4 : Int), v11 = .int .i64 x11_4 ∧ Aside0 (slotmeshref22_Depths.l2 kq l0 (l0.length : Int) x8_4 x10_3 x11_4 = some (r1, r2)) ∧ Aside0 (kq ≤ k3) ∧ Aside0 (Kd.R (Kd.int .i64) 3 w' w.heap.size (fun _ => True) (.slice (some ⟨go20, 0, none⟩) x8_3.length co20) x8_4) ∧ Aside0 (Below w.heap.size w w'))
                            case atStart => exact ⟨(x8_3), (0), (by first | rfl | (simp; done) | (simp [*]; done)), H', ⟨Nat.le_refl _⟩, ⟨by (try simp only [hl8_3]); (with_reducible repeat (first | apply Kd.R_alloc | apply Kd.R_drewN | apply Kd.R_drew)); exact HO_8.out⟩, ⟨by repeat (first | (with_reducible first | exact HB.out | apply below_alloc | apply pw_below_drewN | apply below_drew1) | exact HB.out)⟩⟩
                            case round =>
                              clear H'
                              try clear c1
                              try clear p1
                              try clear q1
                              try clear hx1
                              try clear c2
                              try clear p2
                              try clear q2
                              try clear hx2
                              try clear hf2
                              try clear c5
                              try clear c6
                              try clear c6b0
                              try clear p6
                              try clear c7
                              try clear c8
                              try clear c8b0
                              try clear c8b1
                              try clear c9
                              try clear c9b0
                              try clear c9b1
                              try clear c12
                              try clear c12b0
                              try clear c13
                              try clear c13b0
                              try clear c14
                              try clear c14b0
                              try clear p15
                              try clear q15
                              try clear hx15
                              try clear hf15
                              try clear c16
                              try clear c18
                              try clear c18b0
                              try clear c19
                              try clear c19b0
                              try clear p20
                              try clear q20
                              try clear hx20
                              try clear hf20
                              try clear c23
                              try clear c23b0
                              try clear hx15_0
                              try clear hx20_0
                              try clear p1
                              try clear p15
                              try clear p2
                              try clear p20
                              try clear p6
                              try clear q1
                              try clear q15
                              try clear q2
                              try clear q20
                              obtain ⟨x8_4, x11_4, rfl, HA, HK4, HO_8, HB⟩ := hrel
                              have hl8_4 := (Kd.R_reads' HO_8.out).1
                              rw [hl8_4] at HO_8
                              (try simp only [hl8_4])
                              cases gk with
                              | zero => exact absurd HA.out (by simp [slotmeshref22_Depths.l2])
                              | succ k4 =>
                                have H := HA.out
                                clear HA
                                simp only [slotmeshref22_Depths.l2] at H
                                by_cases c24 : x11_4 < (l0.length : Int)
                                · rw [if_pos c24] at H
                                  have c24b0 : decide (x11_4 < (l0.length : Int)) = true := decide_eq_true c24
                                  clear c24
                                  have H' := Aside0.mk H
                                  clear H
                                  go_wp2
                                  go_loopg [12] k4 (fun kq v12 w' => ∃ (x8_5 : List Int) (x12_5 : Int), v12 = .int .i64 x12_5 ∧ Aside0 (slotmeshref22_Depths.l3 kq l0 (l0.length : Int) x8_5 x10_3 x11_4 x12_5 = some (r1, r2)) ∧ Aside0 (kq ≤ k4) ∧ Aside0 (Kd.R (Kd.int .i64) 3 w' w.heap.size (fun _ => True) (.slice (some ⟨go20, 0, none⟩) x8_4.length co20) x8_5) ∧ Aside0 (Below w.heap.size w w'))
                                  case atStart => exact ⟨(x8_4), (0), (by first | rfl | (simp; done) | (simp [*]; done)), H', ⟨Nat.le_refl _⟩, ⟨by (try simp only [hl8_3]); (try simp only [hl8_4]); (with_reducible repeat (first | apply Kd.R_alloc | apply Kd.R_drewN | apply Kd.R_drew)); exact HO_8.out⟩, ⟨by repeat (first | (with_reducible first | exact HB.out | apply below_alloc | apply pw_below_drewN | apply below_drew1) | exact HB.out)⟩⟩
                                  case round =>
                                    clear H'
                                    try clear c1
                                    try clear p1
                                    try clear q1
                                    try clear hx1
                                    try clear c2
                                    try clear p2
                                    try clear q2
                                    try clear hx2
                                    try clear hf2
                                    try clear c5
                                    try clear c6
                                    try clear c6b0
                                    try clear p6
                                    try clear c7
                                    try clear c8
                                    try clear c8b0
                                    try clear c8b1
                                    try clear c9
                                    try clear c9b0
                                    try clear c9b1
                                    try clear c12
                                    try clear c12b0
                                    try clear c13
                                    try clear c13b0
                                    try clear c14
                                    try clear c14b0
                                    try clear p15
                                    try clear q15
                                    try clear hx15
                                    try clear hf15
                                    try clear c16
                                    try clear c18
                                    try clear c18b0
                                    try clear c19
                                    try clear c19b0
                                    try clear p20
                                    try clear q20
                                    try clear hx20
                                    try clear hf20
                                    try clear c23
                                    try clear c23b0
                                    try clear c24
                                    try clear c24b0
                                    try clear hx15_0
                                    try clear hx20_0
                                    try clear p1
                                    try clear p15
                                    try clear p2
                                    try clear p20
                                    try clear p6
                                    try clear q1
                                    try clear q15
                                    try clear q2
                                    try clear q20
                                    obtain ⟨x8_5, x12_5, rfl, HA, HK5, HO_8, HB⟩ := hrel
                                    have hl8_5 := (Kd.R_reads' HO_8.out).1
                                    rw [hl8_5] at HO_8
                                    (try simp only [hl8_5])
                                    cases gk with
                                    | zero => exact absurd HA.out (by simp [slotmeshref22_Depths.l3])
                                    | succ k5 =>
                                      have H := HA.out
                                      clear HA
                                      simp only [slotmeshref22_Depths.l3] at H
                                      by_cases c25 : x12_5 < (l0.length : Int)
                                      · rw [if_pos c25] at H
                                        have c25b0 : decide (x12_5 < (l0.length : Int)) = true := decide_eq_true c25
                                        clear c25
                                        by_cases c26 : 0 ≤ x11_4
                                        · rw [if_pos c26] at H
                                          have c26b0 : decide (0 ≤ x11_4) = true := decide_eq_true c26
                                          clear c26
                                          by_cases c27 : x11_4 < (x8_5.length : Int)
                                          · rw [if_pos c27] at H
                                            have c27b0 : decide (x11_4 < (x8_5.length : Int)) = true := decide_eq_true c27
                                            clear c27
                                            by_cases c28 : (rd x8_5 x11_4) < 0
                                            · rw [if_pos c28] at H
                                              have c28b0 : decide ((rd x8_5 x11_4) < 0) = true := decide_eq_true c28
                                              clear c28
                                              by_cases c29 : x11_4 < (l0.length : Int)
                                              · rw [if_pos c29] at H
                                                have c29b0 : decide (x11_4 < (l0.length : Int)) = true := decide_eq_true c29
                                                clear c29
                                                by_cases c30 : 0 ≤ x12_5
                                                · rw [if_pos c30] at H
                                                  have c30b0 : decide (0 ≤ x12_5) = true := decide_eq_true c30
                                                  clear c30
                                                  by_cases c31 : x12_5 < ((rd_L2 l0 x11_4).length : Int)
                                                  · rw [if_pos c31] at H
                                                    have c31b0 : decide (x12_5 < ((rd_L2 l0 x11_4).length : Int)) = true := decide_eq_true c31
                                                    clear c31
                                                    obtain ⟨bq32, hbq32⟩ : ∃ b_ : Bool, b_ = (rdOf false (rd_L2 l0 x11_4) x12_5) := ⟨_, rfl⟩
                                                    replace H : (if bq32 = true then (if x12_5 < (x8_5.length : Int) then (if (rd x8_5 x12_5) = (wrap64 (x10_3 - 1)) then (slotmeshref22_Depths.l3 k5 l0 (l0.length : Int) (x8_5.set (x11_4 : Int).toNat x10_3) x10_3 x11_4 (wrap64 (x12_5 + 1))) else (slotmeshref22_Depths.l3 k5 l0 (l0.length : Int) x8_5 x10_3 x11_4 (wrap64 (x12_5 + 1)))) else (none)) else (slotmeshref22_Depths.l3 k5 l0 (l0.length : Int) x8_5 x10_3 x11_4 (wrap64 (x12_5 + 1)))) = some (r1, r2) := by rw [← hbq32] at H; exact H
                                                    have Nbq32 := Aside0.mk hbq32
                                                    clear hbq32
                                                    by_cases c33 : bq32 = true
                                                    · subst c33
                                                      have H1 : (if x12_5 < (x8_5.length : Int) then (if (rd x8_5 x12_5) = (wrap64 (x10_3 - 1)) then (slotmeshref22_Depths.l3 k5 l0 (l0.length : Int) (x8_5.set (x11_4 : Int).toNat x10_3) x10_3 x11_4 (wrap64 (x12_5 + 1))) else (slotmeshref22_Depths.l3 k5 l0 (l0.length : Int) x8_5 x10_3 x11_4 (wrap64 (x12_5 + 1)))) else (none)) = some (r1, r2) := by rw [if_pos rfl] at H; exact H
                                                      clear H
                                                      have H := H1
                                                      clear H1
                                                      by_cases c34 : x12_5 < (x8_5.length : Int)
                                                      · rw [if_pos c34] at H
                                                        have c34b0 : decide (x12_5 < (x8_5.length : Int)) = true := decide_eq_true c34
                                                        clear c34
                                                        by_cases c35 : (rd x8_5 x12_5) = (wrap64 (x10_3 - 1))
                                                        · rw [if_pos c35] at H
                                                          have c35b0 : ((rd x8_5 x12_5) == (wrap64 (x10_3 - 1))) = true := beq_iff_eq.mpr c35
                                                          have c35b1 : ((rd x8_5 x12_5) != (wrap64 (x10_3 - 1))) = false := bne_eq_false_iff_eq.mpr c35
                                                          clear c35
                                                          obtain ⟨y280, hy280⟩ : ∃ y_ : List Int, y_ = (x8_5.set (x11_4 : Int).toNat x10_3) := ⟨_, rfl⟩
                                                          replace H : (slotmeshref22_Depths.l3 k5 l0 (l0.length : Int) y280 x10_3 x11_4 (wrap64 (x12_5 + 1))) = some (r1, r2) := by first | (rw [hy280]; with_reducible exact H) | (have H2_ := (Option.bind_some _ _).symm.trans H; rw [hy280]; with_reducible exact H2_) | (have H2_ := (Option.bind_some _ _).symm.trans H; with_reducible exact H2_) | with_reducible exact H | (rw [hy280]; exact H) | exact H
                                                          have Ny280 := Aside0.mk hy280
                                                          clear hy280
                                                          have H' := Aside0.mk H
                                                          clear H
                                                          have p276 : 0 ≤ (x11_4 : Int) := of_decide_eq_true (by first | (with_reducible assumption) | assumption)
                                                          have q276 : x11_4 < (x8_5.length : Int) := of_decide_eq_true (by first | (with_reducible assumption) | assumption)
                                                          obtain ⟨ad276, e276, hx276_0⟩ := Kd.at_int (Kd.R_reads' HO_8.out).2.2 x11_4 p276 q276
                                                          obtain rfl : (⟨go20, 0, none⟩ : Addr) = ad276 := (by injection e276)
                                                          (first | simp only [add_plain] at hx276_0 | simp only [add_at] at hx276_0 | simp only [Addr.add, Nat.zero_add] at hx276_0 | skip)
                                                          replace p276 := eq_true p276
                                                          replace q276 := eq_true q276
                                                          have p277 : 0 ≤ (x11_4 : Int) := of_decide_eq_true (by first | (with_reducible assumption) | assumption)
                                                          have q277 : x11_4 < (l0.length : Int) := of_decide_eq_true (by first | (with_reducible assumption) | assumption)
                                                          obtain ⟨ad277, A277_0, c277_0, e277, hx277_0, hl277_0, hi277_0⟩ := at_L2 HR0.out x11_4 p277 q277
                                                          cases e277
                                                          replace hx277_0 := (HB.out.cell (World.block_lt_of_cell? w _ hx277_0)).trans hx277_0
                                                          have HR277_0 := Aside0.mk hi277_0
                                                          have HC277_0 := Aside0.mk hl277_0
                                                          clear hi277_0 hl277_0
                                                          replace p277 := eq_true p277
                                                          replace q277 := eq_true q277
                                                          have p278 : 0 ≤ (x12_5 : Int) := of_decide_eq_true (by first | (with_reducible assumption) | assumption)
                                                          have q278 : x12_5 < ((rd_L2 l0 x11_4).length : Int) := of_decide_eq_true (by first | (with_reducible assumption) | assumption)
                                                          obtain ⟨ad278, e278, hx278_0⟩ := Kd.at_bool HR277_0.out x12_5 p278 q278
                                                          (try rw [← Nbq32.out] at hx278_0)
                                                          cases e278
                                                          replace hx278_0 := (HB.out.cell (World.block_lt_of_cell? w _ hx278_0)).trans hx278_0
                                                          replace p278 := eq_true p278
                                                          replace q278 := eq_true q278
                                                          have p279 : 0 ≤ (x12_5 : Int) := of_decide_eq_true (by first | (with_reducible assumption) | assumption)
                                                          have q279 : x12_5 < (x8_5.length : Int) := of_decide_eq_true (by first | (with_reducible assumption) | assumption)
                                                          obtain ⟨ad279, e279, hx279_0⟩ := Kd.at_int (Kd.R_reads' HO_8.out).2.2 x12_5 p279 q279
                                                          obtain rfl : (⟨go20, 0, none⟩ : Addr) = ad279 := (by injection e279)
                                                          (first | simp only [add_plain] at hx279_0 | simp only [add_at] at hx279_0 | simp only [Addr.add, Nat.zero_add] at hx279_0 | skip)
                                                          replace p279 := eq_true p279
                                                          replace q279 := eq_true q279
                                                          have p36 : 0 ≤ (x11_4 : Int) := of_decide_eq_true (by first | (with_reducible assumption) | assumption)
                                                          have q36 : (x11_4 : Int) < ((x8_5.length : Int) : Int) := of_decide_eq_true (by first | (with_reducible assumption) | assumption)
                                                          obtain ⟨hx36_0, hf36_0⟩ := Kd.R_celln 0 HO_8.out (x11_4 : Int) p36 q36
                                                          replace p36 := eq_true p36
                                                          replace q36 := eq_true q36
                                                          have HP37 := Kd.R_putg HO_8.out (x11_4 : Int) x10_3
                                                          go_wp2_with (first | ((with_reducible refine gate_store (t := 3) (p := 82) rfl ?_); refine store_event (t := 3) (p := 82) (v := ?vo_w38) (w1 := (wr.setCell ⟨go20, (x11_4 : Int).toNat, none⟩ (.int .i64 x10_3))) ?hg ?ho ?hn ?hr ?_; (case ho => rfl); (case hg => rfl); (case hn => rfl); (case hr => first | (go_simp; done) | (go_simp; rfl)); intro w38 hw; have hg : wr.grownBy w38 (some go20) := (by rw [hw]; exact HP37.2); have hp_ : Kd.R (Kd.int .i64) 3 w38 w.heap.size (fun _ => True) (.slice (some ⟨go20, 0, none⟩) x8_5.length co20) y280 := (by rw [hw, Ny280.out]; exact HP37.1); clear HP37; have n0_ := Aside0.mk (hp_); have n1_ := Aside0.mk ((by rw [hw]; exact below_set (HB.out) GB20.out : Below w.heap.size w w38)); clear HO_8; clear HB; have HO_8 := n0_; have HB := n1_; clear n0_ n1_; clear hg hw hp_))
                                                          (try simp only [← hl8_5])
                                                          go_roundg k5
                                                          case measure => have := HJ3.out; have := HK2.out; have := HK3.out; have := HK4.out; have := HK5.out; omega
                                                          case rel => exact ⟨(y280), (wrap64 (x12_5 + 1)), (by first | rfl | (simp; done) | (simp [*]; done)), H', ⟨by have := HJ3.out; have := HK2.out; have := HK3.out; have := HK4.out; have := HK5.out; omega⟩, ⟨by (try simp only [hl8_3]); (try simp only [hl8_4]); (try simp only [hl8_5]); (with_reducible repeat (first | apply Kd.R_alloc | apply Kd.R_drewN | apply Kd.R_drew)); exact HO_8.out⟩, ⟨by repeat (first | (with_reducible first | exact HB.out | apply below_alloc | apply pw_below_drewN | apply below_drew1) | exact HB.out)⟩⟩
                                                        · rw [if_neg c35] at H
                                                          have c35b0 : ((rd x8_5 x12_5) == (wrap64 (x10_3 - 1))) = false := beq_eq_false_iff_ne.mpr c35
                                                          have c35b1 : ((rd x8_5 x12_5) != (wrap64 (x10_3 - 1))) = true := bne_iff_ne.mpr c35
                                                          have H' := Aside0.mk H
                                                          clear H
                                                          have p276 : 0 ≤ (x11_4 : Int) := of_decide_eq_true (by first | (with_reducible assumption) | assumption)
                                                          have q276 : x11_4 < (x8_5.length : Int) := of_decide_eq_true (by first | (with_reducible assumption) | assumption)
                                                          obtain ⟨ad276, e276, hx276_0⟩ := Kd.at_int (Kd.R_reads' HO_8.out).2.2 x11_4 p276 q276
                                                          obtain rfl : (⟨go20, 0, none⟩ : Addr) = ad276 := (by injection e276)
                                                          (first | simp only [add_plain] at hx276_0 | simp only [add_at] at hx276_0 | simp only [Addr.add, Nat.zero_add] at hx276_0 | skip)
                                                          replace p276 := eq_true p276
                                                          replace q276 := eq_true q276
                                                          have p277 : 0 ≤ (x11_4 : Int) := of_decide_eq_true (by first | (with_reducible assumption) | assumption)
                                                          have q277 : x11_4 < (l0.length : Int) := of_decide_eq_true (by first | (with_reducible assumption) | assumption)
                                                          obtain ⟨ad277, A277_0, c277_0, e277, hx277_0, hl277_0, hi277_0⟩ := at_L2 HR0.out x11_4 p277 q277
                                                          cases e277
                                                          replace hx277_0 := (HB.out.cell (World.block_lt_of_cell? w _ hx277_0)).trans hx277_0
                                                          have HR277_0 := Aside0.mk hi277_0
                                                          have HC277_0 := Aside0.mk hl277_0
                                                          clear hi277_0 hl277_0
                                                          replace p277 := eq_true p277
                                                          replace q277 := eq_true q277
                                                          have p278 : 0 ≤ (x12_5 : Int) := of_decide_eq_true (by first | (with_reducible assumption) | assumption)
                                                          have q278 : x12_5 < ((rd_L2 l0 x11_4).length : Int) := of_decide_eq_true (by first | (with_reducible assumption) | assumption)
                                                          obtain ⟨ad278, e278, hx278_0⟩ := Kd.at_bool HR277_0.out x12_5 p278 q278
                                                          (try rw [← Nbq32.out] at hx278_0)
                                                          cases e278
                                                          replace hx278_0 := (HB.out.cell (World.block_lt_of_cell? w _ hx278_0)).trans hx278_0
                                                          replace p278 := eq_true p278
                                                          replace q278 := eq_true q278
                                                          have p279 : 0 ≤ (x12_5 : Int) := of_decide_eq_true (by first | (with_reducible assumption) | assumption)
                                                          have q279 : x12_5 < (x8_5.length : Int) := of_decide_eq_true (by first | (with_reducible assumption) | assumption)
                                                          obtain ⟨ad279, e279, hx279_0⟩ := Kd.at_int (Kd.R_reads' HO_8.out).2.2 x12_5 p279 q279
                                                          obtain rfl : (⟨go20, 0, none⟩ : Addr) = ad279 := (by injection e279)
                                                          (first | simp only [add_plain] at hx279_0 | simp only [add_at] at hx279_0 | simp only [Addr.add, Nat.zero_add] at hx279_0 | skip)
                                                          replace p279 := eq_true p279
                                                          replace q279 := eq_true q279
                                                          go_wp2
                                                          (try simp only [← hl8_5])
                                                          go_roundg k5
                                                          case measure => have := HJ3.out; have := HK2.out; have := HK3.out; have := HK4.out; have := HK5.out; omega
                                                          case rel => exact ⟨(x8_5), (wrap64 (x12_5 + 1)), (by first | rfl | (simp; done) | (simp [*]; done)), H', ⟨by have := HJ3.out; have := HK2.out; have := HK3.out; have := HK4.out; have := HK5.out; omega⟩, ⟨by (try simp only [hl8_3]); (try simp only [hl8_4]); (try simp only [hl8_5]); (with_reducible repeat (first | apply Kd.R_alloc | apply Kd.R_drewN | apply Kd.R_drew)); exact HO_8.out⟩, ⟨by repeat (first | (with_reducible first | exact HB.out | apply below_alloc | apply pw_below_drewN | apply below_drew1) | exact HB.out)⟩⟩
                                                      · rw [if_neg c34] at H
                                                        exact absurd H (by simp)
                                                    · replace c33 := Bool.eq_false_iff.mpr c33
                                                      subst c33
                                                      have H1 : (slotmeshref22_Depths.l3 k5 l0 (l0.length : Int) x8_5 x10_3 x11_4 (wrap64 (x12_5 + 1))) = some (r1, r2) := by rw [if_neg (show ¬ (false = true) by decide)] at H; exact H
                                                      clear H
                                                      have H := H1
                                                      clear H1
                                                      have H' := Aside0.mk H
                                                      clear H
                                                      have p276 : 0 ≤ (x11_4 : Int) := of_decide_eq_true (by first | (with_reducible assumption) | assumption)
                                                      have q276 : x11_4 < (x8_5.length : Int) := of_decide_eq_true (by first | (with_reducible assumption) | assumption)
                                                      obtain ⟨ad276, e276, hx276_0⟩ := Kd.at_int (Kd.R_reads' HO_8.out).2.2 x11_4 p276 q276
                                                      obtain rfl : (⟨go20, 0, none⟩ : Addr) = ad276 := (by injection e276)
                                                      (first | simp only [add_plain] at hx276_0 | simp only [add_at] at hx276_0 | simp only [Addr.add, Nat.zero_add] at hx276_0 | skip)
                                                      replace p276 := eq_true p276
                                                      replace q276 := eq_true q276
                                                      have p277 : 0 ≤ (x11_4 : Int) := of_decide_eq_true (by first | (with_reducible assumption) | assumption)
                                                      have q277 : x11_4 < (l0.length : Int) := of_decide_eq_true (by first | (with_reducible assumption) | assumption)
                                                      obtain ⟨ad277, A277_0, c277_0, e277, hx277_0, hl277_0, hi277_0⟩ := at_L2 HR0.out x11_4 p277 q277
                                                      cases e277
                                                      replace hx277_0 := (HB.out.cell (World.block_lt_of_cell? w _ hx277_0)).trans hx277_0
                                                      have HR277_0 := Aside0.mk hi277_0
                                                      have HC277_0 := Aside0.mk hl277_0
                                                      clear hi277_0 hl277_0
                                                      replace p277 := eq_true p277
                                                      replace q277 := eq_true q277
                                                      have p278 : 0 ≤ (x12_5 : Int) := of_decide_eq_true (by first | (with_reducible assumption) | assumption)
                                                      have q278 : x12_5 < ((rd_L2 l0 x11_4).length : Int) := of_decide_eq_true (by first | (with_reducible assumption) | assumption)
                                                      obtain ⟨ad278, e278, hx278_0⟩ := Kd.at_bool HR277_0.out x12_5 p278 q278
                                                      (try rw [← Nbq32.out] at hx278_0)
                                                      cases e278
                                                      replace hx278_0 := (HB.out.cell (World.block_lt_of_cell? w _ hx278_0)).trans hx278_0
                                                      replace p278 := eq_true p278
                                                      replace q278 := eq_true q278
                                                      go_wp2
                                                      (try simp only [← hl8_5])
                                                      go_roundg k5
                                                      case measure => have := HJ3.out; have := HK2.out; have := HK3.out; have := HK4.out; have := HK5.out; omega
                                                      case rel => exact ⟨(x8_5), (wrap64 (x12_5 + 1)), (by first | rfl | (simp; done) | (simp [*]; done)), H', ⟨by have := HJ3.out; have := HK2.out; have := HK3.out; have := HK4.out; have := HK5.out; omega⟩, ⟨by (try simp only [hl8_3]); (try simp only [hl8_4]); (try simp only [hl8_5]); (with_reducible repeat (first | apply Kd.R_alloc | apply Kd.R_drewN | apply Kd.R_drew)); exact HO_8.out⟩, ⟨by repeat (first | (with_reducible first | exact HB.out | apply below_alloc | apply pw_below_drewN | apply below_drew1) | exact HB.out)⟩⟩
                                                  · rw [if_neg c31] at H
                                                    exact absurd H (by simp)
                                                · rw [if_neg c30] at H
                                                  exact absurd H (by simp)
                                              · rw [if_neg c29] at H
                                                exact absurd H (by simp)
                                            · rw [if_neg c28] at H
                                              have c28b0 : decide ((rd x8_5 x11_4) < 0) = false := decide_eq_false c28
                                              clear c28
                                              have H' := Aside0.mk H
                                              clear H
                                              have p276 : 0 ≤ (x11_4 : Int) := of_decide_eq_true (by first | (with_reducible assumption) | assumption)
                                              have q276 : x11_4 < (x8_5.length : Int) := of_decide_eq_true (by first | (with_reducible assumption) | assumption)
                                              obtain ⟨ad276, e276, hx276_0⟩ := Kd.at_int (Kd.R_reads' HO_8.out).2.2 x11_4 p276 q276
                                              obtain rfl : (⟨go20, 0, none⟩ : Addr) = ad276 := (by injection e276)
                                              (first | simp only [add_plain] at hx276_0 | simp only [add_at] at hx276_0 | simp only [Addr.add, Nat.zero_add] at hx276_0 | skip)
                                              replace p276 := eq_true p276
                                              replace q276 := eq_true q276
                                              go_wp2
                                              (try simp only [← hl8_5])
                                              go_roundg k5
                                              case measure => have := HJ3.out; have := HK2.out; have := HK3.out; have := HK4.out; have := HK5.out; omega
                                              case rel => exact ⟨(x8_5), (wrap64 (x12_5 + 1)), (by first | rfl | (simp; done) | (simp [*]; done)), H', ⟨by have := HJ3.out; have := HK2.out; have := HK3.out; have := HK4.out; have := HK5.out; omega⟩, ⟨by (try simp only [hl8_3]); (try simp only [hl8_4]); (try simp only [hl8_5]); (with_reducible repeat (first | apply Kd.R_alloc | apply Kd.R_drewN | apply Kd.R_drew)); exact HO_8.out⟩, ⟨by repeat (first | (with_reducible first | exact HB.out | apply below_alloc | apply pw_below_drewN | apply below_drew1) | exact HB.out)⟩⟩
                                          · rw [if_neg c27] at H
                                            exact absurd H (by simp)
                                        · rw [if_neg c26] at H
                                          exact absurd H (by simp)
                                      · rw [if_neg c25] at H
                                        have c25b0 : decide (x12_5 < (l0.length : Int)) = false := decide_eq_false c25
                                        clear c25
                                        have H' := Aside0.mk H
                                        clear H
                                        go_wp2
                                        (try simp only [← hl8_4, ← hl8_5])
                                        go_roundg k5
                                        case measure => have := HJ3.out; have := HK2.out; have := HK3.out; have := HK4.out; have := HK5.out; omega
                                        case rel => exact ⟨(x8_5), (wrap64 (x11_4 + 1)), (by first | rfl | (simp; done) | (simp [*]; done)), H', ⟨by have := HJ3.out; have := HK2.out; have := HK3.out; have := HK4.out; have := HK5.out; omega⟩, ⟨by (try simp only [hl8_3]); (try simp only [hl8_4]); (try simp only [hl8_5]); (with_reducible repeat (first | apply Kd.R_alloc | apply Kd.R_drewN | apply Kd.R_drew)); exact HO_8.out⟩, ⟨by repeat (first | (with_reducible first | exact HB.out | apply below_alloc | apply pw_below_drewN | apply below_drew1) | exact HB.out)⟩⟩
                                · rw [if_neg c24] at H
                                  have c24b0 : decide (x11_4 < (l0.length : Int)) = false := decide_eq_false c24
                                  clear c24
                                  have H' := Aside0.mk H
                                  clear H
                                  go_wp2
                                  (try simp only [← hl8_3, ← hl8_4])
                                  go_roundg k4
                                  case measure => have := HJ3.out; have := HK2.out; have := HK3.out; have := HK4.out; omega
                                  case rel => exact ⟨(x8_4), (wrap64 (x10_3 + 1)), (by first | rfl | (simp; done) | (simp [*]; done)), H', ⟨by have := HJ3.out; have := HK2.out; have := HK3.out; have := HK4.out; omega⟩, ⟨by (try simp only [hl8_3]); (try simp only [hl8_4]); (with_reducible repeat (first | apply Kd.R_alloc | apply Kd.R_drewN | apply Kd.R_drew)); exact HO_8.out⟩, ⟨by repeat (first | (with_reducible first | exact HB.out | apply below_alloc | apply pw_below_drewN | apply below_drew1) | exact HB.out)⟩⟩
                          · rw [if_neg c23] at H
                            have c23b0 : decide (x10_3 < (l0.length : Int)) = false := decide_eq_false c23
                            clear c23
                            simp only [Option.some.injEq, Prod.mk.injEq] at H
                            obtain ⟨rfl, rfl⟩ := H
                            go_wp2
                            go_ret2
                            exact ⟨_, by first | rfl | (simp [errW_none, errW_some] <;> rfl) | (simp [*, errW_none, errW_some] <;> rfl), by (with_reducible repeat (first | apply Kd.R_alloc | apply Kd.R_drewN | apply Kd.R_drew)); exact HO_8.out, by repeat (first | (with_reducible first | exact HB.out | apply below_alloc | apply pw_below_drewN | apply below_drew1) | exact HB.out)⟩
                    · rw [if_neg c19] at H
                      exact absurd H (by simp)
                  · rw [if_neg c18] at H
                    exact absurd H (by simp)
          · rw [if_neg c9] at H
            exact absurd H (by simp)
        · rw [if_neg c8] at H
          exact absurd H (by simp)


end Go.Proofs.Ytppkmmifjfcfiaa.P
