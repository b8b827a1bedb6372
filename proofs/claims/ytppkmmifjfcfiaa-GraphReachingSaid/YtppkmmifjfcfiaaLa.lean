-- LAID BY PROGRAM out of the translation's own text (no part of it is trusted: Lean checks every line)
import Derived.Test.YtppkmmifjfcfiaaH
namespace Go.Proofs.Ytppkmmifjfcfiaa.P
open Go.RowKit Go.Proofs.YtppkmmifjfcfiaaW.PrintWords Go.Proofs.YtppkmmifjfcfiaaW.PrintLast Go.Proofs.YtppkmmifjfcfiaaW.PrintMore
attribute [local go_sem] max2_int min2_int max_two min_two max_three min_three max_four min_four   -- for this text's walks alone
set_option linter.unusedVariables false
set_option linter.unusedSimpArgs false
noncomputable section

/-! ### slotmeshlaw22_GraphReaching: function 3 -/
mutual
def slotmeshlaw22_GraphReaching.l0 : Nat → List Int → Int → Bool → List Bool → List Int → Int → Option (Bool)
  | 0, _, _, _, _, _, _ => none
  | k + 1, x0, x1, x5, x6, x7, x8 => if x8 < (x6.length : Int) then ((slotmeshref22_Step.f k x0 x8).bind fun t229 => (if x8 = x1 then (slotmeshlaw22_GraphReaching.j1 k x0 x1 x5 x6 x7 x8 true) else (if t229 ≥ 0 then (if 0 ≤ t229 then (if t229 < (x6.length : Int) then (slotmeshlaw22_GraphReaching.j1 k x0 x1 x5 x6 x7 x8 (rdOf false x6 t229)) else (none)) else (none)) else (slotmeshlaw22_GraphReaching.j1 k x0 x1 x5 x6 x7 x8 false)))) else (some x5)
def slotmeshlaw22_GraphReaching.j1 : Nat → List Int → Int → Bool → List Bool → List Int → Int → Bool → Option (Bool)
  | 0, _, _, _, _, _, _, _ => none
  | k + 1, x0, x1, x5, x6, x7, x8, x10 => (slotmeshlaw22_has.f k x7 x8).bind fun t231 => (if x1 ≥ 0 then (if x1 < (x6.length : Int) then (if x5 = true then (if 0 ≤ x8 then (if x8 < (x6.length : Int) then (if ((rdOf false x6 x8) == x10) = true then (if t231 = true then (if rdOf false x6 x8 = true then ((slotmeshlaw22_has.f k x7 x1).bind fun t234 => (slotmeshlaw22_GraphReaching.l0 k x0 x1 t234 x6 x7 (wrap64 (x8 + 1)))) else (slotmeshlaw22_GraphReaching.l0 k x0 x1 true x6 x7 (wrap64 (x8 + 1)))) else (slotmeshlaw22_GraphReaching.l0 k x0 x1 true x6 x7 (wrap64 (x8 + 1)))) else (slotmeshlaw22_GraphReaching.l0 k x0 x1 false x6 x7 (wrap64 (x8 + 1)))) else (none)) else (none)) else (slotmeshlaw22_GraphReaching.l0 k x0 x1 false x6 x7 (wrap64 (x8 + 1)))) else (if x5 = true then (if 0 ≤ x8 then (if x8 < (x6.length : Int) then (slotmeshlaw22_GraphReaching.l0 k x0 x1 (!(rdOf false x6 x8)) x6 x7 (wrap64 (x8 + 1))) else (none)) else (none)) else (slotmeshlaw22_GraphReaching.l0 k x0 x1 false x6 x7 (wrap64 (x8 + 1))))) else (if x5 = true then (if 0 ≤ x8 then (if x8 < (x6.length : Int) then (slotmeshlaw22_GraphReaching.l0 k x0 x1 (!(rdOf false x6 x8)) x6 x7 (wrap64 (x8 + 1))) else (none)) else (none)) else (slotmeshlaw22_GraphReaching.l0 k x0 x1 false x6 x7 (wrap64 (x8 + 1)))))
end
def slotmeshlaw22_GraphReaching.f (k : Nat) (l0 : List Int) (a1 : Int) : Option (Bool) := (slotmeshlaw22_head.f k).bind fun t219 => (if (l0.length : Int) > 60 then (if t219 = true then ((graph_Reaches.f k l0 a1).bind fun t220 => (some ((t220.length : Int) == 0))) else (some false)) else ((graph_Reaches.f k l0 a1).bind fun t223 => (if (t223.length : Int) = (l0.length : Int) then ((graph_Loop.f k l0).bind fun t226 => (slotmeshlaw22_GraphReaching.l0 k l0 a1 t219 t223 t226 0)) else (some false))))
theorem slotmeshlaw22_GraphReaching.mono_l : ∀ k, (∀ y0 y1 y2 y3 y4 y5, LeO (slotmeshlaw22_GraphReaching.l0 k y0 y1 y2 y3 y4 y5) (slotmeshlaw22_GraphReaching.l0 (k + 1) y0 y1 y2 y3 y4 y5)) ∧ (∀ y0 y1 y2 y3 y4 y5 y6, LeO (slotmeshlaw22_GraphReaching.j1 k y0 y1 y2 y3 y4 y5 y6) (slotmeshlaw22_GraphReaching.j1 (k + 1) y0 y1 y2 y3 y4 y5 y6))
  | 0 => ⟨fun _ _ _ _ _ _ r h => by simp [slotmeshlaw22_GraphReaching.l0] at h, fun _ _ _ _ _ _ _ r h => by simp [slotmeshlaw22_GraphReaching.j1] at h⟩
  | k + 1 => by
    obtain ⟨ih0, ih1⟩ := slotmeshlaw22_GraphReaching.mono_l k
    refine ⟨?_, ?_⟩
    · intro y0 y1 y2 y3 y4 y5
      unfold slotmeshlaw22_GraphReaching.l0
      repeat' first
      | (with_reducible exact ih0 _ _ _ _ _ _)
      | (with_reducible exact ih1 _ _ _ _ _ _ _)
      | (with_reducible exact graph_Loop.mono _ _)
      | (with_reducible exact graph_Reaches.mono _ _ _)
      | (with_reducible exact slotmeshlaw22_has.mono _ _ _)
      | (with_reducible exact slotmeshlaw22_head.mono _)
      | (with_reducible exact slotmeshref22_Step.mono _ _ _)
      | (with_reducible exact LeO.refl _)
      | (with_reducible exact LeO.none _)
      | (with_reducible refine LeO.ite ?_ ?_)
      | (with_reducible refine LeO.bind ?_ (fun _ => ?_))
      | exact ih0 _ _ _ _ _ _
      | exact ih1 _ _ _ _ _ _ _
      | exact graph_Loop.mono _ _
      | exact graph_Reaches.mono _ _ _
      | exact slotmeshlaw22_has.mono _ _ _
      | exact slotmeshlaw22_head.mono _
      | exact slotmeshref22_Step.mono _ _ _
      | exact LeO.none _
      | refine LeO.ite ?_ ?_
      | refine LeO.bind ?_ (fun _ => ?_)
    · intro y0 y1 y2 y3 y4 y5 y6
      unfold slotmeshlaw22_GraphReaching.j1
      repeat' first
      | (with_reducible exact ih0 _ _ _ _ _ _)
      | (with_reducible exact ih1 _ _ _ _ _ _ _)
      | (with_reducible exact graph_Loop.mono _ _)
      | (with_reducible exact graph_Reaches.mono _ _ _)
      | (with_reducible exact slotmeshlaw22_has.mono _ _ _)
      | (with_reducible exact slotmeshlaw22_head.mono _)
      | (with_reducible exact slotmeshref22_Step.mono _ _ _)
      | (with_reducible exact LeO.refl _)
      | (with_reducible exact LeO.none _)
      | (with_reducible refine LeO.ite ?_ ?_)
      | (with_reducible refine LeO.bind ?_ (fun _ => ?_))
      | exact ih0 _ _ _ _ _ _
      | exact ih1 _ _ _ _ _ _ _
      | exact graph_Loop.mono _ _
      | exact graph_Reaches.mono _ _ _
      | exact slotmeshlaw22_has.mono _ _ _
      | exact slotmeshlaw22_head.mono _
      | exact slotmeshref22_Step.mono _ _ _
      | exact LeO.none _
      | refine LeO.ite ?_ ?_
      | refine LeO.bind ?_ (fun _ => ?_)
theorem slotmeshlaw22_GraphReaching.mono : ∀ a0 a1 k, LeO (slotmeshlaw22_GraphReaching.f k a0 a1) (slotmeshlaw22_GraphReaching.f (k + 1) a0 a1) := by
  intro a0 a1 k
  obtain ⟨ih0, ih1⟩ := slotmeshlaw22_GraphReaching.mono_l k
  unfold slotmeshlaw22_GraphReaching.f
  repeat' first
      | (with_reducible exact ih0 _ _ _ _ _ _)
      | (with_reducible exact ih1 _ _ _ _ _ _ _)
      | (with_reducible exact graph_Loop.mono _ _)
      | (with_reducible exact graph_Reaches.mono _ _ _)
      | (with_reducible exact slotmeshlaw22_has.mono _ _ _)
      | (with_reducible exact slotmeshlaw22_head.mono _)
      | (with_reducible exact slotmeshref22_Step.mono _ _ _)
      | (with_reducible exact LeO.refl _)
      | (with_reducible exact LeO.none _)
      | (with_reducible refine LeO.ite ?_ ?_)
      | (with_reducible refine LeO.bind ?_ (fun _ => ?_))
      | exact ih0 _ _ _ _ _ _
      | exact ih1 _ _ _ _ _ _ _
      | exact graph_Loop.mono _ _
      | exact graph_Reaches.mono _ _ _
      | exact slotmeshlaw22_has.mono _ _ _
      | exact slotmeshlaw22_head.mono _
      | exact slotmeshref22_Step.mono _ _ _
      | exact LeO.none _
      | refine LeO.ite ?_ ?_
      | refine LeO.bind ?_ (fun _ => ?_)
set_option maxHeartbeats 8000000 in
set_option maxRecDepth 100000 in
theorem slotmeshlaw22_GraphReaching.calls (k : Nat) (A0 : Option Addr) (c0 : Nat) (l0 : List Int) (a1 : Int) (r : Bool) (w : World) (hr0 : Kd.C (Kd.int .i64) w A0 l0.length l0) (hc0 : l0.length ≤ c0) (h : slotmeshlaw22_GraphReaching.f k l0 a1 = some r) :
    Calls Try.prog 3 #[.slice A0 l0.length c0, .int .i64 a1] w fun e w' => e = .returned (.bool r) ∧ Below w.heap.size w w' := by
  have HR0 := Aside0.mk hr0
  have HC0 := Aside0.mk hc0
  clear hr0 hc0
  have HB := Aside0.mk (Below.refl w.heap.size w)
  have H : ((slotmeshlaw22_head.f k).bind fun t219 => (if (l0.length : Int) > 60 then (if t219 = true then ((graph_Reaches.f k l0 a1).bind fun t220 => (some ((t220.length : Int) == 0))) else (some false)) else ((graph_Reaches.f k l0 a1).bind fun t223 => (if (t223.length : Int) = (l0.length : Int) then ((graph_Loop.f k l0).bind fun t226 => (slotmeshlaw22_GraphReaching.l0 k l0 a1 t219 t223 t226 0)) else (some false))))) = some r := h
  clear h
  replace H := Option.bind_eq_some_iff.mp H
  obtain ⟨t219, A30, H⟩ := H
  replace H : (if (l0.length : Int) > 60 then (if t219 = true then ((graph_Reaches.f k l0 a1).bind fun t220 => (some ((t220.length : Int) == 0))) else (some false)) else ((graph_Reaches.f k l0 a1).bind fun t223 => (if (t223.length : Int) = (l0.length : Int) then ((graph_Loop.f k l0).bind fun t226 => (slotmeshlaw22_GraphReaching.l0 k l0 a1 t219 t223 t226 0)) else (some false)))) = some r := H
  have A3 := Aside0.mk A30
  clear A30
  by_cases c4 : (l0.length : Int) > 60
  · rw [if_pos c4] at H
    have c4b0 : decide (60 < (l0.length : Int)) = true := decide_eq_true c4
    have c4b1 : decide (60 < l0.length) = true := decide_eq_true (by omega)
    clear c4
    by_cases c5 : t219 = true
    · subst c5
      have H1 : ((graph_Reaches.f k l0 a1).bind fun t220 => (some ((t220.length : Int) == 0))) = some r := by rw [if_pos rfl] at H; exact H
      clear H
      have H := H1
      clear H1
      replace H := Option.bind_eq_some_iff.mp H
      obtain ⟨t220, A60, H⟩ := H
      replace H : (some ((t220.length : Int) == 0)) = some r := H
      have A6 := Aside0.mk A60
      clear A60
      obtain rfl := Option.some.inj H
      go_enter Try.func3, Try.ntmps3
      go_wp2_with (first | ((with_reducible refine gate_callee (f := 10) rfl ?_); refine goesL_ (some 12) rfl rfl Try.func10 (by kernel_rfl) rfl #[] rfl (by (try simp only [List.map_toArray, List.map_cons, List.map_nil]); first | done | rfl | (simp only [List.length_drop, List.length_take]; rfl)) ?_; (with_reducible refine (slotmeshlaw22_head.calls k  true _ A3.out).mono ?_); rintro e w7 ⟨rfl, hb⟩; refine ⟨_, rfl, ?_⟩; have n0_ := Aside0.mk (below_step (by repeat (first | (with_reducible first | exact HB.out | apply below_alloc | apply pw_below_drewN | apply below_drew1) | exact HB.out)) hb); clear HB; have HB := n0_; clear n0_; (try clear hb); (try clear hb2); (try clear hk); (try clear hi)) | (go_at_call 11; (with_reducible refine (graph_Reaches.calls k _ _ l0 a1 t220 _ ?side1 ?side2 A6.out).mono ?_); (case side1 => repeat (first | exact (Kd.C_below HR0.out HB.out) | (with_reducible refine Kd.C_alloc ?_ _) | (with_reducible refine Kd.C_drewN ?_ _) | (with_reducible refine Kd.C_drew ?_))); (case side2 => exact HC0.out); rintro e w8 ⟨v221, rfl, ho0, hb⟩; have n0_ := Aside0.mk (Kd.R_lower ho0 (below_size (by repeat (first | (with_reducible first | exact HB.out | apply below_alloc | apply pw_below_drewN | apply below_drew1) | exact HB.out)))); have n1_ := Aside0.mk (below_step (by repeat (first | (with_reducible first | exact HB.out | apply below_alloc | apply pw_below_drewN | apply below_drew1) | exact HB.out)) hb); clear HB; have HO222 := n0_; have HB := n1_; clear n0_ n1_; (try clear hb); (try clear hb2); (try clear hk); (try clear hi); (try clear ho0); obtain ⟨Ao9, co9, eo9⟩ := Kd.R_slice HO222.out; subst eo9))
      go_ret
      exact ⟨by first | rfl | (simp [errW_none, errW_some] <;> rfl) | (simp [*, errW_none, errW_some] <;> rfl), by repeat (first | (with_reducible first | exact HB.out | apply below_alloc | apply pw_below_drewN | apply below_drew1) | exact HB.out)⟩
    · replace c5 := Bool.eq_false_iff.mpr c5
      subst c5
      have H1 : (some false) = some r := by rw [if_neg (show ¬ (false = true) by decide)] at H; exact H
      clear H
      have H := H1
      clear H1
      obtain rfl := Option.some.inj H
      go_enter Try.func3, Try.ntmps3
      go_wp2_with (first | ((with_reducible refine gate_callee (f := 10) rfl ?_); refine goesL_ (some 12) rfl rfl Try.func10 (by kernel_rfl) rfl #[] rfl (by (try simp only [List.map_toArray, List.map_cons, List.map_nil]); first | done | rfl | (simp only [List.length_drop, List.length_take]; rfl)) ?_; (with_reducible refine (slotmeshlaw22_head.calls k  false _ A3.out).mono ?_); rintro e w10 ⟨rfl, hb⟩; refine ⟨_, rfl, ?_⟩; have n0_ := Aside0.mk (below_step (by repeat (first | (with_reducible first | exact HB.out | apply below_alloc | apply pw_below_drewN | apply below_drew1) | exact HB.out)) hb); clear HB; have HB := n0_; clear n0_; (try clear hb); (try clear hb2); (try clear hk); (try clear hi)))
      go_ret
      exact ⟨by first | rfl | (simp [errW_none, errW_some] <;> rfl) | (simp [*, errW_none, errW_some] <;> rfl), by repeat (first | (with_reducible first | exact HB.out | apply below_alloc | apply pw_below_drewN | apply below_drew1) | exact HB.out)⟩
  · rw [if_neg c4] at H
    have c4b0 : decide (60 < (l0.length : Int)) = false := decide_eq_false c4
    have c4b1 : decide (60 < l0.length) = false := decide_eq_false (by omega)
    clear c4
    replace H := Option.bind_eq_some_iff.mp H
    obtain ⟨t223, A110, H⟩ := H
    replace H : (if (t223.length : Int) = (l0.length : Int) then ((graph_Loop.f k l0).bind fun t226 => (slotmeshlaw22_GraphReaching.l0 k l0 a1 t219 t223 t226 0)) else (some false)) = some r := H
    have A11 := Aside0.mk A110
    clear A110
    by_cases c12 : (t223.length : Int) = (l0.length : Int)
    · rw [if_pos c12] at H
      have c12b0 : ((t223.length : Int) == (l0.length : Int)) = true := beq_iff_eq.mpr c12
      have c12b1 : ((t223.length : Int) != (l0.length : Int)) = false := bne_eq_false_iff_eq.mpr c12
      have c12b2 : (t223.length == l0.length) = true := by first | simpa using c12 | (simp at c12 ⊢; omega)
      clear c12
      replace H := Option.bind_eq_some_iff.mp H
      obtain ⟨t226, A130, H⟩ := H
      replace H : (slotmeshlaw22_GraphReaching.l0 k l0 a1 t219 t223 t226 0) = some r := H
      have A13 := Aside0.mk A130
      clear A130
      have H' := Aside0.mk H
      clear H
      go_enter Try.func3, Try.ntmps3
      go_wp2_with (first | ((with_reducible refine gate_callee (f := 10) rfl ?_); refine goesL_ (some 12) rfl rfl Try.func10 (by kernel_rfl) rfl #[] rfl (by (try simp only [List.map_toArray, List.map_cons, List.map_nil]); first | done | rfl | (simp only [List.length_drop, List.length_take]; rfl)) ?_; (with_reducible refine (slotmeshlaw22_head.calls k  t219 _ A3.out).mono ?_); rintro e w14 ⟨rfl, hb⟩; refine ⟨_, rfl, ?_⟩; have n0_ := Aside0.mk (below_step (by repeat (first | (with_reducible first | exact HB.out | apply below_alloc | apply pw_below_drewN | apply below_drew1) | exact HB.out)) hb); clear HB; have HB := n0_; clear n0_; (try clear hb); (try clear hb2); (try clear hk); (try clear hi)) | ((with_reducible refine gate_callee (f := 11) rfl ?_); refine goesL_ (some 26) rfl rfl Try.func11 (by kernel_rfl) rfl #[.slice A0 l0.length c0, .int .i64 a1] rfl (by (try simp only [List.map_toArray, List.map_cons, List.map_nil]); first | done | rfl | (simp only [List.length_drop, List.length_take]; rfl)) ?_; (with_reducible refine (graph_Reaches.calls k _ _ l0 a1 t223 _ ?side1 ?side2 A11.out).mono ?_); (case side1 => repeat (first | exact (Kd.C_below HR0.out HB.out) | (with_reducible refine Kd.C_alloc ?_ _) | (with_reducible refine Kd.C_drewN ?_ _) | (with_reducible refine Kd.C_drew ?_))); (case side2 => exact HC0.out); rintro e w15 ⟨v224, rfl, ho0, hb⟩; refine ⟨_, rfl, ?_⟩; have n0_ := Aside0.mk (Kd.R_lower ho0 (below_size (by repeat (first | (with_reducible first | exact HB.out | apply below_alloc | apply pw_below_drewN | apply below_drew1) | exact HB.out)))); have n1_ := Aside0.mk (below_step (by repeat (first | (with_reducible first | exact HB.out | apply below_alloc | apply pw_below_drewN | apply below_drew1) | exact HB.out)) hb); clear HB; have HO225 := n0_; have HB := n1_; clear n0_ n1_; (try clear hb); (try clear hb2); (try clear hk); (try clear hi); (try clear ho0); obtain ⟨Ao16, co16, eo16⟩ := Kd.R_slice HO225.out; subst eo16) | ((with_reducible refine gate_callee (f := 12) rfl ?_); refine goesL_ (some 33) rfl rfl Try.func12 (by kernel_rfl) rfl #[.slice A0 l0.length c0] rfl (by (try simp only [List.map_toArray, List.map_cons, List.map_nil]); first | done | rfl | (simp only [List.length_drop, List.length_take]; rfl)) ?_; (with_reducible refine (graph_Loop.calls k _ _ l0 t226 _ ?side1 ?side2 A13.out).mono ?_); (case side1 => repeat (first | exact (Kd.C_below HR0.out HB.out) | (with_reducible refine Kd.C_alloc ?_ _) | (with_reducible refine Kd.C_drewN ?_ _) | (with_reducible refine Kd.C_drew ?_))); (case side2 => exact HC0.out); rintro e w17 ⟨v227, rfl, ho0, hb⟩; refine ⟨_, rfl, ?_⟩; have n0_ := Aside0.mk (Kd.R_below (by (with_reducible repeat (first | apply Kd.R_alloc | apply Kd.R_drewN | apply Kd.R_drew)); exact HO225.out) hb); have n1_ := Aside0.mk (Kd.R_lower ho0 (below_size (by repeat (first | (with_reducible first | exact HB.out | apply below_alloc | apply pw_below_drewN | apply below_drew1) | exact HB.out)))); have n2_ := Aside0.mk (below_step (by repeat (first | (with_reducible first | exact HB.out | apply below_alloc | apply pw_below_drewN | apply below_drew1) | exact HB.out)) hb); clear HO225; clear HB; have HO225 := n0_; have HO228 := n1_; have HB := n2_; clear n0_ n1_ n2_; (try clear hb); (try clear hb2); (try clear hk); (try clear hi); (try clear ho0)))
      go_loopg [5, 8] k (fun kq v5 v8 w' => ∃ (x5_1 : Bool) (x8_1 : Int), v5 = .bool x5_1 ∧ v8 = .int .i64 x8_1 ∧ Aside0 (slotmeshlaw22_GraphReaching.l0 kq l0 a1 x5_1 t223 t226 x8_1 = some r) ∧ Aside0 (kq ≤ k) ∧ Aside0 (Kd.R Kd.bool 4 w' w.heap.size (fun _ => True) (.slice Ao16 t223.length co16) t223) ∧ Aside0 (Kd.R (Kd.int .i64) 3 w' w.heap.size (fun _ => True) v227 t226) ∧ Aside0 (Below w.heap.size w w'))
      case atStart => exact ⟨(t219), (0), (by first | rfl | (simp; done) | (simp [*]; done)), (by first | rfl | (simp; done) | (simp [*]; done)), H', ⟨Nat.le_refl _⟩, ⟨by (with_reducible repeat (first | apply Kd.R_alloc | apply Kd.R_drewN | apply Kd.R_drew)); exact HO225.out⟩, ⟨by (with_reducible repeat (first | apply Kd.R_alloc | apply Kd.R_drewN | apply Kd.R_drew)); exact HO228.out⟩, ⟨by repeat (first | (with_reducible first | exact HB.out | apply below_alloc | apply pw_below_drewN | apply below_drew1) | exact HB.out)⟩⟩
      case round =>
        clear H'
        try clear c1
        try clear p2
        try clear c3
        try clear c4
        try clear c4b0
        try clear c4b1
        try clear c5
        try clear c10
        try clear c11
        try clear c12
        try clear c12b0
        try clear c12b1
        try clear c12b2
        obtain ⟨x5_1, x8_1, rfl, rfl, HA, HK1, HO_6, HO_7, HB⟩ := hrel
        cases gk with
        | zero => exact absurd HA.out (by simp [slotmeshlaw22_GraphReaching.l0])
        | succ k1 =>
          have H := HA.out
          clear HA
          simp only [slotmeshlaw22_GraphReaching.l0] at H
          by_cases c18 : x8_1 < (t223.length : Int)
          · rw [if_pos c18] at H
            have c18b0 : decide (x8_1 < (t223.length : Int)) = true := decide_eq_true c18
            clear c18
            replace H := Option.bind_eq_some_iff.mp H
            obtain ⟨t229, A190, H⟩ := H
            replace H : (if x8_1 = a1 then (slotmeshlaw22_GraphReaching.j1 k1 l0 a1 x5_1 t223 t226 x8_1 true) else (if t229 ≥ 0 then (if 0 ≤ t229 then (if t229 < (t223.length : Int) then (slotmeshlaw22_GraphReaching.j1 k1 l0 a1 x5_1 t223 t226 x8_1 (rdOf false t223 t229)) else (none)) else (none)) else (slotmeshlaw22_GraphReaching.j1 k1 l0 a1 x5_1 t223 t226 x8_1 false))) = some r := H
            have A19 := Aside0.mk A190
            clear A190
            have HC20 := Aside0.mk H
            clear H
            go_upto_region 12 with (first | ((with_reducible refine gate_callee (f := 13) rfl ?_); refine goesL_ (some 42) rfl rfl Try.func13 (by kernel_rfl) rfl #[.slice A0 l0.length c0, .int .i64 x8_1] rfl (by (try simp only [List.map_toArray, List.map_cons, List.map_nil]); first | done | rfl | (simp only [List.length_drop, List.length_take]; rfl)) ?_; (with_reducible refine (slotmeshref22_Step.calls k1 _ _ l0 x8_1 t229 _ ?side1 ?side2 A19.out).mono ?_); (case side1 => repeat (first | exact (Kd.C_below HR0.out HB.out) | (with_reducible refine Kd.C_alloc ?_ _) | (with_reducible refine Kd.C_drewN ?_ _) | (with_reducible refine Kd.C_drew ?_))); (case side2 => exact HC0.out); rintro e w' ⟨rfl, ⟨nd, rfl⟩⟩; refine ⟨_, rfl, ?_⟩))
            (try simp only [Act.put, List.setIfInBounds_toArray, List.set_cons_zero, List.set_cons_succ])
            go_cut [10] (fun v10 wc => ∃ (kq : Nat) (x10_19 : Bool), v10 = .bool x10_19 ∧ Aside0 (slotmeshlaw22_GraphReaching.j1 kq l0 a1 x5_1 t223 t226 x8_1 x10_19 = some r) ∧ Aside0 (kq ≤ k1) ∧ Aside0 (Kd.R Kd.bool 4 wc w.heap.size (fun _ => True) (.slice Ao16 t223.length co16) t223) ∧ Aside0 (Kd.R (Kd.int .i64) 3 wc w.heap.size (fun _ => True) v227 t226) ∧ Aside0 (Below w.heap.size w wc))
            case first =>
              have H := HC20.out
              clear HC20
              by_cases c21 : x8_1 = a1
              · rw [if_pos c21] at H
                have c21b0 : (x8_1 == a1) = true := beq_iff_eq.mpr c21
                have c21b1 : (x8_1 != a1) = false := bne_eq_false_iff_eq.mpr c21
                clear c21
                (first | rw [c21b0] | (simp only [i64_w, i32_w]; rw [c21b0]) | skip)
                have H' := Aside0.mk H
                clear H
                go_wp2
                go_meet
                case rel => exact ⟨_, (true), (by first | rfl | (simp; done) | (simp [*]; done)), H', ⟨by have := HK1.out; first | omega | exact Nat.le_refl _⟩, ⟨by (with_reducible repeat (first | apply Kd.R_alloc | apply Kd.R_drewN | apply Kd.R_drew)); exact HO_6.out⟩, ⟨by (with_reducible repeat (first | apply Kd.R_alloc | apply Kd.R_drewN | apply Kd.R_drew)); exact HO_7.out⟩, ⟨by repeat (first | (with_reducible first | exact HB.out | apply below_alloc | apply pw_below_drewN | apply below_drew1) | exact HB.out)⟩⟩
              · rw [if_neg c21] at H
                have c21b0 : (x8_1 == a1) = false := beq_eq_false_iff_ne.mpr c21
                have c21b1 : (x8_1 != a1) = true := bne_iff_ne.mpr c21
                (first | rw [c21b0] | (simp only [i64_w, i32_w]; rw [c21b0]) | skip)
                by_cases c22 : t229 ≥ 0
                · rw [if_pos c22] at H
                  have c22b0 : decide (0 ≤ t229) = true := decide_eq_true c22
                  clear c22
                  by_cases c23 : 0 ≤ t229
                  · rw [if_pos c23] at H
                    have c23b0 : decide (0 ≤ t229) = true := decide_eq_true c23
                    clear c23
                    by_cases c24 : t229 < (t223.length : Int)
                    · rw [if_pos c24] at H
                      have c24b0 : decide (t229 < (t223.length : Int)) = true := decide_eq_true c24
                      clear c24
                      have H' := Aside0.mk H
                      clear H
                      have p230 : 0 ≤ (t229 : Int) := of_decide_eq_true (by first | (with_reducible assumption) | assumption)
                      have q230 : t229 < (t223.length : Int) := of_decide_eq_true (by first | (with_reducible assumption) | assumption)
                      obtain ⟨ad230, e230, hx230_0⟩ := Kd.at_bool (Kd.R_reads' HO_6.out).2.2 t229 p230 q230
                      cases e230
                      replace p230 := eq_true p230
                      replace q230 := eq_true q230
                      go_wp2
                      go_meet
                      case rel => exact ⟨_, (rdOf false t223 t229), (by first | rfl | (simp; done) | (simp [*]; done)), H', ⟨by have := HK1.out; first | omega | exact Nat.le_refl _⟩, ⟨by (with_reducible repeat (first | apply Kd.R_alloc | apply Kd.R_drewN | apply Kd.R_drew)); exact HO_6.out⟩, ⟨by (with_reducible repeat (first | apply Kd.R_alloc | apply Kd.R_drewN | apply Kd.R_drew)); exact HO_7.out⟩, ⟨by repeat (first | (with_reducible first | exact HB.out | apply below_alloc | apply pw_below_drewN | apply below_drew1) | exact HB.out)⟩⟩
                    · rw [if_neg c24] at H
                      exact absurd H (by simp)
                  · rw [if_neg c23] at H
                    exact absurd H (by simp)
                · rw [if_neg c22] at H
                  have c22b0 : decide (0 ≤ t229) = false := decide_eq_false c22
                  clear c22
                  have H' := Aside0.mk H
                  clear H
                  go_wp2
                  go_meet
                  case rel => exact ⟨_, (false), (by first | rfl | (simp; done) | (simp [*]; done)), H', ⟨by have := HK1.out; first | omega | exact Nat.le_refl _⟩, ⟨by (with_reducible repeat (first | apply Kd.R_alloc | apply Kd.R_drewN | apply Kd.R_drew)); exact HO_6.out⟩, ⟨by (with_reducible repeat (first | apply Kd.R_alloc | apply Kd.R_drewN | apply Kd.R_drew)); exact HO_7.out⟩, ⟨by repeat (first | (with_reducible first | exact HB.out | apply below_alloc | apply pw_below_drewN | apply below_drew1) | exact HB.out)⟩⟩
            case rest =>
              clear HC20
              try clear c1
              try clear c2
              try clear p2
              try clear q2
              try clear hx2
              try clear c3
              try clear c4
              try clear c4b0
              try clear c4b1
              try clear c5
              try clear c10
              try clear c11
              try clear c12
              try clear c12b0
              try clear c12b1
              try clear c12b2
              try clear c13
              try clear c18
              try clear c18b0
              try clear c21
              try clear c21b0
              try clear c21b1
              try clear c22
              try clear c22b0
              try clear c23
              try clear c23b0
              try clear p23
              try clear q23
              try clear hx23
              try clear c24
              try clear c24b0
              try clear hx230_0
              try clear p2
              try clear p230
              try clear q230
              obtain ⟨kq, x10_19, rfl, HA, HJ19, HO_6, HO_7, HB⟩ := hcut
              cases kq with
              | zero => exact absurd HA.out (by simp [slotmeshlaw22_GraphReaching.j1])
              | succ kj19 =>
                have H := HA.out
                clear HA
                simp only [slotmeshlaw22_GraphReaching.j1] at H
                replace H := Option.bind_eq_some_iff.mp H
                obtain ⟨t231, A250, H⟩ := H
                replace H : (if a1 ≥ 0 then (if a1 < (t223.length : Int) then (if x5_1 = true then (if 0 ≤ x8_1 then (if x8_1 < (t223.length : Int) then (if ((rdOf false t223 x8_1) == x10_19) = true then (if t231 = true then (if rdOf false t223 x8_1 = true then ((slotmeshlaw22_has.f kj19 t226 a1).bind fun t234 => (slotmeshlaw22_GraphReaching.l0 kj19 l0 a1 t234 t223 t226 (wrap64 (x8_1 + 1)))) else (slotmeshlaw22_GraphReaching.l0 kj19 l0 a1 true t223 t226 (wrap64 (x8_1 + 1)))) else (slotmeshlaw22_GraphReaching.l0 kj19 l0 a1 true t223 t226 (wrap64 (x8_1 + 1)))) else (slotmeshlaw22_GraphReaching.l0 kj19 l0 a1 false t223 t226 (wrap64 (x8_1 + 1)))) else (none)) else (none)) else (slotmeshlaw22_GraphReaching.l0 kj19 l0 a1 false t223 t226 (wrap64 (x8_1 + 1)))) else (if x5_1 = true then (if 0 ≤ x8_1 then (if x8_1 < (t223.length : Int) then (slotmeshlaw22_GraphReaching.l0 kj19 l0 a1 (!(rdOf false t223 x8_1)) t223 t226 (wrap64 (x8_1 + 1))) else (none)) else (none)) else (slotmeshlaw22_GraphReaching.l0 kj19 l0 a1 false t223 t226 (wrap64 (x8_1 + 1))))) else (if x5_1 = true then (if 0 ≤ x8_1 then (if x8_1 < (t223.length : Int) then (slotmeshlaw22_GraphReaching.l0 kj19 l0 a1 (!(rdOf false t223 x8_1)) t223 t226 (wrap64 (x8_1 + 1))) else (none)) else (none)) else (slotmeshlaw22_GraphReaching.l0 kj19 l0 a1 false t223 t226 (wrap64 (x8_1 + 1))))) = some r := H
                have A25 := Aside0.mk A250
                clear A250
                by_cases c26 : a1 ≥ 0
                · rw [if_pos c26] at H
                  have c26b0 : decide (0 ≤ a1) = true := decide_eq_true c26
                  clear c26
                  by_cases c27 : a1 < (t223.length : Int)
                  · rw [if_pos c27] at H
                    have c27b0 : decide (a1 < (t223.length : Int)) = true := decide_eq_true c27
                    clear c27
                    by_cases c28 : x5_1 = true
                    · subst c28
                      have H1 : (if 0 ≤ x8_1 then (if x8_1 < (t223.length : Int) then (if ((rdOf false t223 x8_1) == x10_19) = true then (if t231 = true then (if rdOf false t223 x8_1 = true then ((slotmeshlaw22_has.f kj19 t226 a1).bind fun t234 => (slotmeshlaw22_GraphReaching.l0 kj19 l0 a1 t234 t223 t226 (wrap64 (x8_1 + 1)))) else (slotmeshlaw22_GraphReaching.l0 kj19 l0 a1 true t223 t226 (wrap64 (x8_1 + 1)))) else (slotmeshlaw22_GraphReaching.l0 kj19 l0 a1 true t223 t226 (wrap64 (x8_1 + 1)))) else (slotmeshlaw22_GraphReaching.l0 kj19 l0 a1 false t223 t226 (wrap64 (x8_1 + 1)))) else (none)) else (none)) = some r := by rw [if_pos rfl] at H; exact H
                      clear H
                      have H := H1
                      clear H1
                      by_cases c29 : 0 ≤ x8_1
                      · rw [if_pos c29] at H
                        have c29b0 : decide (0 ≤ x8_1) = true := decide_eq_true c29
                        clear c29
                        by_cases c30 : x8_1 < (t223.length : Int)
                        · rw [if_pos c30] at H
                          have c30b0 : decide (x8_1 < (t223.length : Int)) = true := decide_eq_true c30
                          clear c30
                          by_cases c31 : ((rdOf false t223 x8_1) == x10_19) = true
                          · rw [if_pos c31] at H
                            have c31b0 : ((rdOf false t223 x8_1) == x10_19) = true := c31
                            (try (have c31b1 : decide ((rdOf false t223 x8_1) = x10_19) = true := by simpa using c31))
                            (try (have c31b2 : ((rdOf false t223 x8_1) == x10_19) = true := by simpa using c31))
                            clear c31
                            by_cases c32 : t231 = true
                            · subst c32
                              have H1 : (if rdOf false t223 x8_1 = true then ((slotmeshlaw22_has.f kj19 t226 a1).bind fun t234 => (slotmeshlaw22_GraphReaching.l0 kj19 l0 a1 t234 t223 t226 (wrap64 (x8_1 + 1)))) else (slotmeshlaw22_GraphReaching.l0 kj19 l0 a1 true t223 t226 (wrap64 (x8_1 + 1)))) = some r := by rw [if_pos rfl] at H; exact H
                              clear H
                              have H := H1
                              clear H1
                              obtain ⟨bq33, hbq33⟩ : ∃ b_ : Bool, b_ = (rdOf false t223 x8_1) := ⟨_, rfl⟩
                              replace H : (if bq33 = true then ((slotmeshlaw22_has.f kj19 t226 a1).bind fun t234 => (slotmeshlaw22_GraphReaching.l0 kj19 l0 a1 t234 t223 t226 (wrap64 (x8_1 + 1)))) else (slotmeshlaw22_GraphReaching.l0 kj19 l0 a1 true t223 t226 (wrap64 (x8_1 + 1)))) = some r := by rw [← hbq33] at H; exact H
                              have Nbq33 := Aside0.mk hbq33
                              clear hbq33
                              by_cases c34 : bq33 = true
                              · subst c34
                                have hx := c31b0
                                rw [← Nbq33.out] at hx
                                have hx2 := (eq_of_beq hx).symm
                                subst hx2
                                clear hx c31b0
                                try clear c31b1
                                try clear c31b2
                                have H1 : ((slotmeshlaw22_has.f kj19 t226 a1).bind fun t234 => (slotmeshlaw22_GraphReaching.l0 kj19 l0 a1 t234 t223 t226 (wrap64 (x8_1 + 1)))) = some r := by rw [if_pos rfl] at H; exact H
                                clear H
                                have H := H1
                                clear H1
                                replace H := Option.bind_eq_some_iff.mp H
                                obtain ⟨t234, A350, H⟩ := H
                                replace H : (slotmeshlaw22_GraphReaching.l0 kj19 l0 a1 t234 t223 t226 (wrap64 (x8_1 + 1))) = some r := H
                                have A35 := Aside0.mk A350
                                clear A350
                                have H' := Aside0.mk H
                                clear H
                                obtain ⟨Ao36, co36, eo36⟩ := Kd.R_slice HO_7.out
                                subst eo36
                                go_wp2_with (first | ((with_reducible refine gate_callee (f := 14) rfl ?_); refine goesL_ (some 58) rfl rfl Try.func14 (by kernel_rfl) rfl #[.slice Ao36 t226.length co36, .int .i64 x8_1] rfl (by (try simp only [List.map_toArray, List.map_cons, List.map_nil]); first | done | rfl | (simp only [List.length_drop, List.length_take]; rfl)) ?_; (with_reducible refine (slotmeshlaw22_has.calls kj19 _ _ t226 x8_1 true _ ?side1 ?side2 A25.out).mono ?_); (case side1 => repeat (first | exact (Kd.R_reads' HO_7.out).2.2 | (with_reducible refine Kd.C_alloc ?_ _) | (with_reducible refine Kd.C_drewN ?_ _) | (with_reducible refine Kd.C_drew ?_))); (case side2 => exact (Kd.R_reads' HO_7.out).2.1); rintro e w' ⟨rfl, ⟨nd, rfl⟩⟩; refine ⟨_, rfl, ?_⟩; have p232 : 0 ≤ (x8_1 : Int) := of_decide_eq_true (by first | (with_reducible assumption) | assumption); have q232 : x8_1 < (t223.length : Int) := of_decide_eq_true (by first | (with_reducible assumption) | assumption); obtain ⟨ad232, e232, hx232_0⟩ := Kd.at_bool (Kd.R_reads' HO_6.out).2.2 x8_1 p232 q232; (try rw [← Nbq33.out] at hx232_0); cases e232; replace p232 := eq_true p232; replace q232 := eq_true q232; have p233 : 0 ≤ (x8_1 : Int) := of_decide_eq_true (by first | (with_reducible assumption) | assumption); have q233 : x8_1 < (t223.length : Int) := of_decide_eq_true (by first | (with_reducible assumption) | assumption); obtain ⟨ad233, e233, hx233_0⟩ := Kd.at_bool (Kd.R_reads' HO_6.out).2.2 x8_1 p233 q233; (try rw [← Nbq33.out] at hx233_0); obtain rfl : ad232 = ad233 := (by injection e233); replace p233 := eq_true p233; replace q233 := eq_true q233) | (go_at_call 14; (with_reducible refine (slotmeshlaw22_has.calls kj19 _ _ t226 a1 t234 _ ?side1 ?side2 A35.out).mono ?_); (case side1 => repeat (first | exact (Kd.R_reads' HO_7.out).2.2 | (with_reducible refine Kd.C_alloc ?_ _) | (with_reducible refine Kd.C_drewN ?_ _) | (with_reducible refine Kd.C_drew ?_))); (case side2 => exact (Kd.R_reads' HO_7.out).2.1); rintro e w' ⟨rfl, ⟨nd, rfl⟩⟩))
                                go_roundg kj19
                                case measure => have := HK1.out; have := HJ19.out; omega
                                case rel => exact ⟨(t234), (wrap64 (x8_1 + 1)), (by first | rfl | (simp; done) | (simp [*]; done)), (by first | rfl | (simp; done) | (simp [*]; done)), H', ⟨by have := HK1.out; have := HJ19.out; omega⟩, ⟨by (with_reducible repeat (first | apply Kd.R_alloc | apply Kd.R_drewN | apply Kd.R_drew)); exact HO_6.out⟩, ⟨by (with_reducible repeat (first | apply Kd.R_alloc | apply Kd.R_drewN | apply Kd.R_drew)); exact HO_7.out⟩, ⟨by repeat (first | (with_reducible first | exact HB.out | apply below_alloc | apply pw_below_drewN | apply below_drew1) | exact HB.out)⟩⟩
                              · replace c34 := Bool.eq_false_iff.mpr c34
                                subst c34
                                have hx := c31b0
                                rw [← Nbq33.out] at hx
                                have hx2 := (eq_of_beq hx).symm
                                subst hx2
                                clear hx c31b0
                                try clear c31b1
                                try clear c31b2
                                have H1 : (slotmeshlaw22_GraphReaching.l0 kj19 l0 a1 true t223 t226 (wrap64 (x8_1 + 1))) = some r := by rw [if_neg (show ¬ (false = true) by decide)] at H; exact H
                                clear H
                                have H := H1
                                clear H1
                                have H' := Aside0.mk H
                                clear H
                                obtain ⟨Ao37, co37, eo37⟩ := Kd.R_slice HO_7.out
                                subst eo37
                                go_wp2_with (first | ((with_reducible refine gate_callee (f := 14) rfl ?_); refine goesL_ (some 58) rfl rfl Try.func14 (by kernel_rfl) rfl #[.slice Ao37 t226.length co37, .int .i64 x8_1] rfl (by (try simp only [List.map_toArray, List.map_cons, List.map_nil]); first | done | rfl | (simp only [List.length_drop, List.length_take]; rfl)) ?_; (with_reducible refine (slotmeshlaw22_has.calls kj19 _ _ t226 x8_1 true _ ?side1 ?side2 A25.out).mono ?_); (case side1 => repeat (first | exact (Kd.R_reads' HO_7.out).2.2 | (with_reducible refine Kd.C_alloc ?_ _) | (with_reducible refine Kd.C_drewN ?_ _) | (with_reducible refine Kd.C_drew ?_))); (case side2 => exact (Kd.R_reads' HO_7.out).2.1); rintro e w' ⟨rfl, ⟨nd, rfl⟩⟩; refine ⟨_, rfl, ?_⟩; have p232 : 0 ≤ (x8_1 : Int) := of_decide_eq_true (by first | (with_reducible assumption) | assumption); have q232 : x8_1 < (t223.length : Int) := of_decide_eq_true (by first | (with_reducible assumption) | assumption); obtain ⟨ad232, e232, hx232_0⟩ := Kd.at_bool (Kd.R_reads' HO_6.out).2.2 x8_1 p232 q232; (try rw [← Nbq33.out] at hx232_0); cases e232; replace p232 := eq_true p232; replace q232 := eq_true q232; have p233 : 0 ≤ (x8_1 : Int) := of_decide_eq_true (by first | (with_reducible assumption) | assumption); have q233 : x8_1 < (t223.length : Int) := of_decide_eq_true (by first | (with_reducible assumption) | assumption); obtain ⟨ad233, e233, hx233_0⟩ := Kd.at_bool (Kd.R_reads' HO_6.out).2.2 x8_1 p233 q233; (try rw [← Nbq33.out] at hx233_0); obtain rfl : ad232 = ad233 := (by injection e233); replace p233 := eq_true p233; replace q233 := eq_true q233))
                                go_roundg kj19
                                case measure => have := HK1.out; have := HJ19.out; omega
                                case rel => exact ⟨(true), (wrap64 (x8_1 + 1)), (by first | rfl | (simp; done) | (simp [*]; done)), (by first | rfl | (simp; done) | (simp [*]; done)), H', ⟨by have := HK1.out; have := HJ19.out; omega⟩, ⟨by (with_reducible repeat (first | apply Kd.R_alloc | apply Kd.R_drewN | apply Kd.R_drew)); exact HO_6.out⟩, ⟨by (with_reducible repeat (first | apply Kd.R_alloc | apply Kd.R_drewN | apply Kd.R_drew)); exact HO_7.out⟩, ⟨by repeat (first | (with_reducible first | exact HB.out | apply below_alloc | apply pw_below_drewN | apply below_drew1) | exact HB.out)⟩⟩
                            · replace c32 := Bool.eq_false_iff.mpr c32
                              subst c32
                              have H1 : (slotmeshlaw22_GraphReaching.l0 kj19 l0 a1 true t223 t226 (wrap64 (x8_1 + 1))) = some r := by rw [if_neg (show ¬ (false = true) by decide)] at H; exact H
                              clear H
                              have H := H1
                              clear H1
                              have H' := Aside0.mk H
                              clear H
                              obtain ⟨Ao38, co38, eo38⟩ := Kd.R_slice HO_7.out
                              subst eo38
                              go_wp2_with (first | ((with_reducible refine gate_callee (f := 14) rfl ?_); refine goesL_ (some 58) rfl rfl Try.func14 (by kernel_rfl) rfl #[.slice Ao38 t226.length co38, .int .i64 x8_1] rfl (by (try simp only [List.map_toArray, List.map_cons, List.map_nil]); first | done | rfl | (simp only [List.length_drop, List.length_take]; rfl)) ?_; (with_reducible refine (slotmeshlaw22_has.calls kj19 _ _ t226 x8_1 false _ ?side1 ?side2 A25.out).mono ?_); (case side1 => repeat (first | exact (Kd.R_reads' HO_7.out).2.2 | (with_reducible refine Kd.C_alloc ?_ _) | (with_reducible refine Kd.C_drewN ?_ _) | (with_reducible refine Kd.C_drew ?_))); (case side2 => exact (Kd.R_reads' HO_7.out).2.1); rintro e w' ⟨rfl, ⟨nd, rfl⟩⟩; refine ⟨_, rfl, ?_⟩; have p232 : 0 ≤ (x8_1 : Int) := of_decide_eq_true (by first | (with_reducible assumption) | assumption); have q232 : x8_1 < (t223.length : Int) := of_decide_eq_true (by first | (with_reducible assumption) | assumption); obtain ⟨ad232, e232, hx232_0⟩ := Kd.at_bool (Kd.R_reads' HO_6.out).2.2 x8_1 p232 q232; cases e232; replace p232 := eq_true p232; replace q232 := eq_true q232))
                              go_roundg kj19
                              case measure => have := HK1.out; have := HJ19.out; omega
                              case rel => exact ⟨(true), (wrap64 (x8_1 + 1)), (by first | rfl | (simp; done) | (simp [*]; done)), (by first | rfl | (simp; done) | (simp [*]; done)), H', ⟨by have := HK1.out; have := HJ19.out; omega⟩, ⟨by (with_reducible repeat (first | apply Kd.R_alloc | apply Kd.R_drewN | apply Kd.R_drew)); exact HO_6.out⟩, ⟨by (with_reducible repeat (first | apply Kd.R_alloc | apply Kd.R_drewN | apply Kd.R_drew)); exact HO_7.out⟩, ⟨by repeat (first | (with_reducible first | exact HB.out | apply below_alloc | apply pw_below_drewN | apply below_drew1) | exact HB.out)⟩⟩
                          · rw [if_neg c31] at H
                            have c31b0 : ((rdOf false t223 x8_1) == x10_19) = false := by simpa using c31
                            (try (have c31b1 : decide ((rdOf false t223 x8_1) = x10_19) = false := by simpa using c31))
                            (try (have c31b2 : ((rdOf false t223 x8_1) == x10_19) = false := by simpa using c31))
                            (try (have c31b3 : ¬ ((rdOf false t223 x8_1) = x10_19) := by simpa using c31))
                            clear c31
                            have H' := Aside0.mk H
                            clear H
                            obtain ⟨Ao39, co39, eo39⟩ := Kd.R_slice HO_7.out
                            subst eo39
                            go_wp2_with (first | ((with_reducible refine gate_callee (f := 14) rfl ?_); refine goesL_ (some 58) rfl rfl Try.func14 (by kernel_rfl) rfl #[.slice Ao39 t226.length co39, .int .i64 x8_1] rfl (by (try simp only [List.map_toArray, List.map_cons, List.map_nil]); first | done | rfl | (simp only [List.length_drop, List.length_take]; rfl)) ?_; (with_reducible refine (slotmeshlaw22_has.calls kj19 _ _ t226 x8_1 t231 _ ?side1 ?side2 A25.out).mono ?_); (case side1 => repeat (first | exact (Kd.R_reads' HO_7.out).2.2 | (with_reducible refine Kd.C_alloc ?_ _) | (with_reducible refine Kd.C_drewN ?_ _) | (with_reducible refine Kd.C_drew ?_))); (case side2 => exact (Kd.R_reads' HO_7.out).2.1); rintro e w' ⟨rfl, ⟨nd, rfl⟩⟩; refine ⟨_, rfl, ?_⟩; have p232 : 0 ≤ (x8_1 : Int) := of_decide_eq_true (by first | (with_reducible assumption) | assumption); have q232 : x8_1 < (t223.length : Int) := of_decide_eq_true (by first | (with_reducible assumption) | assumption); obtain ⟨ad232, e232, hx232_0⟩ := Kd.at_bool (Kd.R_reads' HO_6.out).2.2 x8_1 p232 q232; cases e232; replace p232 := eq_true p232; replace q232 := eq_true q232))
                            go_roundg kj19
                            case measure => have := HK1.out; have := HJ19.out; omega
                            case rel => exact ⟨(false), (wrap64 (x8_1 + 1)), (by first | rfl | (simp; done) | (simp [*]; done)), (by first | rfl | (simp; done) | (simp [*]; done)), H', ⟨by have := HK1.out; have := HJ19.out; omega⟩, ⟨by (with_reducible repeat (first | apply Kd.R_alloc | apply Kd.R_drewN | apply Kd.R_drew)); exact HO_6.out⟩, ⟨by (with_reducible repeat (first | apply Kd.R_alloc | apply Kd.R_drewN | apply Kd.R_drew)); exact HO_7.out⟩, ⟨by repeat (first | (with_reducible first | exact HB.out | apply below_alloc | apply pw_below_drewN | apply below_drew1) | exact HB.out)⟩⟩
                        · rw [if_neg c30] at H
                          exact absurd H (by simp)
                      · rw [if_neg c29] at H
                        exact absurd H (by simp)
                    · replace c28 := Bool.eq_false_iff.mpr c28
                      subst c28
                      have H1 : (slotmeshlaw22_GraphReaching.l0 kj19 l0 a1 false t223 t226 (wrap64 (x8_1 + 1))) = some r := by rw [if_neg (show ¬ (false = true) by decide)] at H; exact H
                      clear H
                      have H := H1
                      clear H1
                      have H' := Aside0.mk H
                      clear H
                      obtain ⟨Ao40, co40, eo40⟩ := Kd.R_slice HO_7.out
                      subst eo40
                      go_wp2_with (first | ((with_reducible refine gate_callee (f := 14) rfl ?_); refine goesL_ (some 58) rfl rfl Try.func14 (by kernel_rfl) rfl #[.slice Ao40 t226.length co40, .int .i64 x8_1] rfl (by (try simp only [List.map_toArray, List.map_cons, List.map_nil]); first | done | rfl | (simp only [List.length_drop, List.length_take]; rfl)) ?_; (with_reducible refine (slotmeshlaw22_has.calls kj19 _ _ t226 x8_1 t231 _ ?side1 ?side2 A25.out).mono ?_); (case side1 => repeat (first | exact (Kd.R_reads' HO_7.out).2.2 | (with_reducible refine Kd.C_alloc ?_ _) | (with_reducible refine Kd.C_drewN ?_ _) | (with_reducible refine Kd.C_drew ?_))); (case side2 => exact (Kd.R_reads' HO_7.out).2.1); rintro e w' ⟨rfl, ⟨nd, rfl⟩⟩; refine ⟨_, rfl, ?_⟩))
                      go_roundg kj19
                      case measure => have := HK1.out; have := HJ19.out; omega
                      case rel => exact ⟨(false), (wrap64 (x8_1 + 1)), (by first | rfl | (simp; done) | (simp [*]; done)), (by first | rfl | (simp; done) | (simp [*]; done)), H', ⟨by have := HK1.out; have := HJ19.out; omega⟩, ⟨by (with_reducible repeat (first | apply Kd.R_alloc | apply Kd.R_drewN | apply Kd.R_drew)); exact HO_6.out⟩, ⟨by (with_reducible repeat (first | apply Kd.R_alloc | apply Kd.R_drewN | apply Kd.R_drew)); exact HO_7.out⟩, ⟨by repeat (first | (with_reducible first | exact HB.out | apply below_alloc | apply pw_below_drewN | apply below_drew1) | exact HB.out)⟩⟩
                  · rw [if_neg c27] at H
                    have c27b0 : decide (a1 < (t223.length : Int)) = false := decide_eq_false c27
                    clear c27
                    by_cases c41 : x5_1 = true
                    · subst c41
                      have H1 : (if 0 ≤ x8_1 then (if x8_1 < (t223.length : Int) then (slotmeshlaw22_GraphReaching.l0 kj19 l0 a1 (!(rdOf false t223 x8_1)) t223 t226 (wrap64 (x8_1 + 1))) else (none)) else (none)) = some r := by rw [if_pos rfl] at H; exact H
                      clear H
                      have H := H1
                      clear H1
                      by_cases c42 : 0 ≤ x8_1
                      · rw [if_pos c42] at H
                        have c42b0 : decide (0 ≤ x8_1) = true := decide_eq_true c42
                        clear c42
                        by_cases c43 : x8_1 < (t223.length : Int)
                        · rw [if_pos c43] at H
                          have c43b0 : decide (x8_1 < (t223.length : Int)) = true := decide_eq_true c43
                          clear c43
                          have H' := Aside0.mk H
                          clear H
                          obtain ⟨Ao44, co44, eo44⟩ := Kd.R_slice HO_7.out
                          subst eo44
                          go_wp2_with (first | ((with_reducible refine gate_callee (f := 14) rfl ?_); refine goesL_ (some 58) rfl rfl Try.func14 (by kernel_rfl) rfl #[.slice Ao44 t226.length co44, .int .i64 x8_1] rfl (by (try simp only [List.map_toArray, List.map_cons, List.map_nil]); first | done | rfl | (simp only [List.length_drop, List.length_take]; rfl)) ?_; (with_reducible refine (slotmeshlaw22_has.calls kj19 _ _ t226 x8_1 t231 _ ?side1 ?side2 A25.out).mono ?_); (case side1 => repeat (first | exact (Kd.R_reads' HO_7.out).2.2 | (with_reducible refine Kd.C_alloc ?_ _) | (with_reducible refine Kd.C_drewN ?_ _) | (with_reducible refine Kd.C_drew ?_))); (case side2 => exact (Kd.R_reads' HO_7.out).2.1); rintro e w' ⟨rfl, ⟨nd, rfl⟩⟩; refine ⟨_, rfl, ?_⟩; have p235 : 0 ≤ (x8_1 : Int) := of_decide_eq_true (by first | (with_reducible assumption) | assumption); have q235 : x8_1 < (t223.length : Int) := of_decide_eq_true (by first | (with_reducible assumption) | assumption); obtain ⟨ad235, e235, hx235_0⟩ := Kd.at_bool (Kd.R_reads' HO_6.out).2.2 x8_1 p235 q235; cases e235; replace p235 := eq_true p235; replace q235 := eq_true q235))
                          go_roundg kj19
                          case measure => have := HK1.out; have := HJ19.out; omega
                          case rel => exact ⟨(!(rdOf false t223 x8_1)), (wrap64 (x8_1 + 1)), (by first | rfl | (simp; done) | (simp [*]; done)), (by first | rfl | (simp; done) | (simp [*]; done)), H', ⟨by have := HK1.out; have := HJ19.out; omega⟩, ⟨by (with_reducible repeat (first | apply Kd.R_alloc | apply Kd.R_drewN | apply Kd.R_drew)); exact HO_6.out⟩, ⟨by (with_reducible repeat (first | apply Kd.R_alloc | apply Kd.R_drewN | apply Kd.R_drew)); exact HO_7.out⟩, ⟨by repeat (first | (with_reducible first | exact HB.out | apply below_alloc | apply pw_below_drewN | apply below_drew1) | exact HB.out)⟩⟩
                        · rw [if_neg c43] at H
                          exact absurd H (by simp)
                      · rw [if_neg c42] at H
                        exact absurd H (by simp)
                    · replace c41 := Bool.eq_false_iff.mpr c41
                      subst c41
                      have H1 : (slotmeshlaw22_GraphReaching.l0 kj19 l0 a1 false t223 t226 (wrap64 (x8_1 + 1))) = some r := by rw [if_neg (show ¬ (false = true) by decide)] at H; exact H
                      clear H
                      have H := H1
                      clear H1
                      have H' := Aside0.mk H
                      clear H
                      obtain ⟨Ao45, co45, eo45⟩ := Kd.R_slice HO_7.out
                      subst eo45
                      go_wp2_with (first | ((with_reducible refine gate_callee (f := 14) rfl ?_); refine goesL_ (some 58) rfl rfl Try.func14 (by kernel_rfl) rfl #[.slice Ao45 t226.length co45, .int .i64 x8_1] rfl (by (try simp only [List.map_toArray, List.map_cons, List.map_nil]); first | done | rfl | (simp only [List.length_drop, List.length_take]; rfl)) ?_; (with_reducible refine (slotmeshlaw22_has.calls kj19 _ _ t226 x8_1 t231 _ ?side1 ?side2 A25.out).mono ?_); (case side1 => repeat (first | exact (Kd.R_reads' HO_7.out).2.2 | (with_reducible refine Kd.C_alloc ?_ _) | (with_reducible refine Kd.C_drewN ?_ _) | (with_reducible refine Kd.C_drew ?_))); (case side2 => exact (Kd.R_reads' HO_7.out).2.1); rintro e w' ⟨rfl, ⟨nd, rfl⟩⟩; refine ⟨_, rfl, ?_⟩))
                      go_roundg kj19
                      case measure => have := HK1.out; have := HJ19.out; omega
                      case rel => exact ⟨(false), (wrap64 (x8_1 + 1)), (by first | rfl | (simp; done) | (simp [*]; done)), (by first | rfl | (simp; done) | (simp [*]; done)), H', ⟨by have := HK1.out; have := HJ19.out; omega⟩, ⟨by (with_reducible repeat (first | apply Kd.R_alloc | apply Kd.R_drewN | apply Kd.R_drew)); exact HO_6.out⟩, ⟨by (with_reducible repeat (first | apply Kd.R_alloc | apply Kd.R_drewN | apply Kd.R_drew)); exact HO_7.out⟩, ⟨by repeat (first | (with_reducible first | exact HB.out | apply below_alloc | apply pw_below_drewN | apply below_drew1) | exact HB.out)⟩⟩
                · rw [if_neg c26] at H
                  have c26b0 : decide (0 ≤ a1) = false := decide_eq_false c26
                  clear c26
                  by_cases c46 : x5_1 = true
                  · subst c46
                    have H1 : (if 0 ≤ x8_1 then (if x8_1 < (t223.length : Int) then (slotmeshlaw22_GraphReaching.l0 kj19 l0 a1 (!(rdOf false t223 x8_1)) t223 t226 (wrap64 (x8_1 + 1))) else (none)) else (none)) = some r := by rw [if_pos rfl] at H; exact H
                    clear H
                    have H := H1
                    clear H1
                    by_cases c47 : 0 ≤ x8_1
                    · rw [if_pos c47] at H
                      have c47b0 : decide (0 ≤ x8_1) = true := decide_eq_true c47
                      clear c47
                      by_cases c48 : x8_1 < (t223.length : Int)
                      · rw [if_pos c48] at H
                        have c48b0 : decide (x8_1 < (t223.length : Int)) = true := decide_eq_true c48
                        clear c48
                        have H' := Aside0.mk H
                        clear H
                        obtain ⟨Ao49, co49, eo49⟩ := Kd.R_slice HO_7.out
                        subst eo49
                        go_wp2_with (first | ((with_reducible refine gate_callee (f := 14) rfl ?_); refine goesL_ (some 58) rfl rfl Try.func14 (by kernel_rfl) rfl #[.slice Ao49 t226.length co49, .int .i64 x8_1] rfl (by (try simp only [List.map_toArray, List.map_cons, List.map_nil]); first | done | rfl | (simp only [List.length_drop, List.length_take]; rfl)) ?_; (with_reducible refine (slotmeshlaw22_has.calls kj19 _ _ t226 x8_1 t231 _ ?side1 ?side2 A25.out).mono ?_); (case side1 => repeat (first | exact (Kd.R_reads' HO_7.out).2.2 | (with_reducible refine Kd.C_alloc ?_ _) | (with_reducible refine Kd.C_drewN ?_ _) | (with_reducible refine Kd.C_drew ?_))); (case side2 => exact (Kd.R_reads' HO_7.out).2.1); rintro e w' ⟨rfl, ⟨nd, rfl⟩⟩; refine ⟨_, rfl, ?_⟩; have p236 : 0 ≤ (x8_1 : Int) := of_decide_eq_true (by first | (with_reducible assumption) | assumption); have q236 : x8_1 < (t223.length : Int) := of_decide_eq_true (by first | (with_reducible assumption) | assumption); obtain ⟨ad236, e236, hx236_0⟩ := Kd.at_bool (Kd.R_reads' HO_6.out).2.2 x8_1 p236 q236; cases e236; replace p236 := eq_true p236; replace q236 := eq_true q236))
                        go_roundg kj19
                        case measure => have := HK1.out; have := HJ19.out; omega
                        case rel => exact ⟨(!(rdOf false t223 x8_1)), (wrap64 (x8_1 + 1)), (by first | rfl | (simp; done) | (simp [*]; done)), (by first | rfl | (simp; done) | (simp [*]; done)), H', ⟨by have := HK1.out; have := HJ19.out; omega⟩, ⟨by (with_reducible repeat (first | apply Kd.R_alloc | apply Kd.R_drewN | apply Kd.R_drew)); exact HO_6.out⟩, ⟨by (with_reducible repeat (first | apply Kd.R_alloc | apply Kd.R_drewN | apply Kd.R_drew)); exact HO_7.out⟩, ⟨by repeat (first | (with_reducible first | exact HB.out | apply below_alloc | apply pw_below_drewN | apply below_drew1) | exact HB.out)⟩⟩
                      · rw [if_neg c48] at H
                        exact absurd H (by simp)
                    · rw [if_neg c47] at H
                      exact absurd H (by simp)
                  · replace c46 := Bool.eq_false_iff.mpr c46
                    subst c46
                    have H1 : (slotmeshlaw22_GraphReaching.l0 kj19 l0 a1 false t223 t226 (wrap64 (x8_1 + 1))) = some r := by rw [if_neg (show ¬ (false = true) by decide)] at H; exact H
                    clear H
                    have H := H1
                    clear H1
                    have H' := Aside0.mk H
                    clear H
                    obtain ⟨Ao50, co50, eo50⟩ := Kd.R_slice HO_7.out
                    subst eo50
                    go_wp2_with (first | ((with_reducible refine gate_callee (f := 14) rfl ?_); refine goesL_ (some 58) rfl rfl Try.func14 (by kernel_rfl) rfl #[.slice Ao50 t226.length co50, .int .i64 x8_1] rfl (by (try simp only [List.map_toArray, List.map_cons, List.map_nil]); first | done | rfl | (simp only [List.length_drop, List.length_take]; rfl)) ?_; (with_reducible refine (slotmeshlaw22_has.calls kj19 _ _ t226 x8_1 t231 _ ?side1 ?side2 A25.out).mono ?_); (case side1 => repeat (first | exact (Kd.R_reads' HO_7.out).2.2 | (with_reducible refine Kd.C_alloc ?_ _) | (with_reducible refine Kd.C_drewN ?_ _) | (with_reducible refine Kd.C_drew ?_))); (case side2 => exact (Kd.R_reads' HO_7.out).2.1); rintro e w' ⟨rfl, ⟨nd, rfl⟩⟩; refine ⟨_, rfl, ?_⟩))
                    go_roundg kj19
                    case measure => have := HK1.out; have := HJ19.out; omega
                    case rel => exact ⟨(false), (wrap64 (x8_1 + 1)), (by first | rfl | (simp; done) | (simp [*]; done)), (by first | rfl | (simp; done) | (simp [*]; done)), H', ⟨by have := HK1.out; have := HJ19.out; omega⟩, ⟨by (with_reducible repeat (first | apply Kd.R_alloc | apply Kd.R_drewN | apply Kd.R_drew)); exact HO_6.out⟩, ⟨by (with_reducible repeat (first | apply Kd.R_alloc | apply Kd.R_drewN | apply Kd.R_drew)); exact HO_7.out⟩, ⟨by repeat (first | (with_reducible first | exact HB.out | apply below_alloc | apply pw_below_drewN | apply below_drew1) | exact HB.out)⟩⟩
          · rw [if_neg c18] at H
            have c18b0 : decide (x8_1 < (t223.length : Int)) = false := decide_eq_false c18
            clear c18
            obtain rfl := Option.some.inj H
            go_wp2
            go_ret
            exact ⟨by first | rfl | (simp [errW_none, errW_some] <;> rfl) | (simp [*, errW_none, errW_some] <;> rfl), by repeat (first | (with_reducible first | exact HB.out | apply below_alloc | apply pw_below_drewN | apply below_drew1) | exact HB.out)⟩
    · rw [if_neg c12] at H
      have c12b0 : ((t223.length : Int) == (l0.length : Int)) = false := beq_eq_false_iff_ne.mpr c12
      have c12b1 : ((t223.length : Int) != (l0.length : Int)) = true := bne_iff_ne.mpr c12
      have c12b2 : (t223.length == l0.length) = false := by first | simpa using c12 | (simp at c12 ⊢; omega)
      obtain rfl := Option.some.inj H
      go_enter Try.func3, Try.ntmps3
      go_wp2_with (first | ((with_reducible refine gate_callee (f := 10) rfl ?_); refine goesL_ (some 12) rfl rfl Try.func10 (by kernel_rfl) rfl #[] rfl (by (try simp only [List.map_toArray, List.map_cons, List.map_nil]); first | done | rfl | (simp only [List.length_drop, List.length_take]; rfl)) ?_; (with_reducible refine (slotmeshlaw22_head.calls k  t219 _ A3.out).mono ?_); rintro e w51 ⟨rfl, hb⟩; refine ⟨_, rfl, ?_⟩; have n0_ := Aside0.mk (below_step (by repeat (first | (with_reducible first | exact HB.out | apply below_alloc | apply pw_below_drewN | apply below_drew1) | exact HB.out)) hb); clear HB; have HB := n0_; clear n0_; (try clear hb); (try clear hb2); (try clear hk); (try clear hi)) | ((with_reducible refine gate_callee (f := 11) rfl ?_); refine goesL_ (some 26) rfl rfl Try.func11 (by kernel_rfl) rfl #[.slice A0 l0.length c0, .int .i64 a1] rfl (by (try simp only [List.map_toArray, List.map_cons, List.map_nil]); first | done | rfl | (simp only [List.length_drop, List.length_take]; rfl)) ?_; (with_reducible refine (graph_Reaches.calls k _ _ l0 a1 t223 _ ?side1 ?side2 A11.out).mono ?_); (case side1 => repeat (first | exact (Kd.C_below HR0.out HB.out) | (with_reducible refine Kd.C_alloc ?_ _) | (with_reducible refine Kd.C_drewN ?_ _) | (with_reducible refine Kd.C_drew ?_))); (case side2 => exact HC0.out); rintro e w52 ⟨v224, rfl, ho0, hb⟩; refine ⟨_, rfl, ?_⟩; have n0_ := Aside0.mk (Kd.R_lower ho0 (below_size (by repeat (first | (with_reducible first | exact HB.out | apply below_alloc | apply pw_below_drewN | apply below_drew1) | exact HB.out)))); have n1_ := Aside0.mk (below_step (by repeat (first | (with_reducible first | exact HB.out | apply below_alloc | apply pw_below_drewN | apply below_drew1) | exact HB.out)) hb); clear HB; have HO225 := n0_; have HB := n1_; clear n0_ n1_; (try clear hb); (try clear hb2); (try clear hk); (try clear hi); (try clear ho0); obtain ⟨Ao53, co53, eo53⟩ := Kd.R_slice HO225.out; subst eo53))
      go_ret
      exact ⟨by first | rfl | (simp [errW_none, errW_some] <;> rfl) | (simp [*, errW_none, errW_some] <;> rfl), by repeat (first | (with_reducible first | exact HB.out | apply below_alloc | apply pw_below_drewN | apply below_drew1) | exact HB.out)⟩

/-- THE ONE PURE STATEMENT of slotmeshlaw22_GraphReaching: yours. -/
def slotmeshlaw22_GraphReaching.Pure : Prop := ∀ (l0 : List Int) (a1 : Int), l0.length ≤ maxLen → l0.length * 8 ≤ 140737488351232 → (∀ x ∈ l0, (Lit.int .i64 x).wf = true) → (Lit.int .i64 a1).wf = true → ∃ k, slotmeshlaw22_GraphReaching.f k l0 a1 = some true
theorem slotmeshlaw22_GraphReaching.walk (P : slotmeshlaw22_GraphReaching.Pure) (a0 : Option Addr) (len0 cap0 : Nat) (z0 : List Int) (a1 : Int) (w : World) (w0 : (a0 = none ∧ len0 = 0 ∧ cap0 = 0 ∧ z0 = []) ∨ ∃ x, a0 = some x ∧ len0 ≤ cap0 ∧ cap0 ≤ maxLen ∧ z0.length = cap0 ∧ (∀ i, i < z0.length → w.cell? (x.add i) = some (.int .i64 (z0.getD i 0))) ∧ ∀ n ∈ z0, (Lit.int .i64 n).wf = true) (y0 : len0 * 8 ≤ 140737488351232) (w1 : (Lit.int .i64 a1).wf = true) :
    Calls Try.prog 3 #[.slice a0 len0 cap0, .int .i64 a1] w fun e w' => e = .returned (.bool true) ∧ Below w.heap.size w w' := by
  obtain ⟨l0, rfl, hr0, hm0, hw0, hc0⟩ := ReadsInt.ofRowC w0
  obtain ⟨k, h⟩ := P l0 a1 hm0 y0 hw0 w1
  refine (slotmeshlaw22_GraphReaching.calls k _ _ l0 a1 true w (Kd.C_of_reads (d := (0 : Int)) (h1 := fun _ => rfl) hr0) hc0 h).mono ?_
  rintro e w' ⟨rfl, hd⟩
  exact ⟨rfl, hd⟩


end

end Go.Proofs.Ytppkmmifjfcfiaa.P
