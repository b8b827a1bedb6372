-- LAID BY PROGRAM out of the translation's own text (no part of it is trusted: Lean checks every line)
import Derived.Test.YtppkmmifjfcfiaaH
import Derived.Test.YtppkmmifjfcfiaaRv
namespace Go.Proofs.Ytppkmmifjfcfiaa.P
open Go.RowKit Go.Proofs.YtppkmmifjfcfiaaW.PrintWords Go.Proofs.YtppkmmifjfcfiaaW.PrintLast Go.Proofs.YtppkmmifjfcfiaaW.PrintMore
attribute [local go_sem] max2_int min2_int max_two min_two max_three min_three max_four min_four   -- for this text's walks alone
set_option linter.unusedVariables false
set_option linter.unusedSimpArgs false
noncomputable section

/-! ### slotmeshlaw22_GraphIslands: function 9 -/
mutual
def slotmeshlaw22_GraphIslands.j0 : Nat → List (List Bool) → Bool → Bool → Option (Bool)
  | 0, _, _, _ => none
  | k + 1, x0, x3, x22 => if x22 = true then (some x3) else ((graph_Islands.f k x0).bind fun bt427 => (if bt427.2 = 0 then (slotmeshlaw22_GraphIslands.j1 k x0 x3 bt427.1 ((bt427.1.length : Int) != (x0.length : Int))) else (slotmeshlaw22_GraphIslands.j1 k x0 x3 bt427.1 true)))
def slotmeshlaw22_GraphIslands.j1 : Nat → List (List Bool) → Bool → List Int → Bool → Option (Bool)
  | 0, _, _, _, _ => none
  | k + 1, x0, x3, x6, x37 => if x37 = true then (some false) else (slotmeshlaw22_GraphIslands.l0 k x0 x3 x6 0)
def slotmeshlaw22_GraphIslands.l0 : Nat → List (List Bool) → Bool → List Int → Int → Option (Bool)
  | 0, _, _, _, _ => none
  | k + 1, x0, x3, x6, x8 => if x8 < (x6.length : Int) then ((graph_Depths.f k x0 x8).bind fun bt431 => (if bt431.2 = 0 then (if (bt431.1.length : Int) = (x6.length : Int) then (if 0 ≤ x8 then (if (rd x6 x8) < 0 then (slotmeshlaw22_GraphIslands.j3 k x0 x3 x6 x8 bt431.1 true) else (if (rd x6 x8) > x8 then (slotmeshlaw22_GraphIslands.j3 k x0 x3 x6 x8 bt431.1 true) else (if 0 ≤ (rd x6 x8) then (if (rd x6 x8) < (x6.length : Int) then (slotmeshlaw22_GraphIslands.j3 k x0 x3 x6 x8 bt431.1 ((rd x6 (rd x6 x8)) != (rd x6 x8))) else (none)) else (none)))) else (none)) else (slotmeshlaw22_GraphIslands.j3 k x0 x3 x6 x8 bt431.1 true)) else (slotmeshlaw22_GraphIslands.j3 k x0 x3 x6 x8 bt431.1 true))) else (some x3)
def slotmeshlaw22_GraphIslands.j3 : Nat → List (List Bool) → Bool → List Int → Int → List Int → Bool → Option (Bool)
  | 0, _, _, _, _, _, _ => none
  | k + 1, x0, x3, x6, x8, x9, x87 => if x87 = true then (some false) else (slotmeshlaw22_GraphIslands.l1 k x0 x3 x6 x8 x9 0)
def slotmeshlaw22_GraphIslands.l1 : Nat → List (List Bool) → Bool → List Int → Int → List Int → Int → Option (Bool)
  | 0, _, _, _, _, _, _ => none
  | k + 1, x0, x3, x6, x8, x9, x11 => if x11 < (x6.length : Int) then (if x3 = true then (if 0 ≤ x8 then (if x8 < (x6.length : Int) then (if 0 ≤ x11 then (if x11 < (x9.length : Int) then (slotmeshlaw22_GraphIslands.l1 k x0 (((rd x6 x8) == (rd x6 x11)) == (decide ((rd x9 x11) ≥ 0))) x6 x8 x9 (wrap64 (x11 + 1))) else (none)) else (none)) else (none)) else (none)) else (slotmeshlaw22_GraphIslands.l1 k x0 false x6 x8 x9 (wrap64 (x11 + 1)))) else (slotmeshlaw22_GraphIslands.l0 k x0 x3 x6 (wrap64 (x8 + 1)))
end
def slotmeshlaw22_GraphIslands.f (k : Nat) (l0 : List (List Bool)) : Option (Bool) := (slotmeshlaw22_head.f k).bind fun t424 => ((slotmeshlaw22_few.f k l0 ([] : List Int)).bind fun t425 => ((slotmeshref22_Valid.f k l0).bind fun t426 => (if t425 = true then (slotmeshlaw22_GraphIslands.j0 k l0 t424 (!t426)) else (slotmeshlaw22_GraphIslands.j0 k l0 t424 true))))
theorem slotmeshlaw22_GraphIslands.mono_l : ∀ k, (∀ y0 y1 y2, LeO (slotmeshlaw22_GraphIslands.j0 k y0 y1 y2) (slotmeshlaw22_GraphIslands.j0 (k + 1) y0 y1 y2)) ∧ (∀ y0 y1 y2 y3, LeO (slotmeshlaw22_GraphIslands.j1 k y0 y1 y2 y3) (slotmeshlaw22_GraphIslands.j1 (k + 1) y0 y1 y2 y3)) ∧ (∀ y0 y1 y2 y3, LeO (slotmeshlaw22_GraphIslands.l0 k y0 y1 y2 y3) (slotmeshlaw22_GraphIslands.l0 (k + 1) y0 y1 y2 y3)) ∧ (∀ y0 y1 y2 y3 y4 y5, LeO (slotmeshlaw22_GraphIslands.j3 k y0 y1 y2 y3 y4 y5) (slotmeshlaw22_GraphIslands.j3 (k + 1) y0 y1 y2 y3 y4 y5)) ∧ (∀ y0 y1 y2 y3 y4 y5, LeO (slotmeshlaw22_GraphIslands.l1 k y0 y1 y2 y3 y4 y5) (slotmeshlaw22_GraphIslands.l1 (k + 1) y0 y1 y2 y3 y4 y5))
  | 0 => ⟨fun _ _ _ r h => by simp [slotmeshlaw22_GraphIslands.j0] at h, fun _ _ _ _ r h => by simp [slotmeshlaw22_GraphIslands.j1] at h, fun _ _ _ _ r h => by simp [slotmeshlaw22_GraphIslands.l0] at h, fun _ _ _ _ _ _ r h => by simp [slotmeshlaw22_GraphIslands.j3] at h, fun _ _ _ _ _ _ r h => by simp [slotmeshlaw22_GraphIslands.l1] at h⟩
  | k + 1 => by
    obtain ⟨ih0, ih1, ih2, ih3, ih4⟩ := slotmeshlaw22_GraphIslands.mono_l k
    refine ⟨?_, ?_, ?_, ?_, ?_⟩
    · intro y0 y1 y2
      unfold slotmeshlaw22_GraphIslands.j0
      repeat' first
      | (with_reducible exact ih0 _ _ _)
      | (with_reducible exact ih1 _ _ _ _)
      | (with_reducible exact ih2 _ _ _ _)
      | (with_reducible exact ih3 _ _ _ _ _ _)
      | (with_reducible exact ih4 _ _ _ _ _ _)
      | (with_reducible exact graph_Depths.mono _ _ _)
      | (with_reducible exact graph_Islands.mono _ _)
      | (with_reducible exact slotmeshlaw22_few.mono _ _ _)
      | (with_reducible exact slotmeshlaw22_head.mono _)
      | (with_reducible exact slotmeshref22_Valid.mono _ _)
      | (with_reducible exact LeO.refl _)
      | (with_reducible exact LeO.none _)
      | (with_reducible refine LeO.ite ?_ ?_)
      | (with_reducible refine LeO.bind ?_ (fun _ => ?_))
      | exact ih0 _ _ _
      | exact ih1 _ _ _ _
      | exact ih2 _ _ _ _
      | exact ih3 _ _ _ _ _ _
      | exact ih4 _ _ _ _ _ _
      | exact graph_Depths.mono _ _ _
      | exact graph_Islands.mono _ _
      | exact slotmeshlaw22_few.mono _ _ _
      | exact slotmeshlaw22_head.mono _
      | exact slotmeshref22_Valid.mono _ _
      | exact LeO.none _
      | refine LeO.ite ?_ ?_
      | refine LeO.bind ?_ (fun _ => ?_)
    · intro y0 y1 y2 y3
      unfold slotmeshlaw22_GraphIslands.j1
      repeat' first
      | (with_reducible exact ih0 _ _ _)
      | (with_reducible exact ih1 _ _ _ _)
      | (with_reducible exact ih2 _ _ _ _)
      | (with_reducible exact ih3 _ _ _ _ _ _)
      | (with_reducible exact ih4 _ _ _ _ _ _)
      | (with_reducible exact graph_Depths.mono _ _ _)
      | (with_reducible exact graph_Islands.mono _ _)
      | (with_reducible exact slotmeshlaw22_few.mono _ _ _)
      | (with_reducible exact slotmeshlaw22_head.mono _)
      | (with_reducible exact slotmeshref22_Valid.mono _ _)
      | (with_reducible exact LeO.refl _)
      | (with_reducible exact LeO.none _)
      | (with_reducible refine LeO.ite ?_ ?_)
      | (with_reducible refine LeO.bind ?_ (fun _ => ?_))
      | exact ih0 _ _ _
      | exact ih1 _ _ _ _
      | exact ih2 _ _ _ _
      | exact ih3 _ _ _ _ _ _
      | exact ih4 _ _ _ _ _ _
      | exact graph_Depths.mono _ _ _
      | exact graph_Islands.mono _ _
      | exact slotmeshlaw22_few.mono _ _ _
      | exact slotmeshlaw22_head.mono _
      | exact slotmeshref22_Valid.mono _ _
      | exact LeO.none _
      | refine LeO.ite ?_ ?_
      | refine LeO.bind ?_ (fun _ => ?_)
    · intro y0 y1 y2 y3
      unfold slotmeshlaw22_GraphIslands.l0
      repeat' first
      | (with_reducible exact ih0 _ _ _)
      | (with_reducible exact ih1 _ _ _ _)
      | (with_reducible exact ih2 _ _ _ _)
      | (with_reducible exact ih3 _ _ _ _ _ _)
      | (with_reducible exact ih4 _ _ _ _ _ _)
      | (with_reducible exact graph_Depths.mono _ _ _)
      | (with_reducible exact graph_Islands.mono _ _)
      | (with_reducible exact slotmeshlaw22_few.mono _ _ _)
      | (with_reducible exact slotmeshlaw22_head.mono _)
      | (with_reducible exact slotmeshref22_Valid.mono _ _)
      | (with_reducible exact LeO.refl _)
      | (with_reducible exact LeO.none _)
      | (with_reducible refine LeO.ite ?_ ?_)
      | (with_reducible refine LeO.bind ?_ (fun _ => ?_))
      | exact ih0 _ _ _
      | exact ih1 _ _ _ _
      | exact ih2 _ _ _ _
      | exact ih3 _ _ _ _ _ _
      | exact ih4 _ _ _ _ _ _
      | exact graph_Depths.mono _ _ _
      | exact graph_Islands.mono _ _
      | exact slotmeshlaw22_few.mono _ _ _
      | exact slotmeshlaw22_head.mono _
      | exact slotmeshref22_Valid.mono _ _
      | exact LeO.none _
      | refine LeO.ite ?_ ?_
      | refine LeO.bind ?_ (fun _ => ?_)
    · intro y0 y1 y2 y3 y4 y5
      unfold slotmeshlaw22_GraphIslands.j3
      repeat' first
      | (with_reducible exact ih0 _ _ _)
      | (with_reducible exact ih1 _ _ _ _)
      | (with_reducible exact ih2 _ _ _ _)
      | (with_reducible exact ih3 _ _ _ _ _ _)
      | (with_reducible exact ih4 _ _ _ _ _ _)
      | (with_reducible exact graph_Depths.mono _ _ _)
      | (with_reducible exact graph_Islands.mono _ _)
      | (with_reducible exact slotmeshlaw22_few.mono _ _ _)
      | (with_reducible exact slotmeshlaw22_head.mono _)
      | (with_reducible exact slotmeshref22_Valid.mono _ _)
      | (with_reducible exact LeO.refl _)
      | (with_reducible exact LeO.none _)
      | (with_reducible refine LeO.ite ?_ ?_)
      | (with_reducible refine LeO.bind ?_ (fun _ => ?_))
      | exact ih0 _ _ _
      | exact ih1 _ _ _ _
      | exact ih2 _ _ _ _
      | exact ih3 _ _ _ _ _ _
      | exact ih4 _ _ _ _ _ _
      | exact graph_Depths.mono _ _ _
      | exact graph_Islands.mono _ _
      | exact slotmeshlaw22_few.mono _ _ _
      | exact slotmeshlaw22_head.mono _
      | exact slotmeshref22_Valid.mono _ _
      | exact LeO.none _
      | refine LeO.ite ?_ ?_
      | refine LeO.bind ?_ (fun _ => ?_)
    · intro y0 y1 y2 y3 y4 y5
      unfold slotmeshlaw22_GraphIslands.l1
      repeat' first
      | (with_reducible exact ih0 _ _ _)
      | (with_reducible exact ih1 _ _ _ _)
      | (with_reducible exact ih2 _ _ _ _)
      | (with_reducible exact ih3 _ _ _ _ _ _)
      | (with_reducible exact ih4 _ _ _ _ _ _)
      | (with_reducible exact graph_Depths.mono _ _ _)
      | (with_reducible exact graph_Islands.mono _ _)
      | (with_reducible exact slotmeshlaw22_few.mono _ _ _)
      | (with_reducible exact slotmeshlaw22_head.mono _)
      | (with_reducible exact slotmeshref22_Valid.mono _ _)
      | (with_reducible exact LeO.refl _)
      | (with_reducible exact LeO.none _)
      | (with_reducible refine LeO.ite ?_ ?_)
      | (with_reducible refine LeO.bind ?_ (fun _ => ?_))
      | exact ih0 _ _ _
      | exact ih1 _ _ _ _
      | exact ih2 _ _ _ _
      | exact ih3 _ _ _ _ _ _
      | exact ih4 _ _ _ _ _ _
      | exact graph_Depths.mono _ _ _
      | exact graph_Islands.mono _ _
      | exact slotmeshlaw22_few.mono _ _ _
      | exact slotmeshlaw22_head.mono _
      | exact slotmeshref22_Valid.mono _ _
      | exact LeO.none _
      | refine LeO.ite ?_ ?_
      | refine LeO.bind ?_ (fun _ => ?_)
theorem slotmeshlaw22_GraphIslands.mono : ∀ a0 k, LeO (slotmeshlaw22_GraphIslands.f k a0) (slotmeshlaw22_GraphIslands.f (k + 1) a0) := by
  intro a0 k
  obtain ⟨ih0, ih1, ih2, ih3, ih4⟩ := slotmeshlaw22_GraphIslands.mono_l k
  unfold slotmeshlaw22_GraphIslands.f
  repeat' first
      | (with_reducible exact ih0 _ _ _)
      | (with_reducible exact ih1 _ _ _ _)
      | (with_reducible exact ih2 _ _ _ _)
      | (with_reducible exact ih3 _ _ _ _ _ _)
      | (with_reducible exact ih4 _ _ _ _ _ _)
      | (with_reducible exact graph_Depths.mono _ _ _)
      | (with_reducible exact graph_Islands.mono _ _)
      | (with_reducible exact slotmeshlaw22_few.mono _ _ _)
      | (with_reducible exact slotmeshlaw22_head.mono _)
      | (with_reducible exact slotmeshref22_Valid.mono _ _)
      | (with_reducible exact LeO.refl _)
      | (with_reducible exact LeO.none _)
      | (with_reducible refine LeO.ite ?_ ?_)
      | (with_reducible refine LeO.bind ?_ (fun _ => ?_))
      | exact ih0 _ _ _
      | exact ih1 _ _ _ _
      | exact ih2 _ _ _ _
      | exact ih3 _ _ _ _ _ _
      | exact ih4 _ _ _ _ _ _
      | exact graph_Depths.mono _ _ _
      | exact graph_Islands.mono _ _
      | exact slotmeshlaw22_few.mono _ _ _
      | exact slotmeshlaw22_head.mono _
      | exact slotmeshref22_Valid.mono _ _
      | exact LeO.none _
      | refine LeO.ite ?_ ?_
      | refine LeO.bind ?_ (fun _ => ?_)
set_option maxHeartbeats 8000000 in
set_option maxRecDepth 100000 in
theorem slotmeshlaw22_GraphIslands.calls (k : Nat) (A0 : Option Addr) (c0 : Nat) (l0 : List (List Bool)) (r : Bool) (w : World) (hr0 : Kd.C (Kd.slice 4 Kd.bool) w A0 l0.length l0) (hc0 : l0.length ≤ c0) (h : slotmeshlaw22_GraphIslands.f k l0 = some r) :
    Calls Try.prog 9 #[.slice A0 l0.length c0] w fun e w' => e = .returned (.bool r) ∧ Below w.heap.size w w' := by
  have HR0 := Aside0.mk hr0
  have HC0 := Aside0.mk hc0
  clear hr0 hc0
  have HB := Aside0.mk (Below.refl w.heap.size w)
  have H : ((slotmeshlaw22_head.f k).bind fun t424 => ((slotmeshlaw22_few.f k l0 ([] : List Int)).bind fun t425 => ((slotmeshref22_Valid.f k l0).bind fun t426 => (if t425 = true then (slotmeshlaw22_GraphIslands.j0 k l0 t424 (!t426)) else (slotmeshlaw22_GraphIslands.j0 k l0 t424 true))))) = some r := h
  clear h
  replace H := Option.bind_eq_some_iff.mp H
  obtain ⟨t424, A20, H⟩ := H
  replace H : ((slotmeshlaw22_few.f k l0 ([] : List Int)).bind fun t425 => ((slotmeshref22_Valid.f k l0).bind fun t426 => (if t425 = true then (slotmeshlaw22_GraphIslands.j0 k l0 t424 (!t426)) else (slotmeshlaw22_GraphIslands.j0 k l0 t424 true)))) = some r := H
  have A2 := Aside0.mk A20
  clear A20
  replace H := Option.bind_eq_some_iff.mp H
  obtain ⟨t425, A30, H⟩ := H
  replace H : ((slotmeshref22_Valid.f k l0).bind fun t426 => (if t425 = true then (slotmeshlaw22_GraphIslands.j0 k l0 t424 (!t426)) else (slotmeshlaw22_GraphIslands.j0 k l0 t424 true))) = some r := H
  have A3 := Aside0.mk A30
  clear A30
  replace H := Option.bind_eq_some_iff.mp H
  obtain ⟨t426, A40, H⟩ := H
  replace H : (if t425 = true then (slotmeshlaw22_GraphIslands.j0 k l0 t424 (!t426)) else (slotmeshlaw22_GraphIslands.j0 k l0 t424 true)) = some r := H
  have A4 := Aside0.mk A40
  clear A40
  have HC5 := Aside0.mk H
  clear H
  go_enter Try.func9, Try.ntmps9
  go_upto_region 4 with (first | (go_at_call 10; (with_reducible refine (slotmeshlaw22_head.calls k  t424 _ A2.out).mono ?_); rintro e w6 ⟨rfl, hb⟩; have n0_ := Aside0.mk (below_step (by repeat (first | (with_reducible first | exact HB.out | apply below_alloc | apply pw_below_drewN | apply below_drew1) | exact HB.out)) hb); clear HB; have HB := n0_; clear n0_; (try clear hb); (try clear hb2); (try clear hk); (try clear hi)) | (go_at_call 15; (refine (slotmeshlaw22_few.calls k _ _ l0 _ _ ([] : List Int) t425 _ ?side1 ?side2 ?side3 ?side4 A3.out).mono ?_); (case side1 => repeat (first | exact (Kd.C_below HR0.out HB.out) | (with_reducible refine Kd.C_alloc ?_ _) | (with_reducible refine Kd.C_drewN ?_ _) | (with_reducible refine Kd.C_drew ?_))); (case side2 => exact HC0.out); (case side3 => exact Kd.C_nil _ _); (case side4 => exact Nat.le_refl _); rintro e w' ⟨rfl, ⟨nd, rfl⟩⟩; (try first | exact ⟨rfl, _, World.drewN_drewN _ _ _⟩ | exact ⟨rfl, _, Eq.trans (World.drewN_drewN _ _ _) (congrArg (World.drewN _) (Nat.add_assoc _ _ _))⟩)) | (go_at_call 16; (with_reducible refine (slotmeshref22_Valid.calls k _ _ l0 t426 _ ?side1 ?side2 A4.out).mono ?_); (case side1 => repeat (first | exact (Kd.C_below HR0.out (by repeat (first | (with_reducible first | exact HB.out | apply below_alloc | apply pw_below_drewN | apply below_drew1) | exact HB.out))) | (with_reducible refine Kd.C_alloc ?_ _) | (with_reducible refine Kd.C_drewN ?_ _) | (with_reducible refine Kd.C_drew ?_))); (case side2 => exact HC0.out); rintro e w' ⟨rfl, ⟨nd, rfl⟩⟩; (try first | exact ⟨rfl, _, World.drewN_drewN _ _ _⟩ | exact ⟨rfl, _, Eq.trans (World.drewN_drewN _ _ _) (congrArg (World.drewN _) (Nat.add_assoc _ _ _))⟩)))
  repeat (go_quiet (first | (go_at_call 10; (with_reducible refine (slotmeshlaw22_head.calls k  t424 _ A2.out).mono ?_); rintro e w6 ⟨rfl, hb⟩; have n0_ := Aside0.mk (below_step (by repeat (first | (with_reducible first | exact HB.out | apply below_alloc | apply pw_below_drewN | apply below_drew1) | exact HB.out)) hb); clear HB; have HB := n0_; clear n0_; (try clear hb); (try clear hb2); (try clear hk); (try clear hi)) | (go_at_call 15; (refine (slotmeshlaw22_few.calls k _ _ l0 _ _ ([] : List Int) t425 _ ?side1 ?side2 ?side3 ?side4 A3.out).mono ?_); (case side1 => repeat (first | exact (Kd.C_below HR0.out HB.out) | (with_reducible refine Kd.C_alloc ?_ _) | (with_reducible refine Kd.C_drewN ?_ _) | (with_reducible refine Kd.C_drew ?_))); (case side2 => exact HC0.out); (case side3 => exact Kd.C_nil _ _); (case side4 => exact Nat.le_refl _); rintro e w' ⟨rfl, ⟨nd, rfl⟩⟩; (try first | exact ⟨rfl, _, World.drewN_drewN _ _ _⟩ | exact ⟨rfl, _, Eq.trans (World.drewN_drewN _ _ _) (congrArg (World.drewN _) (Nat.add_assoc _ _ _))⟩)) | (go_at_call 16; (with_reducible refine (slotmeshref22_Valid.calls k _ _ l0 t426 _ ?side1 ?side2 A4.out).mono ?_); (case side1 => repeat (first | exact (Kd.C_below HR0.out (by repeat (first | (with_reducible first | exact HB.out | apply below_alloc | apply pw_below_drewN | apply below_drew1) | exact HB.out))) | (with_reducible refine Kd.C_alloc ?_ _) | (with_reducible refine Kd.C_drewN ?_ _) | (with_reducible refine Kd.C_drew ?_))); (case side2 => exact HC0.out); rintro e w' ⟨rfl, ⟨nd, rfl⟩⟩; (try first | exact ⟨rfl, _, World.drewN_drewN _ _ _⟩ | exact ⟨rfl, _, Eq.trans (World.drewN_drewN _ _ _) (congrArg (World.drewN _) (Nat.add_assoc _ _ _))⟩))); go_upto_region 4 with (first | (go_at_call 10; (with_reducible refine (slotmeshlaw22_head.calls k  t424 _ A2.out).mono ?_); rintro e w6 ⟨rfl, hb⟩; have n0_ := Aside0.mk (below_step (by repeat (first | (with_reducible first | exact HB.out | apply below_alloc | apply pw_below_drewN | apply below_drew1) | exact HB.out)) hb); clear HB; have HB := n0_; clear n0_; (try clear hb); (try clear hb2); (try clear hk); (try clear hi)) | (go_at_call 15; (refine (slotmeshlaw22_few.calls k _ _ l0 _ _ ([] : List Int) t425 _ ?side1 ?side2 ?side3 ?side4 A3.out).mono ?_); (case side1 => repeat (first | exact (Kd.C_below HR0.out HB.out) | (with_reducible refine Kd.C_alloc ?_ _) | (with_reducible refine Kd.C_drewN ?_ _) | (with_reducible refine Kd.C_drew ?_))); (case side2 => exact HC0.out); (case side3 => exact Kd.C_nil _ _); (case side4 => exact Nat.le_refl _); rintro e w' ⟨rfl, ⟨nd, rfl⟩⟩; (try first | exact ⟨rfl, _, World.drewN_drewN _ _ _⟩ | exact ⟨rfl, _, Eq.trans (World.drewN_drewN _ _ _) (congrArg (World.drewN _) (Nat.add_assoc _ _ _))⟩)) | (go_at_call 16; (with_reducible refine (slotmeshref22_Valid.calls k _ _ l0 t426 _ ?side1 ?side2 A4.out).mono ?_); (case side1 => repeat (first | exact (Kd.C_below HR0.out (by repeat (first | (with_reducible first | exact HB.out | apply below_alloc | apply pw_below_drewN | apply below_drew1) | exact HB.out))) | (with_reducible refine Kd.C_alloc ?_ _) | (with_reducible refine Kd.C_drewN ?_ _) | (with_reducible refine Kd.C_drew ?_))); (case side2 => exact HC0.out); rintro e w' ⟨rfl, ⟨nd, rfl⟩⟩; (try first | exact ⟨rfl, _, World.drewN_drewN _ _ _⟩ | exact ⟨rfl, _, Eq.trans (World.drewN_drewN _ _ _) (congrArg (World.drewN _) (Nat.add_assoc _ _ _))⟩))))
  (try simp only [Act.put, List.setIfInBounds_toArray, List.set_cons_zero, List.set_cons_succ])
  go_cut [22] (fun v22 wc => ∃ (kq : Nat) (x22_4 : Bool), v22 = .bool x22_4 ∧ Aside0 (slotmeshlaw22_GraphIslands.j0 kq l0 t424 x22_4 = some r) ∧ Aside0 (kq ≤ k) ∧ Aside0 (Below w.heap.size w wc))
  case first =>
    have H := HC5.out
    clear HC5
    by_cases c7 : t425 = true
    · subst c7
      have H1 : (slotmeshlaw22_GraphIslands.j0 k l0 t424 (!t426)) = some r := by rw [if_pos rfl] at H; exact H
      clear H
      have H := H1
      clear H1
      have H' := Aside0.mk H
      clear H
      go_wp2
      repeat (go_quiet (fail); try go_wp2)
      go_meet
      case rel => exact ⟨_, (!t426), (by first | rfl | (simp; done) | (simp [*]; done)), H', ⟨by first | omega | exact Nat.le_refl _⟩, ⟨by repeat (first | (with_reducible first | exact HB.out | apply below_alloc | apply pw_below_drewN | apply below_drew1) | exact HB.out)⟩⟩
    · replace c7 := Bool.eq_false_iff.mpr c7
      subst c7
      have H1 : (slotmeshlaw22_GraphIslands.j0 k l0 t424 true) = some r := by rw [if_neg (show ¬ (false = true) by decide)] at H; exact H
      clear H
      have H := H1
      clear H1
      have H' := Aside0.mk H
      clear H
      go_wp2
      repeat (go_quiet (fail); try go_wp2)
      go_meet
      case rel => exact ⟨_, (true), (by first | rfl | (simp; done) | (simp [*]; done)), H', ⟨by first | omega | exact Nat.le_refl _⟩, ⟨by repeat (first | (with_reducible first | exact HB.out | apply below_alloc | apply pw_below_drewN | apply below_drew1) | exact HB.out)⟩⟩
  case rest =>
    clear HC5
    try clear p2
    try clear c7
    obtain ⟨kq, x22_4, rfl, HA, HJ4, HB⟩ := hcut
    cases kq with
    | zero => exact absurd HA.out (by simp [slotmeshlaw22_GraphIslands.j0])
    | succ kj4 =>
      have H := HA.out
      clear HA
      simp only [slotmeshlaw22_GraphIslands.j0] at H
      by_cases c8 : x22_4 = true
      · subst c8
        have H1 : (some t424) = some r := by rw [if_pos rfl] at H; exact H
        clear H
        have H := H1
        clear H1
        obtain rfl := Option.some.inj H
        go_wp2
        repeat (go_quiet (fail); try go_wp2)
        go_ret
        exact ⟨by first | rfl | (simp [errW_none, errW_some] <;> rfl) | (simp [*, errW_none, errW_some] <;> rfl), by repeat (first | (with_reducible first | exact HB.out | apply below_alloc | apply pw_below_drewN | apply below_drew1) | exact HB.out)⟩
      · replace c8 := Bool.eq_false_iff.mpr c8
        subst c8
        have H1 : ((graph_Islands.f kj4 l0).bind fun bt427 => (if bt427.2 = 0 then (slotmeshlaw22_GraphIslands.j1 kj4 l0 t424 bt427.1 ((bt427.1.length : Int) != (l0.length : Int))) else (slotmeshlaw22_GraphIslands.j1 kj4 l0 t424 bt427.1 true))) = some r := by rw [if_neg (show ¬ (false = true) by decide)] at H; exact H
        clear H
        have H := H1
        clear H1
        replace H := Option.bind_eq_some_iff.mp H
        obtain ⟨⟨t427, t428⟩, A90, H⟩ := H
        replace H : (if t428 = 0 then (slotmeshlaw22_GraphIslands.j1 kj4 l0 t424 t427 ((t427.length : Int) != (l0.length : Int))) else (slotmeshlaw22_GraphIslands.j1 kj4 l0 t424 t427 true)) = some r := H
        have A9 := Aside0.mk A90
        clear A90
        have HC10 := Aside0.mk H
        clear H
        go_upto_region 7 with (first | (go_at_call 20; (with_reducible refine (graph_Islands.calls kj4 _ _ l0 t427 t428 _ ?side1 ?side2 A9.out).mono ?_); (case side1 => repeat (first | exact (Kd.C_below HR0.out HB.out) | (with_reducible refine Kd.C_alloc ?_ _) | (with_reducible refine Kd.C_drewN ?_ _) | (with_reducible refine Kd.C_drew ?_))); (case side2 => exact HC0.out); rintro e w11 ⟨v429, rfl, ho0, hb⟩; have n0_ := Aside0.mk (Kd.R_lower ho0 (below_size (by repeat (first | (with_reducible first | exact HB.out | apply below_alloc | apply pw_below_drewN | apply below_drew1) | exact HB.out)))); have n1_ := Aside0.mk (below_step (by repeat (first | (with_reducible first | exact HB.out | apply below_alloc | apply pw_below_drewN | apply below_drew1) | exact HB.out)) hb); clear HB; have HO430 := n0_; have HB := n1_; clear n0_ n1_; (try clear hb); (try clear hb2); (try clear hk); (try clear hi); (try clear ho0)))
        repeat (go_quiet (first | (go_at_call 20; (with_reducible refine (graph_Islands.calls kj4 _ _ l0 t427 t428 _ ?side1 ?side2 A9.out).mono ?_); (case side1 => repeat (first | exact (Kd.C_below HR0.out HB.out) | (with_reducible refine Kd.C_alloc ?_ _) | (with_reducible refine Kd.C_drewN ?_ _) | (with_reducible refine Kd.C_drew ?_))); (case side2 => exact HC0.out); rintro e w11 ⟨v429, rfl, ho0, hb⟩; have n0_ := Aside0.mk (Kd.R_lower ho0 (below_size (by repeat (first | (with_reducible first | exact HB.out | apply below_alloc | apply pw_below_drewN | apply below_drew1) | exact HB.out)))); have n1_ := Aside0.mk (below_step (by repeat (first | (with_reducible first | exact HB.out | apply below_alloc | apply pw_below_drewN | apply below_drew1) | exact HB.out)) hb); clear HB; have HO430 := n0_; have HB := n1_; clear n0_ n1_; (try clear hb); (try clear hb2); (try clear hk); (try clear hi); (try clear ho0))); go_upto_region 7 with (first | (go_at_call 20; (with_reducible refine (graph_Islands.calls kj4 _ _ l0 t427 t428 _ ?side1 ?side2 A9.out).mono ?_); (case side1 => repeat (first | exact (Kd.C_below HR0.out HB.out) | (with_reducible refine Kd.C_alloc ?_ _) | (with_reducible refine Kd.C_drewN ?_ _) | (with_reducible refine Kd.C_drew ?_))); (case side2 => exact HC0.out); rintro e w11 ⟨v429, rfl, ho0, hb⟩; have n0_ := Aside0.mk (Kd.R_lower ho0 (below_size (by repeat (first | (with_reducible first | exact HB.out | apply below_alloc | apply pw_below_drewN | apply below_drew1) | exact HB.out)))); have n1_ := Aside0.mk (below_step (by repeat (first | (with_reducible first | exact HB.out | apply below_alloc | apply pw_below_drewN | apply below_drew1) | exact HB.out)) hb); clear HB; have HO430 := n0_; have HB := n1_; clear n0_ n1_; (try clear hb); (try clear hb2); (try clear hk); (try clear hi); (try clear ho0))))
        (try simp only [Act.put, List.setIfInBounds_toArray, List.set_cons_zero, List.set_cons_succ])
        go_cut [37] (fun v37 wc => ∃ (kq : Nat) (x37_9 : Bool), v37 = .bool x37_9 ∧ Aside0 (slotmeshlaw22_GraphIslands.j1 kq l0 t424 t427 x37_9 = some r) ∧ Aside0 (kq ≤ kj4) ∧ Aside0 (Kd.R (Kd.int .i64) 3 wc w.heap.size (fun _ => True) v429 t427) ∧ Aside0 (Below w.heap.size w wc))
        case first =>
          have H := HC10.out
          clear HC10
          by_cases c12 : t428 = 0
          · rw [if_pos c12] at H
            have c12b0 : (t428 == 0) = true := beq_iff_eq.mpr c12
            have c12b1 : (t428 != 0) = false := bne_eq_false_iff_eq.mpr c12
            clear c12
            (first | rw [c12b0] | (simp only [i64_w, i32_w]; rw [c12b0]) | skip)
            have H' := Aside0.mk H
            clear H
            obtain ⟨Ao13, co13, eo13⟩ := Kd.R_slice HO430.out
            subst eo13
            go_wp2
            repeat (go_quiet (fail); try go_wp2)
            go_meet
            case rel => exact ⟨_, (((t427.length : Int) != (l0.length : Int))), (by first | rfl | (simp; done) | (simp [*]; done)), H', ⟨by have := HJ4.out; first | omega | exact Nat.le_refl _⟩, ⟨by (with_reducible repeat (first | apply Kd.R_alloc | apply Kd.R_drewN | apply Kd.R_drew)); exact HO430.out⟩, ⟨by repeat (first | (with_reducible first | exact HB.out | apply below_alloc | apply pw_below_drewN | apply below_drew1) | exact HB.out)⟩⟩
          · rw [if_neg c12] at H
            have c12b0 : (t428 == 0) = false := beq_eq_false_iff_ne.mpr c12
            have c12b1 : (t428 != 0) = true := bne_iff_ne.mpr c12
            (first | rw [c12b0] | (simp only [i64_w, i32_w]; rw [c12b0]) | skip)
            have H' := Aside0.mk H
            clear H
            go_wp2
            repeat (go_quiet (fail); try go_wp2)
            go_meet
            case rel => exact ⟨_, (true), (by first | rfl | (simp; done) | (simp [*]; done)), H', ⟨by have := HJ4.out; first | omega | exact Nat.le_refl _⟩, ⟨by (with_reducible repeat (first | apply Kd.R_alloc | apply Kd.R_drewN | apply Kd.R_drew)); exact HO430.out⟩, ⟨by repeat (first | (with_reducible first | exact HB.out | apply below_alloc | apply pw_below_drewN | apply below_drew1) | exact HB.out)⟩⟩
        case rest =>
          clear HC10
          try clear c1
          try clear p2
          try clear c7
          try clear c8
          try clear c9
          try clear c12
          try clear c12b0
          try clear c12b1
          try clear p2
          obtain ⟨kq, x37_9, rfl, HA, HJ9, HO_6, HB⟩ := hcut
          cases kq with
          | zero => exact absurd HA.out (by simp [slotmeshlaw22_GraphIslands.j1])
          | succ kj9 =>
            have H := HA.out
            clear HA
            simp only [slotmeshlaw22_GraphIslands.j1] at H
            by_cases c14 : x37_9 = true
            · subst c14
              have H1 : (some false) = some r := by rw [if_pos rfl] at H; exact H
              clear H
              have H := H1
              clear H1
              obtain rfl := Option.some.inj H
              go_wp2
              repeat (go_quiet (fail); try go_wp2)
              go_ret
              exact ⟨by first | rfl | (simp [errW_none, errW_some] <;> rfl) | (simp [*, errW_none, errW_some] <;> rfl), by repeat (first | (with_reducible first | exact HB.out | apply below_alloc | apply pw_below_drewN | apply below_drew1) | exact HB.out)⟩
            · replace c14 := Bool.eq_false_iff.mpr c14
              subst c14
              have H1 : (slotmeshlaw22_GraphIslands.l0 kj9 l0 t424 t427 0) = some r := by rw [if_neg (show ¬ (false = true) by decide)] at H; exact H
              clear H
              have H := H1
              clear H1
              have H' := Aside0.mk H
              clear H
              go_wp2
              repeat (go_quiet (fail); try go_wp2)
              go_loopg [3, 8] kj9 (fun kq v3 v8 w' => ∃ (x3_3 : Bool) (x8_3 : Int), v3 = .bool x3_3 ∧ v8 = .int .i64 x8_3 ∧ Aside0 (slotmeshlaw22_GraphIslands.l0 kq l0 x3_3 t427 x8_3 = some r) ∧ Aside0 (kq ≤ kj9) ∧ Aside0 (Kd.R (Kd.int .i64) 3 w' w.heap.size (fun _ => True) v429 t427) ∧ Aside0 (Below w.heap.size w w'))
              case atStart => exact ⟨(t424), (0), (by first | rfl | (simp; done) | (simp [*]; done)), (by first | rfl | (simp; done) | (simp [*]; done)), H', ⟨Nat.le_refl _⟩, ⟨by (with_reducible repeat (first | apply Kd.R_alloc | apply Kd.R_drewN | apply Kd.R_drew)); exact HO_6.out⟩, ⟨by repeat (first | (with_reducible first | exact HB.out | apply below_alloc | apply pw_below_drewN | apply below_drew1) | exact HB.out)⟩⟩
              case round =>
                clear H'
                try clear c1
                try clear p2
                try clear c7
                try clear c8
                try clear c9
                try clear c12
                try clear c12b0
                try clear c12b1
                try clear c14
                try clear p2
                obtain ⟨x3_3, x8_3, rfl, rfl, HA, HK3, HO_6, HB⟩ := hrel
                cases gk with
                | zero => exact absurd HA.out (by simp [slotmeshlaw22_GraphIslands.l0])
                | succ k3 =>
                  have H := HA.out
                  clear HA
                  simp only [slotmeshlaw22_GraphIslands.l0] at H
                  by_cases c15 : x8_3 < (t427.length : Int)
                  · rw [if_pos c15] at H
                    have c15b0 : decide (x8_3 < (t427.length : Int)) = true := decide_eq_true c15
                    clear c15
                    replace H := Option.bind_eq_some_iff.mp H
                    obtain ⟨⟨t431, t432⟩, A160, H⟩ := H
                    replace H : (if t432 = 0 then (if (t431.length : Int) = (t427.length : Int) then (if 0 ≤ x8_3 then (if (rd t427 x8_3) < 0 then (slotmeshlaw22_GraphIslands.j3 k3 l0 x3_3 t427 x8_3 t431 true) else (if (rd t427 x8_3) > x8_3 then (slotmeshlaw22_GraphIslands.j3 k3 l0 x3_3 t427 x8_3 t431 true) else (if 0 ≤ (rd t427 x8_3) then (if (rd t427 x8_3) < (t427.length : Int) then (slotmeshlaw22_GraphIslands.j3 k3 l0 x3_3 t427 x8_3 t431 ((rd t427 (rd t427 x8_3)) != (rd t427 x8_3))) else (none)) else (none)))) else (none)) else (slotmeshlaw22_GraphIslands.j3 k3 l0 x3_3 t427 x8_3 t431 true)) else (slotmeshlaw22_GraphIslands.j3 k3 l0 x3_3 t427 x8_3 t431 true)) = some r := H
                    have A16 := Aside0.mk A160
                    clear A160
                    have HC17 := Aside0.mk H
                    clear H
                    obtain ⟨Ao18, co18, eo18⟩ := Kd.R_slice HO_6.out
                    subst eo18
                    go_upto_region 13 with (first | (go_at_call 17; (with_reducible refine (graph_Depths.calls k3 _ _ l0 x8_3 t431 t432 _ ?side1 ?side2 A16.out).mono ?_); (case side1 => repeat (first | exact (Kd.C_below HR0.out HB.out) | (with_reducible refine Kd.C_alloc ?_ _) | (with_reducible refine Kd.C_drewN ?_ _) | (with_reducible refine Kd.C_drew ?_))); (case side2 => exact HC0.out); rintro e w19 ⟨v433, rfl, ho0, hb⟩; have n0_ := Aside0.mk (Kd.R_elder' (by (with_reducible repeat (first | apply Kd.R_alloc | apply Kd.R_drewN | apply Kd.R_drew)); exact HO_6.out) (Kd.R_base ho0) hb); have n1_ := Aside0.mk (Kd.R_lower (Kd.R_new' ho0 (Kd.R_lt (by (with_reducible repeat (first | apply Kd.R_alloc | apply Kd.R_drewN | apply Kd.R_drew)); exact HO_6.out))) (below_size (by repeat (first | (with_reducible first | exact HB.out | apply below_alloc | apply pw_below_drewN | apply below_drew1) | exact HB.out)))); have n2_ := Aside0.mk (below_step (by repeat (first | (with_reducible first | exact HB.out | apply below_alloc | apply pw_below_drewN | apply below_drew1) | exact HB.out)) hb); clear HO_6; clear HB; have HO_6 := n0_; have HO434 := n1_; have HB := n2_; clear n0_ n1_ n2_; (try clear hb); (try clear hb2); (try clear hk); (try clear hi); (try clear ho0)))
                    repeat (go_quiet (first | (go_at_call 17; (with_reducible refine (graph_Depths.calls k3 _ _ l0 x8_3 t431 t432 _ ?side1 ?side2 A16.out).mono ?_); (case side1 => repeat (first | exact (Kd.C_below HR0.out HB.out) | (with_reducible refine Kd.C_alloc ?_ _) | (with_reducible refine Kd.C_drewN ?_ _) | (with_reducible refine Kd.C_drew ?_))); (case side2 => exact HC0.out); rintro e w19 ⟨v433, rfl, ho0, hb⟩; have n0_ := Aside0.mk (Kd.R_elder' (by (with_reducible repeat (first | apply Kd.R_alloc | apply Kd.R_drewN | apply Kd.R_drew)); exact HO_6.out) (Kd.R_base ho0) hb); have n1_ := Aside0.mk (Kd.R_lower (Kd.R_new' ho0 (Kd.R_lt (by (with_reducible repeat (first | apply Kd.R_alloc | apply Kd.R_drewN | apply Kd.R_drew)); exact HO_6.out))) (below_size (by repeat (first | (with_reducible first | exact HB.out | apply below_alloc | apply pw_below_drewN | apply below_drew1) | exact HB.out)))); have n2_ := Aside0.mk (below_step (by repeat (first | (with_reducible first | exact HB.out | apply below_alloc | apply pw_below_drewN | apply below_drew1) | exact HB.out)) hb); clear HO_6; clear HB; have HO_6 := n0_; have HO434 := n1_; have HB := n2_; clear n0_ n1_ n2_; (try clear hb); (try clear hb2); (try clear hk); (try clear hi); (try clear ho0))); go_upto_region 13 with (first | (go_at_call 17; (with_reducible refine (graph_Depths.calls k3 _ _ l0 x8_3 t431 t432 _ ?side1 ?side2 A16.out).mono ?_); (case side1 => repeat (first | exact (Kd.C_below HR0.out HB.out) | (with_reducible refine Kd.C_alloc ?_ _) | (with_reducible refine Kd.C_drewN ?_ _) | (with_reducible refine Kd.C_drew ?_))); (case side2 => exact HC0.out); rintro e w19 ⟨v433, rfl, ho0, hb⟩; have n0_ := Aside0.mk (Kd.R_elder' (by (with_reducible repeat (first | apply Kd.R_alloc | apply Kd.R_drewN | apply Kd.R_drew)); exact HO_6.out) (Kd.R_base ho0) hb); have n1_ := Aside0.mk (Kd.R_lower (Kd.R_new' ho0 (Kd.R_lt (by (with_reducible repeat (first | apply Kd.R_alloc | apply Kd.R_drewN | apply Kd.R_drew)); exact HO_6.out))) (below_size (by repeat (first | (with_reducible first | exact HB.out | apply below_alloc | apply pw_below_drewN | apply below_drew1) | exact HB.out)))); have n2_ := Aside0.mk (below_step (by repeat (first | (with_reducible first | exact HB.out | apply below_alloc | apply pw_below_drewN | apply below_drew1) | exact HB.out)) hb); clear HO_6; clear HB; have HO_6 := n0_; have HO434 := n1_; have HB := n2_; clear n0_ n1_ n2_; (try clear hb); (try clear hb2); (try clear hk); (try clear hi); (try clear ho0))))
                    (try simp only [Act.put, List.setIfInBounds_toArray, List.set_cons_zero, List.set_cons_succ])
                    go_cut [87] (fun v87 wc => ∃ (kq : Nat) (x87_16 : Bool), v87 = .bool x87_16 ∧ Aside0 (slotmeshlaw22_GraphIslands.j3 kq l0 x3_3 t427 x8_3 t431 x87_16 = some r) ∧ Aside0 (kq ≤ k3) ∧ Aside0 (Kd.R (Kd.int .i64) 3 wc w.heap.size (fun k_ => some k_ ≠ (v433 : Value).ownBlock) (.slice Ao18 t427.length co18) t427) ∧ Aside0 (Kd.R (Kd.int .i64) 3 wc w.heap.size (fun k_ => some k_ ≠ ((.slice Ao18 t427.length co18) : Value).ownBlock) v433 t431) ∧ Aside0 (Below w.heap.size w wc))
                    case first =>
                      have H := HC17.out
                      clear HC17
                      by_cases c20 : t432 = 0
                      · rw [if_pos c20] at H
                        have c20b0 : (t432 == 0) = true := beq_iff_eq.mpr c20
                        have c20b1 : (t432 != 0) = false := bne_eq_false_iff_eq.mpr c20
                        clear c20
                        (first | rw [c20b0] | (simp only [i64_w, i32_w]; rw [c20b0]) | skip)
                        by_cases c21 : (t431.length : Int) = (t427.length : Int)
                        · rw [if_pos c21] at H
                          have c21b0 : ((t431.length : Int) == (t427.length : Int)) = true := beq_iff_eq.mpr c21
                          have c21b1 : ((t431.length : Int) != (t427.length : Int)) = false := bne_eq_false_iff_eq.mpr c21
                          have c21b2 : (t431.length == t427.length) = true := by first | simpa using c21 | (simp at c21 ⊢; omega)
                          clear c21
                          by_cases c22 : 0 ≤ x8_3
                          · rw [if_pos c22] at H
                            have c22b0 : decide (0 ≤ x8_3) = true := decide_eq_true c22
                            clear c22
                            by_cases c23 : (rd t427 x8_3) < 0
                            · rw [if_pos c23] at H
                              have c23b0 : decide ((rd t427 x8_3) < 0) = true := decide_eq_true c23
                              clear c23
                              have H' := Aside0.mk H
                              clear H
                              obtain ⟨Ao24, co24, eo24⟩ := Kd.R_slice HO434.out
                              subst eo24
                              have p435 : 0 ≤ (x8_3 : Int) := of_decide_eq_true (by first | (with_reducible assumption) | assumption)
                              have q435 : x8_3 < (t427.length : Int) := of_decide_eq_true (by first | (with_reducible assumption) | assumption)
                              obtain ⟨ad435, e435, hx435_0⟩ := Kd.at_int (Kd.R_reads' HO_6.out).2.2 x8_3 p435 q435
                              cases e435
                              replace p435 := eq_true p435
                              replace q435 := eq_true q435
                              go_wp2
                              repeat (go_quiet (fail); try go_wp2)
                              go_meet
                              case rel => exact ⟨_, (true), (by first | rfl | (simp; done) | (simp [*]; done)), H', ⟨by have := HJ4.out; have := HJ9.out; have := HK3.out; first | omega | exact Nat.le_refl _⟩, ⟨by (with_reducible repeat (first | apply Kd.R_alloc | apply Kd.R_drewN | apply Kd.R_drew)); exact Kd.R_mono HO_6.out (fun _ hk => hk.2)⟩, ⟨by (with_reducible repeat (first | apply Kd.R_alloc | apply Kd.R_drewN | apply Kd.R_drew)); exact Kd.R_mono HO434.out (fun _ hk => hk.2)⟩, ⟨by repeat (first | (with_reducible first | exact HB.out | apply below_alloc | apply pw_below_drewN | apply below_drew1) | exact HB.out)⟩⟩
                            · rw [if_neg c23] at H
                              have c23b0 : decide ((rd t427 x8_3) < 0) = false := decide_eq_false c23
                              clear c23
                              by_cases c25 : (rd t427 x8_3) > x8_3
                              · rw [if_pos c25] at H
                                have c25b0 : decide (x8_3 < (rd t427 x8_3)) = true := decide_eq_true c25
                                clear c25
                                have H' := Aside0.mk H
                                clear H
                                obtain ⟨Ao26, co26, eo26⟩ := Kd.R_slice HO434.out
                                subst eo26
                                have p435 : 0 ≤ (x8_3 : Int) := of_decide_eq_true (by first | (with_reducible assumption) | assumption)
                                have q435 : x8_3 < (t427.length : Int) := of_decide_eq_true (by first | (with_reducible assumption) | assumption)
                                obtain ⟨ad435, e435, hx435_0⟩ := Kd.at_int (Kd.R_reads' HO_6.out).2.2 x8_3 p435 q435
                                cases e435
                                replace p435 := eq_true p435
                                replace q435 := eq_true q435
                                have p436 : 0 ≤ (x8_3 : Int) := of_decide_eq_true (by first | (with_reducible assumption) | assumption)
                                have q436 : x8_3 < (t427.length : Int) := of_decide_eq_true (by first | (with_reducible assumption) | assumption)
                                obtain ⟨ad436, e436, hx436_0⟩ := Kd.at_int (Kd.R_reads' HO_6.out).2.2 x8_3 p436 q436
                                obtain rfl : ad435 = ad436 := (by injection e436)
                                replace p436 := eq_true p436
                                replace q436 := eq_true q436
                                go_wp2
                                repeat (go_quiet (fail); try go_wp2)
                                go_meet
                                case rel => exact ⟨_, (true), (by first | rfl | (simp; done) | (simp [*]; done)), H', ⟨by have := HJ4.out; have := HJ9.out; have := HK3.out; first | omega | exact Nat.le_refl _⟩, ⟨by (with_reducible repeat (first | apply Kd.R_alloc | apply Kd.R_drewN | apply Kd.R_drew)); exact Kd.R_mono HO_6.out (fun _ hk => hk.2)⟩, ⟨by (with_reducible repeat (first | apply Kd.R_alloc | apply Kd.R_drewN | apply Kd.R_drew)); exact Kd.R_mono HO434.out (fun _ hk => hk.2)⟩, ⟨by repeat (first | (with_reducible first | exact HB.out | apply below_alloc | apply pw_below_drewN | apply below_drew1) | exact HB.out)⟩⟩
                              · rw [if_neg c25] at H
                                have c25b0 : decide (x8_3 < (rd t427 x8_3)) = false := decide_eq_false c25
                                clear c25
                                by_cases c27 : 0 ≤ (rd t427 x8_3)
                                · rw [if_pos c27] at H
                                  have c27b0 : decide (0 ≤ (rd t427 x8_3)) = true := decide_eq_true c27
                                  clear c27
                                  by_cases c28 : (rd t427 x8_3) < (t427.length : Int)
                                  · rw [if_pos c28] at H
                                    have c28b0 : decide ((rd t427 x8_3) < (t427.length : Int)) = true := decide_eq_true c28
                                    clear c28
                                    have H' := Aside0.mk H
                                    clear H
                                    obtain ⟨Ao29, co29, eo29⟩ := Kd.R_slice HO434.out
                                    subst eo29
                                    have p435 : 0 ≤ (x8_3 : Int) := of_decide_eq_true (by first | (with_reducible assumption) | assumption)
                                    have q435 : x8_3 < (t427.length : Int) := of_decide_eq_true (by first | (with_reducible assumption) | assumption)
                                    obtain ⟨ad435, e435, hx435_0⟩ := Kd.at_int (Kd.R_reads' HO_6.out).2.2 x8_3 p435 q435
                                    cases e435
                                    replace p435 := eq_true p435
                                    replace q435 := eq_true q435
                                    have p436 : 0 ≤ (x8_3 : Int) := of_decide_eq_true (by first | (with_reducible assumption) | assumption)
                                    have q436 : x8_3 < (t427.length : Int) := of_decide_eq_true (by first | (with_reducible assumption) | assumption)
                                    obtain ⟨ad436, e436, hx436_0⟩ := Kd.at_int (Kd.R_reads' HO_6.out).2.2 x8_3 p436 q436
                                    obtain rfl : ad435 = ad436 := (by injection e436)
                                    replace p436 := eq_true p436
                                    replace q436 := eq_true q436
                                    have p437 : 0 ≤ (x8_3 : Int) := of_decide_eq_true (by first | (with_reducible assumption) | assumption)
                                    have q437 : x8_3 < (t427.length : Int) := of_decide_eq_true (by first | (with_reducible assumption) | assumption)
                                    obtain ⟨ad437, e437, hx437_0⟩ := Kd.at_int (Kd.R_reads' HO_6.out).2.2 x8_3 p437 q437
                                    obtain rfl : ad435 = ad437 := (by injection e437)
                                    replace p437 := eq_true p437
                                    replace q437 := eq_true q437
                                    have p438 : 0 ≤ ((rd t427 x8_3) : Int) := of_decide_eq_true (by first | (with_reducible assumption) | assumption)
                                    have q438 : (rd t427 x8_3) < (t427.length : Int) := of_decide_eq_true (by first | (with_reducible assumption) | assumption)
                                    obtain ⟨ad438, e438, hx438_0⟩ := Kd.at_int (Kd.R_reads' HO_6.out).2.2 (rd t427 x8_3) p438 q438
                                    obtain rfl : ad435 = ad438 := (by injection e438)
                                    replace p438 := eq_true p438
                                    replace q438 := eq_true q438
                                    have p439 : 0 ≤ (x8_3 : Int) := of_decide_eq_true (by first | (with_reducible assumption) | assumption)
                                    have q439 : x8_3 < (t427.length : Int) := of_decide_eq_true (by first | (with_reducible assumption) | assumption)
                                    obtain ⟨ad439, e439, hx439_0⟩ := Kd.at_int (Kd.R_reads' HO_6.out).2.2 x8_3 p439 q439
                                    obtain rfl : ad435 = ad439 := (by injection e439)
                                    replace p439 := eq_true p439
                                    replace q439 := eq_true q439
                                    go_wp2
                                    repeat (go_quiet (fail); try go_wp2)
                                    go_meet
                                    case rel => exact ⟨_, (((rd t427 (rd t427 x8_3)) != (rd t427 x8_3))), (by first | rfl | (simp; done) | (simp [*]; done)), H', ⟨by have := HJ4.out; have := HJ9.out; have := HK3.out; first | omega | exact Nat.le_refl _⟩, ⟨by (with_reducible repeat (first | apply Kd.R_alloc | apply Kd.R_drewN | apply Kd.R_drew)); exact Kd.R_mono HO_6.out (fun _ hk => hk.2)⟩, ⟨by (with_reducible repeat (first | apply Kd.R_alloc | apply Kd.R_drewN | apply Kd.R_drew)); exact Kd.R_mono HO434.out (fun _ hk => hk.2)⟩, ⟨by repeat (first | (with_reducible first | exact HB.out | apply below_alloc | apply pw_below_drewN | apply below_drew1) | exact HB.out)⟩⟩
                                  · rw [if_neg c28] at H
                                    exact absurd H (by simp)
                                · rw [if_neg c27] at H
                                  exact absurd H (by simp)
                          · rw [if_neg c22] at H
                            exact absurd H (by simp)
                        · rw [if_neg c21] at H
                          have c21b0 : ((t431.length : Int) == (t427.length : Int)) = false := beq_eq_false_iff_ne.mpr c21
                          have c21b1 : ((t431.length : Int) != (t427.length : Int)) = true := bne_iff_ne.mpr c21
                          have c21b2 : (t431.length == t427.length) = false := by first | simpa using c21 | (simp at c21 ⊢; omega)
                          have H' := Aside0.mk H
                          clear H
                          obtain ⟨Ao30, co30, eo30⟩ := Kd.R_slice HO434.out
                          subst eo30
                          go_wp2
                          repeat (go_quiet (fail); try go_wp2)
                          go_meet
                          case rel => exact ⟨_, (true), (by first | rfl | (simp; done) | (simp [*]; done)), H', ⟨by have := HJ4.out; have := HJ9.out; have := HK3.out; first | omega | exact Nat.le_refl _⟩, ⟨by (with_reducible repeat (first | apply Kd.R_alloc | apply Kd.R_drewN | apply Kd.R_drew)); exact Kd.R_mono HO_6.out (fun _ hk => hk.2)⟩, ⟨by (with_reducible repeat (first | apply Kd.R_alloc | apply Kd.R_drewN | apply Kd.R_drew)); exact Kd.R_mono HO434.out (fun _ hk => hk.2)⟩, ⟨by repeat (first | (with_reducible first | exact HB.out | apply below_alloc | apply pw_below_drewN | apply below_drew1) | exact HB.out)⟩⟩
                      · rw [if_neg c20] at H
                        have c20b0 : (t432 == 0) = false := beq_eq_false_iff_ne.mpr c20
                        have c20b1 : (t432 != 0) = true := bne_iff_ne.mpr c20
                        (first | rw [c20b0] | (simp only [i64_w, i32_w]; rw [c20b0]) | skip)
                        have H' := Aside0.mk H
                        clear H
                        go_wp2
                        repeat (go_quiet (fail); try go_wp2)
                        go_meet
                        case rel => exact ⟨_, (true), (by first | rfl | (simp; done) | (simp [*]; done)), H', ⟨by have := HJ4.out; have := HJ9.out; have := HK3.out; first | omega | exact Nat.le_refl _⟩, ⟨by (with_reducible repeat (first | apply Kd.R_alloc | apply Kd.R_drewN | apply Kd.R_drew)); exact Kd.R_mono HO_6.out (fun _ hk => hk.2)⟩, ⟨by (with_reducible repeat (first | apply Kd.R_alloc | apply Kd.R_drewN | apply Kd.R_drew)); exact Kd.R_mono HO434.out (fun _ hk => hk.2)⟩, ⟨by repeat (first | (with_reducible first | exact HB.out | apply below_alloc | apply pw_below_drewN | apply below_drew1) | exact HB.out)⟩⟩
                    case rest =>
                      clear HC17
                      try clear c1
                      try clear c2
                      try clear p2
                      try clear p4
                      try clear q4
                      try clear hx4
                      try clear c7
                      try clear c8
                      try clear c9
                      try clear c12
                      try clear c12b0
                      try clear c12b1
                      try clear c14
                      try clear c15
                      try clear c15b0
                      try clear c20
                      try clear c20b0
                      try clear c20b1
                      try clear c21
                      try clear c21b0
                      try clear c21b1
                      try clear c21b2
                      try clear c22
                      try clear c22b0
                      try clear c23
                      try clear c23b0
                      try clear c25
                      try clear c25b0
                      try clear c27
                      try clear c27b0
                      try clear c28
                      try clear c28b0
                      try clear hx435_0
                      try clear hx436_0
                      try clear hx437_0
                      try clear hx438_0
                      try clear hx439_0
                      try clear p2
                      try clear p435
                      try clear p436
                      try clear p437
                      try clear p438
                      try clear p439
                      try clear q435
                      try clear q436
                      try clear q437
                      try clear q438
                      try clear q439
                      obtain ⟨kq, x87_16, rfl, HA, HJ16, HO_6, HO_9, HB⟩ := hcut
                      cases kq with
                      | zero => exact absurd HA.out (by simp [slotmeshlaw22_GraphIslands.j3])
                      | succ kj16 =>
                        have H := HA.out
                        clear HA
                        simp only [slotmeshlaw22_GraphIslands.j3] at H
                        by_cases c31 : x87_16 = true
                        · subst c31
                          have H1 : (some false) = some r := by rw [if_pos rfl] at H; exact H
                          clear H
                          have H := H1
                          clear H1
                          obtain rfl := Option.some.inj H
                          go_wp2
                          repeat (go_quiet (fail); try go_wp2)
                          go_ret
                          exact ⟨by first | rfl | (simp [errW_none, errW_some] <;> rfl) | (simp [*, errW_none, errW_some] <;> rfl), by repeat (first | (with_reducible first | exact HB.out | apply below_alloc | apply pw_below_drewN | apply below_drew1) | exact HB.out)⟩
                        · replace c31 := Bool.eq_false_iff.mpr c31
                          subst c31
                          have H1 : (slotmeshlaw22_GraphIslands.l1 kj16 l0 x3_3 t427 x8_3 t431 0) = some r := by rw [if_neg (show ¬ (false = true) by decide)] at H; exact H
                          clear H
                          have H := H1
                          clear H1
                          have H' := Aside0.mk H
                          clear H
                          go_wp2
                          repeat (go_quiet (fail); try go_wp2)
                          go_loopg [3, 11] kj16 (fun kq v3 v11 w' => ∃ (x3_5 : Bool) (x11_5 : Int), v3 = .bool x3_5 ∧ v11 = .int .i64 x11_5 ∧ Aside0 (slotmeshlaw22_GraphIslands.l1 kq l0 x3_5 t427 x8_3 t431 x11_5 = some r) ∧ Aside0 (kq ≤ kj16) ∧ Aside0 (Kd.R (Kd.int .i64) 3 w' w.heap.size (fun k_ => some k_ ≠ (v433 : Value).ownBlock) (.slice Ao18 t427.length co18) t427) ∧ Aside0 (Kd.R (Kd.int .i64) 3 w' w.heap.size (fun k_ => some k_ ≠ ((.slice Ao18 t427.length co18) : Value).ownBlock) v433 t431) ∧ Aside0 (Below w.heap.size w w'))
                          case atStart => exact ⟨(x3_3), (0), (by first | rfl | (simp; done) | (simp [*]; done)), (by first | rfl | (simp; done) | (simp [*]; done)), H', ⟨Nat.le_refl _⟩, ⟨by (with_reducible repeat (first | apply Kd.R_alloc | apply Kd.R_drewN | apply Kd.R_drew)); exact HO_6.out⟩, ⟨by (with_reducible repeat (first | apply Kd.R_alloc | apply Kd.R_drewN | apply Kd.R_drew)); exact HO_9.out⟩, ⟨by repeat (first | (with_reducible first | exact HB.out | apply below_alloc | apply pw_below_drewN | apply below_drew1) | exact HB.out)⟩⟩
                          case round =>
                            clear H'
                            try clear c1
                            try clear c2
                            try clear p2
                            try clear c3
                            try clear p4
                            try clear q4
                            try clear hx4
                            try clear c7
                            try clear c8
                            try clear c9
                            try clear c12
                            try clear c12b0
                            try clear c12b1
                            try clear c14
                            try clear c15
                            try clear c15b0
                            try clear c20
                            try clear c20b0
                            try clear c20b1
                            try clear c21
                            try clear c21b0
                            try clear c21b1
                            try clear c21b2
                            try clear c22
                            try clear c22b0
                            try clear c23
                            try clear c23b0
                            try clear c25
                            try clear c25b0
                            try clear c27
                            try clear c27b0
                            try clear c28
                            try clear c28b0
                            try clear c31
                            try clear hx435_0
                            try clear hx436_0
                            try clear hx437_0
                            try clear hx438_0
                            try clear hx439_0
                            try clear p2
                            try clear p4
                            try clear p435
                            try clear p436
                            try clear p437
                            try clear p438
                            try clear p439
                            try clear q4
                            try clear q435
                            try clear q436
                            try clear q437
                            try clear q438
                            try clear q439
                            obtain ⟨x3_5, x11_5, rfl, rfl, HA, HK5, HO_6, HO_9, HB⟩ := hrel
                            cases gk with
                            | zero => exact absurd HA.out (by simp [slotmeshlaw22_GraphIslands.l1])
                            | succ k5 =>
                              have H := HA.out
                              clear HA
                              simp only [slotmeshlaw22_GraphIslands.l1] at H
                              by_cases c32 : x11_5 < (t427.length : Int)
                              · rw [if_pos c32] at H
                                have c32b0 : decide (x11_5 < (t427.length : Int)) = true := decide_eq_true c32
                                clear c32
                                by_cases c33 : x3_5 = true
                                · subst c33
                                  have H1 : (if 0 ≤ x8_3 then (if x8_3 < (t427.length : Int) then (if 0 ≤ x11_5 then (if x11_5 < (t431.length : Int) then (slotmeshlaw22_GraphIslands.l1 k5 l0 (((rd t427 x8_3) == (rd t427 x11_5)) == (decide ((rd t431 x11_5) ≥ 0))) t427 x8_3 t431 (wrap64 (x11_5 + 1))) else (none)) else (none)) else (none)) else (none)) = some r := by rw [if_pos rfl] at H; exact H
                                  clear H
                                  have H := H1
                                  clear H1
                                  by_cases c34 : 0 ≤ x8_3
                                  · rw [if_pos c34] at H
                                    have c34b0 : decide (0 ≤ x8_3) = true := decide_eq_true c34
                                    clear c34
                                    by_cases c35 : x8_3 < (t427.length : Int)
                                    · rw [if_pos c35] at H
                                      have c35b0 : decide (x8_3 < (t427.length : Int)) = true := decide_eq_true c35
                                      clear c35
                                      by_cases c36 : 0 ≤ x11_5
                                      · rw [if_pos c36] at H
                                        have c36b0 : decide (0 ≤ x11_5) = true := decide_eq_true c36
                                        clear c36
                                        by_cases c37 : x11_5 < (t431.length : Int)
                                        · rw [if_pos c37] at H
                                          have c37b0 : decide (x11_5 < (t431.length : Int)) = true := decide_eq_true c37
                                          clear c37
                                          have H' := Aside0.mk H
                                          clear H
                                          have p440 : 0 ≤ (x8_3 : Int) := of_decide_eq_true (by first | (with_reducible assumption) | assumption)
                                          have q440 : x8_3 < (t427.length : Int) := of_decide_eq_true (by first | (with_reducible assumption) | assumption)
                                          obtain ⟨ad440, e440, hx440_0⟩ := Kd.at_int (Kd.R_reads' HO_6.out).2.2 x8_3 p440 q440
                                          cases e440
                                          replace p440 := eq_true p440
                                          replace q440 := eq_true q440
                                          have p441 : 0 ≤ (x11_5 : Int) := of_decide_eq_true (by first | (with_reducible assumption) | assumption)
                                          have q441 : x11_5 < (t427.length : Int) := of_decide_eq_true (by first | (with_reducible assumption) | assumption)
                                          obtain ⟨ad441, e441, hx441_0⟩ := Kd.at_int (Kd.R_reads' HO_6.out).2.2 x11_5 p441 q441
                                          obtain rfl : ad440 = ad441 := (by injection e441)
                                          replace p441 := eq_true p441
                                          replace q441 := eq_true q441
                                          obtain ⟨Ao38, co38, eo38⟩ := Kd.R_slice HO_9.out
                                          subst eo38
                                          have p442 : 0 ≤ (x11_5 : Int) := of_decide_eq_true (by first | (with_reducible assumption) | assumption)
                                          have q442 : x11_5 < (t431.length : Int) := of_decide_eq_true (by first | (with_reducible assumption) | assumption)
                                          obtain ⟨ad442, e442, hx442_0⟩ := Kd.at_int (Kd.R_reads' HO_9.out).2.2 x11_5 p442 q442
                                          cases e442
                                          replace p442 := eq_true p442
                                          replace q442 := eq_true q442
                                          go_wp2
                                          repeat (go_quiet (fail); try go_wp2)
                                          go_roundg k5
                                          case measure => have := HJ4.out; have := HJ9.out; have := HK3.out; have := HJ16.out; have := HK5.out; omega
                                          case rel => exact ⟨((((rd t427 x8_3) == (rd t427 x11_5)) == (decide ((rd t431 x11_5) ≥ 0)))), (wrap64 (x11_5 + 1)), (by first | rfl | (simp; done) | (simp [*]; done)), (by first | rfl | (simp; done) | (simp [*]; done)), H', ⟨by have := HJ4.out; have := HJ9.out; have := HK3.out; have := HJ16.out; have := HK5.out; omega⟩, ⟨by (with_reducible repeat (first | apply Kd.R_alloc | apply Kd.R_drewN | apply Kd.R_drew)); exact HO_6.out⟩, ⟨by (with_reducible repeat (first | apply Kd.R_alloc | apply Kd.R_drewN | apply Kd.R_drew)); exact HO_9.out⟩, ⟨by repeat (first | (with_reducible first | exact HB.out | apply below_alloc | apply pw_below_drewN | apply below_drew1) | exact HB.out)⟩⟩
                                        · rw [if_neg c37] at H
                                          exact absurd H (by simp)
                                      · rw [if_neg c36] at H
                                        exact absurd H (by simp)
                                    · rw [if_neg c35] at H
                                      exact absurd H (by simp)
                                  · rw [if_neg c34] at H
                                    exact absurd H (by simp)
                                · replace c33 := Bool.eq_false_iff.mpr c33
                                  subst c33
                                  have H1 : (slotmeshlaw22_GraphIslands.l1 k5 l0 false t427 x8_3 t431 (wrap64 (x11_5 + 1))) = some r := by rw [if_neg (show ¬ (false = true) by decide)] at H; exact H
                                  clear H
                                  have H := H1
                                  clear H1
                                  have H' := Aside0.mk H
                                  clear H
                                  go_wp2
                                  repeat (go_quiet (fail); try go_wp2)
                                  go_roundg k5
                                  case measure => have := HJ4.out; have := HJ9.out; have := HK3.out; have := HJ16.out; have := HK5.out; omega
                                  case rel => exact ⟨(false), (wrap64 (x11_5 + 1)), (by first | rfl | (simp; done) | (simp [*]; done)), (by first | rfl | (simp; done) | (simp [*]; done)), H', ⟨by have := HJ4.out; have := HJ9.out; have := HK3.out; have := HJ16.out; have := HK5.out; omega⟩, ⟨by (with_reducible repeat (first | apply Kd.R_alloc | apply Kd.R_drewN | apply Kd.R_drew)); exact HO_6.out⟩, ⟨by (with_reducible repeat (first | apply Kd.R_alloc | apply Kd.R_drewN | apply Kd.R_drew)); exact HO_9.out⟩, ⟨by repeat (first | (with_reducible first | exact HB.out | apply below_alloc | apply pw_below_drewN | apply below_drew1) | exact HB.out)⟩⟩
                              · rw [if_neg c32] at H
                                have c32b0 : decide (x11_5 < (t427.length : Int)) = false := decide_eq_false c32
                                clear c32
                                have H' := Aside0.mk H
                                clear H
                                go_wp2
                                repeat (go_quiet (fail); try go_wp2)
                                go_roundg k5
                                case measure => have := HJ4.out; have := HJ9.out; have := HK3.out; have := HJ16.out; have := HK5.out; omega
                                case rel => exact ⟨(x3_5), (wrap64 (x8_3 + 1)), (by first | rfl | (simp; done) | (simp [*]; done)), (by first | rfl | (simp; done) | (simp [*]; done)), H', ⟨by have := HJ4.out; have := HJ9.out; have := HK3.out; have := HJ16.out; have := HK5.out; omega⟩, ⟨by (with_reducible repeat (first | apply Kd.R_alloc | apply Kd.R_drewN | apply Kd.R_drew)); exact Kd.R_mono HO_6.out (fun _ hk => trivial)⟩, ⟨by repeat (first | (with_reducible first | exact HB.out | apply below_alloc | apply pw_below_drewN | apply below_drew1) | exact HB.out)⟩⟩
                  · rw [if_neg c15] at H
                    have c15b0 : decide (x8_3 < (t427.length : Int)) = false := decide_eq_false c15
                    clear c15
                    obtain rfl := Option.some.inj H
                    obtain ⟨Ao39, co39, eo39⟩ := Kd.R_slice HO_6.out
                    subst eo39
                    go_wp2
                    repeat (go_quiet (fail); try go_wp2)
                    go_ret
                    exact ⟨by first | rfl | (simp [errW_none, errW_some] <;> rfl) | (simp [*, errW_none, errW_some] <;> rfl), by repeat (first | (with_reducible first | exact HB.out | apply below_alloc | apply pw_below_drewN | apply below_drew1) | exact HB.out)⟩


end

end Go.Proofs.Ytppkmmifjfcfiaa.P
