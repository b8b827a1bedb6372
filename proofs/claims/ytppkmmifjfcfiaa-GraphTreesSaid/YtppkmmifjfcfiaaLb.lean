-- LAID BY PROGRAM out of the translation's own text (no part of it is trusted: Lean checks every line)
import Derived.Test.YtppkmmifjfcfiaaH
import Derived.Test.YtppkmmifjfcfiaaRv
namespace Go.Proofs.Ytppkmmifjfcfiaa.P
open Go.RowKit Go.Proofs.YtppkmmifjfcfiaaW.PrintWords Go.Proofs.YtppkmmifjfcfiaaW.PrintLast Go.Proofs.YtppkmmifjfcfiaaW.PrintMore
attribute [local go_sem] max2_int min2_int max_two min_two max_three min_three max_four min_four   -- for this text's walks alone
set_option linter.unusedVariables false
set_option linter.unusedSimpArgs false
noncomputable section

/-! ### slotmeshlaw22_GraphTrees: function 4 -/
mutual
def slotmeshlaw22_GraphTrees.j0 : Nat → List (List Bool) → Int → List Int → Bool → Bool → Option (Bool)
  | 0, _, _, _, _, _ => none
  | k + 1, x0, x1, x2, x7, x45 => if x45 = true then (some x7) else ((graph_Depths.f k x0 x1).bind fun bt241 => (if bt241.2 = 0 then (slotmeshlaw22_GraphTrees.j1 k x0 x1 x2 x7 bt241.1 ((bt241.1.length : Int) != (x0.length : Int))) else (slotmeshlaw22_GraphTrees.j1 k x0 x1 x2 x7 bt241.1 true)))
def slotmeshlaw22_GraphTrees.j1 : Nat → List (List Bool) → Int → List Int → Bool → List Int → Bool → Option (Bool)
  | 0, _, _, _, _, _, _ => none
  | k + 1, x0, x1, x2, x7, x10, x61 => if x61 = true then (some false) else (slotmeshlaw22_GraphTrees.l0 k x0 x1 x2 x7 x10 ([] : List Int) 0)
def slotmeshlaw22_GraphTrees.l0 : Nat → List (List Bool) → Int → List Int → Bool → List Int → List Int → Int → Option (Bool)
  | 0, _, _, _, _, _, _, _ => none
  | k + 1, x0, x1, x2, x7, x10, x12, x13 => if x13 < (x10.length : Int) then (slotmeshlaw22_GraphTrees.l1 k x0 x1 x2 x7 x10 x12 x13 ([] : List Int) 0) else ((graph_Reaches.f k x12 x1).bind fun t262 => (if (t262.length : Int) = (x10.length : Int) then ((graph_Loop.f k x12).bind fun t265 => (slotmeshlaw22_GraphTrees.j4 k x7 x10 t262 (decide ((t265.length : Int) > 0)))) else (slotmeshlaw22_GraphTrees.j4 k x7 x10 t262 true)))
def slotmeshlaw22_GraphTrees.l1 : Nat → List (List Bool) → Int → List Int → Bool → List Int → List Int → Int → List Int → Int → Option (Bool)
  | 0, _, _, _, _, _, _, _, _, _ => none
  | k + 1, x0, x1, x2, x7, x10, x12, x13, x14, x15 => if x15 < (x10.length : Int) then (if 0 ≤ x13 then (if x13 < (x0.length : Int) then (if 0 ≤ x15 then (if x15 < ((rd_L2 x0 x13).length : Int) then (if rdOf false (rd_L2 x0 x13) x15 = true then (if (rd x10 x15) ≥ 0 then (if x13 < (x10.length : Int) then (if (rd x10 x15) < (rd x10 x13) then (if x14.length < 17592186044416 then (slotmeshlaw22_GraphTrees.l1 k x0 x1 x2 x7 x10 x12 x13 (x14 ++ [x15]) (wrap64 (x15 + 1))) else (none)) else (slotmeshlaw22_GraphTrees.l1 k x0 x1 x2 x7 x10 x12 x13 x14 (wrap64 (x15 + 1)))) else (none)) else (slotmeshlaw22_GraphTrees.l1 k x0 x1 x2 x7 x10 x12 x13 x14 (wrap64 (x15 + 1)))) else (slotmeshlaw22_GraphTrees.l1 k x0 x1 x2 x7 x10 x12 x13 x14 (wrap64 (x15 + 1)))) else (none)) else (none)) else (none)) else (none)) else (if (x14.length : Int) = 0 then (if x12.length < 17592186044416 then (slotmeshlaw22_GraphTrees.l0 k x0 x1 x2 x7 x10 (x12 ++ [(-1)]) (wrap64 (x13 + 1))) else (none)) else (if 0 ≤ x13 then (if x13 < (x2.length : Int) then ((slotmeshlaw22_pick.f (rd x2 x13) (x14.length : Int)).bind fun t257 => (if 0 ≤ t257 then (if t257 < (x14.length : Int) then (if x12.length < 17592186044416 then (slotmeshlaw22_GraphTrees.l0 k x0 x1 x2 x7 x10 (x12 ++ [rd x14 t257]) (wrap64 (x13 + 1))) else (none)) else (none)) else (none))) else (none)) else (none)))
def slotmeshlaw22_GraphTrees.j4 : Nat → Bool → List Int → List Bool → Bool → Option (Bool)
  | 0, _, _, _, _ => none
  | k + 1, x7, x10, x16, x135 => if x135 = true then (some false) else (slotmeshlaw22_GraphTrees.l2 k x7 x10 x16 0)
def slotmeshlaw22_GraphTrees.l2 : Nat → Bool → List Int → List Bool → Int → Option (Bool)
  | 0, _, _, _, _ => none
  | k + 1, x7, x10, x16, x17 => if x17 < (x16.length : Int) then (if x7 = true then (if 0 ≤ x17 then (if x17 < (x10.length : Int) then (slotmeshlaw22_GraphTrees.l2 k ((rdOf false x16 x17) == (decide ((rd x10 x17) ≥ 0))) x10 x16 (wrap64 (x17 + 1))) else (none)) else (none)) else (slotmeshlaw22_GraphTrees.l2 k false x10 x16 (wrap64 (x17 + 1)))) else (some x7)
end
def slotmeshlaw22_GraphTrees.f (k : Nat) (l0 : List (List Bool)) (a1 : Int) (l2 : List Int) : Option (Bool) := (slotmeshlaw22_head.f k).bind fun t238 => ((slotmeshlaw22_few.f k l0 ([] : List Int)).bind fun t239 => ((slotmeshref22_Valid.f k l0).bind fun t240 => (if t239 = true then (if t240 = true then (if a1 < 0 then (slotmeshlaw22_GraphTrees.j0 k l0 a1 l2 t238 true) else (if a1 ≥ (l0.length : Int) then (slotmeshlaw22_GraphTrees.j0 k l0 a1 l2 t238 true) else (slotmeshlaw22_GraphTrees.j0 k l0 a1 l2 t238 (decide ((l2.length : Int) < (l0.length : Int)))))) else (slotmeshlaw22_GraphTrees.j0 k l0 a1 l2 t238 true)) else (slotmeshlaw22_GraphTrees.j0 k l0 a1 l2 t238 true))))
theorem slotmeshlaw22_GraphTrees.mono_l : ∀ k, (∀ y0 y1 y2 y3 y4, LeO (slotmeshlaw22_GraphTrees.j0 k y0 y1 y2 y3 y4) (slotmeshlaw22_GraphTrees.j0 (k + 1) y0 y1 y2 y3 y4)) ∧ (∀ y0 y1 y2 y3 y4 y5, LeO (slotmeshlaw22_GraphTrees.j1 k y0 y1 y2 y3 y4 y5) (slotmeshlaw22_GraphTrees.j1 (k + 1) y0 y1 y2 y3 y4 y5)) ∧ (∀ y0 y1 y2 y3 y4 y5 y6, LeO (slotmeshlaw22_GraphTrees.l0 k y0 y1 y2 y3 y4 y5 y6) (slotmeshlaw22_GraphTrees.l0 (k + 1) y0 y1 y2 y3 y4 y5 y6)) ∧ (∀ y0 y1 y2 y3 y4 y5 y6 y7 y8, LeO (slotmeshlaw22_GraphTrees.l1 k y0 y1 y2 y3 y4 y5 y6 y7 y8) (slotmeshlaw22_GraphTrees.l1 (k + 1) y0 y1 y2 y3 y4 y5 y6 y7 y8)) ∧ (∀ y0 y1 y2 y3, LeO (slotmeshlaw22_GraphTrees.j4 k y0 y1 y2 y3) (slotmeshlaw22_GraphTrees.j4 (k + 1) y0 y1 y2 y3)) ∧ (∀ y0 y1 y2 y3, LeO (slotmeshlaw22_GraphTrees.l2 k y0 y1 y2 y3) (slotmeshlaw22_GraphTrees.l2 (k + 1) y0 y1 y2 y3))
  | 0 => ⟨fun _ _ _ _ _ r h => by simp [slotmeshlaw22_GraphTrees.j0] at h, fun _ _ _ _ _ _ r h => by simp [slotmeshlaw22_GraphTrees.j1] at h, fun _ _ _ _ _ _ _ r h => by simp [slotmeshlaw22_GraphTrees.l0] at h, fun _ _ _ _ _ _ _ _ _ r h => by simp [slotmeshlaw22_GraphTrees.l1] at h, fun _ _ _ _ r h => by simp [slotmeshlaw22_GraphTrees.j4] at h, fun _ _ _ _ r h => by simp [slotmeshlaw22_GraphTrees.l2] at h⟩
  | k + 1 => by
    obtain ⟨ih0, ih1, ih2, ih3, ih4, ih5⟩ := slotmeshlaw22_GraphTrees.mono_l k
    refine ⟨?_, ?_, ?_, ?_, ?_, ?_⟩
    · intro y0 y1 y2 y3 y4
      unfold slotmeshlaw22_GraphTrees.j0
      repeat' first
      | (with_reducible exact ih0 _ _ _ _ _)
      | (with_reducible exact ih1 _ _ _ _ _ _)
      | (with_reducible exact ih2 _ _ _ _ _ _ _)
      | (with_reducible exact ih3 _ _ _ _ _ _ _ _ _)
      | (with_reducible exact ih4 _ _ _ _)
      | (with_reducible exact ih5 _ _ _ _)
      | (with_reducible exact graph_Depths.mono _ _ _)
      | (with_reducible exact graph_Loop.mono _ _)
      | (with_reducible exact graph_Reaches.mono _ _ _)
      | (with_reducible exact slotmeshlaw22_few.mono _ _ _)
      | (with_reducible exact slotmeshlaw22_head.mono _)
      | (with_reducible exact slotmeshref22_Valid.mono _ _)
      | (with_reducible exact LeO.refl _)
      | (with_reducible exact LeO.none _)
      | (with_reducible refine LeO.ite ?_ ?_)
      | (with_reducible refine LeO.bind ?_ (fun _ => ?_))
      | exact ih0 _ _ _ _ _
      | exact ih1 _ _ _ _ _ _
      | exact ih2 _ _ _ _ _ _ _
      | exact ih3 _ _ _ _ _ _ _ _ _
      | exact ih4 _ _ _ _
      | exact ih5 _ _ _ _
      | exact graph_Depths.mono _ _ _
      | exact graph_Loop.mono _ _
      | exact graph_Reaches.mono _ _ _
      | exact slotmeshlaw22_few.mono _ _ _
      | exact slotmeshlaw22_head.mono _
      | exact slotmeshref22_Valid.mono _ _
      | exact LeO.none _
      | refine LeO.ite ?_ ?_
      | refine LeO.bind ?_ (fun _ => ?_)
    · intro y0 y1 y2 y3 y4 y5
      unfold slotmeshlaw22_GraphTrees.j1
      repeat' first
      | (with_reducible exact ih0 _ _ _ _ _)
      | (with_reducible exact ih1 _ _ _ _ _ _)
      | (with_reducible exact ih2 _ _ _ _ _ _ _)
      | (with_reducible exact ih3 _ _ _ _ _ _ _ _ _)
      | (with_reducible exact ih4 _ _ _ _)
      | (with_reducible exact ih5 _ _ _ _)
      | (with_reducible exact graph_Depths.mono _ _ _)
      | (with_reducible exact graph_Loop.mono _ _)
      | (with_reducible exact graph_Reaches.mono _ _ _)
      | (with_reducible exact slotmeshlaw22_few.mono _ _ _)
      | (with_reducible exact slotmeshlaw22_head.mono _)
      | (with_reducible exact slotmeshref22_Valid.mono _ _)
      | (with_reducible exact LeO.refl _)
      | (with_reducible exact LeO.none _)
      | (with_reducible refine LeO.ite ?_ ?_)
      | (with_reducible refine LeO.bind ?_ (fun _ => ?_))
      | exact ih0 _ _ _ _ _
      | exact ih1 _ _ _ _ _ _
      | exact ih2 _ _ _ _ _ _ _
      | exact ih3 _ _ _ _ _ _ _ _ _
      | exact ih4 _ _ _ _
      | exact ih5 _ _ _ _
      | exact graph_Depths.mono _ _ _
      | exact graph_Loop.mono _ _
      | exact graph_Reaches.mono _ _ _
      | exact slotmeshlaw22_few.mono _ _ _
      | exact slotmeshlaw22_head.mono _
      | exact slotmeshref22_Valid.mono _ _
      | exact LeO.none _
      | refine LeO.ite ?_ ?_
      | refine LeO.bind ?_ (fun _ => ?_)
    · intro y0 y1 y2 y3 y4 y5 y6
      unfold slotmeshlaw22_GraphTrees.l0
      repeat' first
      | (with_reducible exact ih0 _ _ _ _ _)
      | (with_reducible exact ih1 _ _ _ _ _ _)
      | (with_reducible exact ih2 _ _ _ _ _ _ _)
      | (with_reducible exact ih3 _ _ _ _ _ _ _ _ _)
      | (with_reducible exact ih4 _ _ _ _)
      | (with_reducible exact ih5 _ _ _ _)
      | (with_reducible exact graph_Depths.mono _ _ _)
      | (with_reducible exact graph_Loop.mono _ _)
      | (with_reducible exact graph_Reaches.mono _ _ _)
      | (with_reducible exact slotmeshlaw22_few.mono _ _ _)
      | (with_reducible exact slotmeshlaw22_head.mono _)
      | (with_reducible exact slotmeshref22_Valid.mono _ _)
      | (with_reducible exact LeO.refl _)
      | (with_reducible exact LeO.none _)
      | (with_reducible refine LeO.ite ?_ ?_)
      | (with_reducible refine LeO.bind ?_ (fun _ => ?_))
      | exact ih0 _ _ _ _ _
      | exact ih1 _ _ _ _ _ _
      | exact ih2 _ _ _ _ _ _ _
      | exact ih3 _ _ _ _ _ _ _ _ _
      | exact ih4 _ _ _ _
      | exact ih5 _ _ _ _
      | exact graph_Depths.mono _ _ _
      | exact graph_Loop.mono _ _
      | exact graph_Reaches.mono _ _ _
      | exact slotmeshlaw22_few.mono _ _ _
      | exact slotmeshlaw22_head.mono _
      | exact slotmeshref22_Valid.mono _ _
      | exact LeO.none _
      | refine LeO.ite ?_ ?_
      | refine LeO.bind ?_ (fun _ => ?_)
    · intro y0 y1 y2 y3 y4 y5 y6 y7 y8
      unfold slotmeshlaw22_GraphTrees.l1
      repeat' first
      | (with_reducible exact ih0 _ _ _ _ _)
      | (with_reducible exact ih1 _ _ _ _ _ _)
      | (with_reducible exact ih2 _ _ _ _ _ _ _)
      | (with_reducible exact ih3 _ _ _ _ _ _ _ _ _)
      | (with_reducible exact ih4 _ _ _ _)
      | (with_reducible exact ih5 _ _ _ _)
      | (with_reducible exact graph_Depths.mono _ _ _)
      | (with_reducible exact graph_Loop.mono _ _)
      | (with_reducible exact graph_Reaches.mono _ _ _)
      | (with_reducible exact slotmeshlaw22_few.mono _ _ _)
      | (with_reducible exact slotmeshlaw22_head.mono _)
      | (with_reducible exact slotmeshref22_Valid.mono _ _)
      | (with_reducible exact LeO.refl _)
      | (with_reducible exact LeO.none _)
      | (with_reducible refine LeO.ite ?_ ?_)
      | (with_reducible refine LeO.bind ?_ (fun _ => ?_))
      | exact ih0 _ _ _ _ _
      | exact ih1 _ _ _ _ _ _
      | exact ih2 _ _ _ _ _ _ _
      | exact ih3 _ _ _ _ _ _ _ _ _
      | exact ih4 _ _ _ _
      | exact ih5 _ _ _ _
      | exact graph_Depths.mono _ _ _
      | exact graph_Loop.mono _ _
      | exact graph_Reaches.mono _ _ _
      | exact slotmeshlaw22_few.mono _ _ _
      | exact slotmeshlaw22_head.mono _
      | exact slotmeshref22_Valid.mono _ _
      | exact LeO.none _
      | refine LeO.ite ?_ ?_
      | refine LeO.bind ?_ (fun _ => ?_)
    · intro y0 y1 y2 y3
      unfold slotmeshlaw22_GraphTrees.j4
      repeat' first
      | (with_reducible exact ih0 _ _ _ _ _)
      | (with_reducible exact ih1 _ _ _ _ _ _)
      | (with_reducible exact ih2 _ _ _ _ _ _ _)
      | (with_reducible exact ih3 _ _ _ _ _ _ _ _ _)
      | (with_reducible exact ih4 _ _ _ _)
      | (with_reducible exact ih5 _ _ _ _)
      | (with_reducible exact graph_Depths.mono _ _ _)
      | (with_reducible exact graph_Loop.mono _ _)
      | (with_reducible exact graph_Reaches.mono _ _ _)
      | (with_reducible exact slotmeshlaw22_few.mono _ _ _)
      | (with_reducible exact slotmeshlaw22_head.mono _)
      | (with_reducible exact slotmeshref22_Valid.mono _ _)
      | (with_reducible exact LeO.refl _)
      | (with_reducible exact LeO.none _)
      | (with_reducible refine LeO.ite ?_ ?_)
      | (with_reducible refine LeO.bind ?_ (fun _ => ?_))
      | exact ih0 _ _ _ _ _
      | exact ih1 _ _ _ _ _ _
      | exact ih2 _ _ _ _ _ _ _
      | exact ih3 _ _ _ _ _ _ _ _ _
      | exact ih4 _ _ _ _
      | exact ih5 _ _ _ _
      | exact graph_Depths.mono _ _ _
      | exact graph_Loop.mono _ _
      | exact graph_Reaches.mono _ _ _
      | exact slotmeshlaw22_few.mono _ _ _
      | exact slotmeshlaw22_head.mono _
      | exact slotmeshref22_Valid.mono _ _
      | exact LeO.none _
      | refine LeO.ite ?_ ?_
      | refine LeO.bind ?_ (fun _ => ?_)
    · intro y0 y1 y2 y3
      unfold slotmeshlaw22_GraphTrees.l2
      repeat' first
      | (with_reducible exact ih0 _ _ _ _ _)
      | (with_reducible exact ih1 _ _ _ _ _ _)
      | (with_reducible exact ih2 _ _ _ _ _ _ _)
      | (with_reducible exact ih3 _ _ _ _ _ _ _ _ _)
      | (with_reducible exact ih4 _ _ _ _)
      | (with_reducible exact ih5 _ _ _ _)
      | (with_reducible exact graph_Depths.mono _ _ _)
      | (with_reducible exact graph_Loop.mono _ _)
      | (with_reducible exact graph_Reaches.mono _ _ _)
      | (with_reducible exact slotmeshlaw22_few.mono _ _ _)
      | (with_reducible exact slotmeshlaw22_head.mono _)
      | (with_reducible exact slotmeshref22_Valid.mono _ _)
      | (with_reducible exact LeO.refl _)
      | (with_reducible exact LeO.none _)
      | (with_reducible refine LeO.ite ?_ ?_)
      | (with_reducible refine LeO.bind ?_ (fun _ => ?_))
      | exact ih0 _ _ _ _ _
      | exact ih1 _ _ _ _ _ _
      | exact ih2 _ _ _ _ _ _ _
      | exact ih3 _ _ _ _ _ _ _ _ _
      | exact ih4 _ _ _ _
      | exact ih5 _ _ _ _
      | exact graph_Depths.mono _ _ _
      | exact graph_Loop.mono _ _
      | exact graph_Reaches.mono _ _ _
      | exact slotmeshlaw22_few.mono _ _ _
      | exact slotmeshlaw22_head.mono _
      | exact slotmeshref22_Valid.mono _ _
      | exact LeO.none _
      | refine LeO.ite ?_ ?_
      | refine LeO.bind ?_ (fun _ => ?_)
theorem slotmeshlaw22_GraphTrees.mono : ∀ a0 a1 a2 k, LeO (slotmeshlaw22_GraphTrees.f k a0 a1 a2) (slotmeshlaw22_GraphTrees.f (k + 1) a0 a1 a2) := by
  intro a0 a1 a2 k
  obtain ⟨ih0, ih1, ih2, ih3, ih4, ih5⟩ := slotmeshlaw22_GraphTrees.mono_l k
  unfold slotmeshlaw22_GraphTrees.f
  repeat' first
      | (with_reducible exact ih0 _ _ _ _ _)
      | (with_reducible exact ih1 _ _ _ _ _ _)
      | (with_reducible exact ih2 _ _ _ _ _ _ _)
      | (with_reducible exact ih3 _ _ _ _ _ _ _ _ _)
      | (with_reducible exact ih4 _ _ _ _)
      | (with_reducible exact ih5 _ _ _ _)
      | (with_reducible exact graph_Depths.mono _ _ _)
      | (with_reducible exact graph_Loop.mono _ _)
      | (with_reducible exact graph_Reaches.mono _ _ _)
      | (with_reducible exact slotmeshlaw22_few.mono _ _ _)
      | (with_reducible exact slotmeshlaw22_head.mono _)
      | (with_reducible exact slotmeshref22_Valid.mono _ _)
      | (with_reducible exact LeO.refl _)
      | (with_reducible exact LeO.none _)
      | (with_reducible refine LeO.ite ?_ ?_)
      | (with_reducible refine LeO.bind ?_ (fun _ => ?_))
      | exact ih0 _ _ _ _ _
      | exact ih1 _ _ _ _ _ _
      | exact ih2 _ _ _ _ _ _ _
      | exact ih3 _ _ _ _ _ _ _ _ _
      | exact ih4 _ _ _ _
      | exact ih5 _ _ _ _
      | exact graph_Depths.mono _ _ _
      | exact graph_Loop.mono _ _
      | exact graph_Reaches.mono _ _ _
      | exact slotmeshlaw22_few.mono _ _ _
      | exact slotmeshlaw22_head.mono _
      | exact slotmeshref22_Valid.mono _ _
      | exact LeO.none _
      | refine LeO.ite ?_ ?_
      | refine LeO.bind ?_ (fun _ => ?_)
set_option maxHeartbeats 8000000 in
set_option maxRecDepth 100000 in
theorem slotmeshlaw22_GraphTrees.calls (k : Nat) (A0 : Option Addr) (c0 : Nat) (l0 : List (List Bool)) (a1 : Int) (A2 : Option Addr) (c2 : Nat) (l2 : List Int) (r : Bool) (w : World) (hr0 : Kd.C (Kd.slice 4 Kd.bool) w A0 l0.length l0) (hc0 : l0.length ≤ c0) (hr2 : Kd.C (Kd.int .i64) w A2 l2.length l2) (hc2 : l2.length ≤ c2) (h : slotmeshlaw22_GraphTrees.f k l0 a1 l2 = some r) :
    Calls Try.prog 4 #[.slice A0 l0.length c0, .int .i64 a1, .slice A2 l2.length c2] w fun e w' => e = .returned (.bool r) ∧ Below w.heap.size w w' := by
  have HR0 := Aside0.mk hr0
  have HC0 := Aside0.mk hc0
  clear hr0 hc0
  have HR2 := Aside0.mk hr2
  have HC2 := Aside0.mk hc2
  clear hr2 hc2
  have HB := Aside0.mk (Below.refl w.heap.size w)
  have H : ((slotmeshlaw22_head.f k).bind fun t238 => ((slotmeshlaw22_few.f k l0 ([] : List Int)).bind fun t239 => ((slotmeshref22_Valid.f k l0).bind fun t240 => (if t239 = true then (if t240 = true then (if a1 < 0 then (slotmeshlaw22_GraphTrees.j0 k l0 a1 l2 t238 true) else (if a1 ≥ (l0.length : Int) then (slotmeshlaw22_GraphTrees.j0 k l0 a1 l2 t238 true) else (slotmeshlaw22_GraphTrees.j0 k l0 a1 l2 t238 (decide ((l2.length : Int) < (l0.length : Int)))))) else (slotmeshlaw22_GraphTrees.j0 k l0 a1 l2 t238 true)) else (slotmeshlaw22_GraphTrees.j0 k l0 a1 l2 t238 true))))) = some r := h
  clear h
  replace H := Option.bind_eq_some_iff.mp H
  obtain ⟨t238, A40, H⟩ := H
  replace H : ((slotmeshlaw22_few.f k l0 ([] : List Int)).bind fun t239 => ((slotmeshref22_Valid.f k l0).bind fun t240 => (if t239 = true then (if t240 = true then (if a1 < 0 then (slotmeshlaw22_GraphTrees.j0 k l0 a1 l2 t238 true) else (if a1 ≥ (l0.length : Int) then (slotmeshlaw22_GraphTrees.j0 k l0 a1 l2 t238 true) else (slotmeshlaw22_GraphTrees.j0 k l0 a1 l2 t238 (decide ((l2.length : Int) < (l0.length : Int)))))) else (slotmeshlaw22_GraphTrees.j0 k l0 a1 l2 t238 true)) else (slotmeshlaw22_GraphTrees.j0 k l0 a1 l2 t238 true)))) = some r := H
  have A4 := Aside0.mk A40
  clear A40
  replace H := Option.bind_eq_some_iff.mp H
  obtain ⟨t239, A50, H⟩ := H
  replace H : ((slotmeshref22_Valid.f k l0).bind fun t240 => (if t239 = true then (if t240 = true then (if a1 < 0 then (slotmeshlaw22_GraphTrees.j0 k l0 a1 l2 t238 true) else (if a1 ≥ (l0.length : Int) then (slotmeshlaw22_GraphTrees.j0 k l0 a1 l2 t238 true) else (slotmeshlaw22_GraphTrees.j0 k l0 a1 l2 t238 (decide ((l2.length : Int) < (l0.length : Int)))))) else (slotmeshlaw22_GraphTrees.j0 k l0 a1 l2 t238 true)) else (slotmeshlaw22_GraphTrees.j0 k l0 a1 l2 t238 true))) = some r := H
  have A5 := Aside0.mk A50
  clear A50
  replace H := Option.bind_eq_some_iff.mp H
  obtain ⟨t240, A60, H⟩ := H
  replace H : (if t239 = true then (if t240 = true then (if a1 < 0 then (slotmeshlaw22_GraphTrees.j0 k l0 a1 l2 t238 true) else (if a1 ≥ (l0.length : Int) then (slotmeshlaw22_GraphTrees.j0 k l0 a1 l2 t238 true) else (slotmeshlaw22_GraphTrees.j0 k l0 a1 l2 t238 (decide ((l2.length : Int) < (l0.length : Int)))))) else (slotmeshlaw22_GraphTrees.j0 k l0 a1 l2 t238 true)) else (slotmeshlaw22_GraphTrees.j0 k l0 a1 l2 t238 true)) = some r := H
  have A6 := Aside0.mk A60
  clear A60
  have HC7 := Aside0.mk H
  clear H
  go_enter Try.func4, Try.ntmps4
  go_upto_region 4 with (first | (go_at_call 10; (with_reducible refine (slotmeshlaw22_head.calls k  t238 _ A4.out).mono ?_); rintro e w8 ⟨rfl, hb⟩; have n0_ := Aside0.mk (below_step (by repeat (first | (with_reducible first | exact HB.out | apply below_alloc | apply pw_below_drewN | apply below_drew1) | exact HB.out)) hb); clear HB; have HB := n0_; clear n0_; (try clear hb); (try clear hb2); (try clear hk); (try clear hi)) | (go_at_call 15; (refine (slotmeshlaw22_few.calls k _ _ l0 _ _ ([] : List Int) t239 _ ?side1 ?side2 ?side3 ?side4 A5.out).mono ?_); (case side1 => repeat (first | exact (Kd.C_below HR0.out HB.out) | (with_reducible refine Kd.C_alloc ?_ _) | (with_reducible refine Kd.C_drewN ?_ _) | (with_reducible refine Kd.C_drew ?_))); (case side2 => exact HC0.out); (case side3 => exact Kd.C_nil _ _); (case side4 => exact Nat.le_refl _); rintro e w' ⟨rfl, ⟨nd, rfl⟩⟩; (try first | exact ⟨rfl, _, World.drewN_drewN _ _ _⟩ | exact ⟨rfl, _, Eq.trans (World.drewN_drewN _ _ _) (congrArg (World.drewN _) (Nat.add_assoc _ _ _))⟩)) | (go_at_call 16; (with_reducible refine (slotmeshref22_Valid.calls k _ _ l0 t240 _ ?side1 ?side2 A6.out).mono ?_); (case side1 => repeat (first | exact (Kd.C_below HR0.out (by repeat (first | (with_reducible first | exact HB.out | apply below_alloc | apply pw_below_drewN | apply below_drew1) | exact HB.out))) | (with_reducible refine Kd.C_alloc ?_ _) | (with_reducible refine Kd.C_drewN ?_ _) | (with_reducible refine Kd.C_drew ?_))); (case side2 => exact HC0.out); rintro e w' ⟨rfl, ⟨nd, rfl⟩⟩; (try first | exact ⟨rfl, _, World.drewN_drewN _ _ _⟩ | exact ⟨rfl, _, Eq.trans (World.drewN_drewN _ _ _) (congrArg (World.drewN _) (Nat.add_assoc _ _ _))⟩)))
  repeat (go_quiet (first | (go_at_call 10; (with_reducible refine (slotmeshlaw22_head.calls k  t238 _ A4.out).mono ?_); rintro e w8 ⟨rfl, hb⟩; have n0_ := Aside0.mk (below_step (by repeat (first | (with_reducible first | exact HB.out | apply below_alloc | apply pw_below_drewN | apply below_drew1) | exact HB.out)) hb); clear HB; have HB := n0_; clear n0_; (try clear hb); (try clear hb2); (try clear hk); (try clear hi)) | (go_at_call 15; (refine (slotmeshlaw22_few.calls k _ _ l0 _ _ ([] : List Int) t239 _ ?side1 ?side2 ?side3 ?side4 A5.out).mono ?_); (case side1 => repeat (first | exact (Kd.C_below HR0.out HB.out) | (with_reducible refine Kd.C_alloc ?_ _) | (with_reducible refine Kd.C_drewN ?_ _) | (with_reducible refine Kd.C_drew ?_))); (case side2 => exact HC0.out); (case side3 => exact Kd.C_nil _ _); (case side4 => exact Nat.le_refl _); rintro e w' ⟨rfl, ⟨nd, rfl⟩⟩; (try first | exact ⟨rfl, _, World.drewN_drewN _ _ _⟩ | exact ⟨rfl, _, Eq.trans (World.drewN_drewN _ _ _) (congrArg (World.drewN _) (Nat.add_assoc _ _ _))⟩)) | (go_at_call 16; (with_reducible refine (slotmeshref22_Valid.calls k _ _ l0 t240 _ ?side1 ?side2 A6.out).mono ?_); (case side1 => repeat (first | exact (Kd.C_below HR0.out (by repeat (first | (with_reducible first | exact HB.out | apply below_alloc | apply pw_below_drewN | apply below_drew1) | exact HB.out))) | (with_reducible refine Kd.C_alloc ?_ _) | (with_reducible refine Kd.C_drewN ?_ _) | (with_reducible refine Kd.C_drew ?_))); (case side2 => exact HC0.out); rintro e w' ⟨rfl, ⟨nd, rfl⟩⟩; (try first | exact ⟨rfl, _, World.drewN_drewN _ _ _⟩ | exact ⟨rfl, _, Eq.trans (World.drewN_drewN _ _ _) (congrArg (World.drewN _) (Nat.add_assoc _ _ _))⟩))); go_upto_region 4 with (first | (go_at_call 10; (with_reducible refine (slotmeshlaw22_head.calls k  t238 _ A4.out).mono ?_); rintro e w8 ⟨rfl, hb⟩; have n0_ := Aside0.mk (below_step (by repeat (first | (with_reducible first | exact HB.out | apply below_alloc | apply pw_below_drewN | apply below_drew1) | exact HB.out)) hb); clear HB; have HB := n0_; clear n0_; (try clear hb); (try clear hb2); (try clear hk); (try clear hi)) | (go_at_call 15; (refine (slotmeshlaw22_few.calls k _ _ l0 _ _ ([] : List Int) t239 _ ?side1 ?side2 ?side3 ?side4 A5.out).mono ?_); (case side1 => repeat (first | exact (Kd.C_below HR0.out HB.out) | (with_reducible refine Kd.C_alloc ?_ _) | (with_reducible refine Kd.C_drewN ?_ _) | (with_reducible refine Kd.C_drew ?_))); (case side2 => exact HC0.out); (case side3 => exact Kd.C_nil _ _); (case side4 => exact Nat.le_refl _); rintro e w' ⟨rfl, ⟨nd, rfl⟩⟩; (try first | exact ⟨rfl, _, World.drewN_drewN _ _ _⟩ | exact ⟨rfl, _, Eq.trans (World.drewN_drewN _ _ _) (congrArg (World.drewN _) (Nat.add_assoc _ _ _))⟩)) | (go_at_call 16; (with_reducible refine (slotmeshref22_Valid.calls k _ _ l0 t240 _ ?side1 ?side2 A6.out).mono ?_); (case side1 => repeat (first | exact (Kd.C_below HR0.out (by repeat (first | (with_reducible first | exact HB.out | apply below_alloc | apply pw_below_drewN | apply below_drew1) | exact HB.out))) | (with_reducible refine Kd.C_alloc ?_ _) | (with_reducible refine Kd.C_drewN ?_ _) | (with_reducible refine Kd.C_drew ?_))); (case side2 => exact HC0.out); rintro e w' ⟨rfl, ⟨nd, rfl⟩⟩; (try first | exact ⟨rfl, _, World.drewN_drewN _ _ _⟩ | exact ⟨rfl, _, Eq.trans (World.drewN_drewN _ _ _) (congrArg (World.drewN _) (Nat.add_assoc _ _ _))⟩))))
  (try simp only [Act.put, List.setIfInBounds_toArray, List.set_cons_zero, List.set_cons_succ])
  go_cut [45] (fun v45 wc => ∃ (kq : Nat) (x45_6 : Bool), v45 = .bool x45_6 ∧ Aside0 (slotmeshlaw22_GraphTrees.j0 kq l0 a1 l2 t238 x45_6 = some r) ∧ Aside0 (kq ≤ k) ∧ Aside0 (Below w.heap.size w wc))
  case first =>
    have H := HC7.out
    clear HC7
    by_cases c9 : t239 = true
    · subst c9
      have H1 : (if t240 = true then (if a1 < 0 then (slotmeshlaw22_GraphTrees.j0 k l0 a1 l2 t238 true) else (if a1 ≥ (l0.length : Int) then (slotmeshlaw22_GraphTrees.j0 k l0 a1 l2 t238 true) else (slotmeshlaw22_GraphTrees.j0 k l0 a1 l2 t238 (decide ((l2.length : Int) < (l0.length : Int)))))) else (slotmeshlaw22_GraphTrees.j0 k l0 a1 l2 t238 true)) = some r := by rw [if_pos rfl] at H; exact H
      clear H
      have H := H1
      clear H1
      by_cases c10 : t240 = true
      · subst c10
        have H1 : (if a1 < 0 then (slotmeshlaw22_GraphTrees.j0 k l0 a1 l2 t238 true) else (if a1 ≥ (l0.length : Int) then (slotmeshlaw22_GraphTrees.j0 k l0 a1 l2 t238 true) else (slotmeshlaw22_GraphTrees.j0 k l0 a1 l2 t238 (decide ((l2.length : Int) < (l0.length : Int)))))) = some r := by rw [if_pos rfl] at H; exact H
        clear H
        have H := H1
        clear H1
        by_cases c11 : a1 < 0
        · rw [if_pos c11] at H
          have c11b0 : decide (a1 < 0) = true := decide_eq_true c11
          clear c11
          (first | rw [c11b0] | (simp only [i64_w, i32_w]; rw [c11b0]) | skip)
          have H' := Aside0.mk H
          clear H
          go_wp2
          repeat (go_quiet (fail); try go_wp2)
          go_meet
          case rel => exact ⟨_, (true), (by first | rfl | (simp; done) | (simp [*]; done)), H', ⟨by first | omega | exact Nat.le_refl _⟩, ⟨by repeat (first | (with_reducible first | exact HB.out | apply below_alloc | apply pw_below_drewN | apply below_drew1) | exact HB.out)⟩⟩
        · rw [if_neg c11] at H
          have c11b0 : decide (a1 < 0) = false := decide_eq_false c11
          clear c11
          (first | rw [c11b0] | (simp only [i64_w, i32_w]; rw [c11b0]) | skip)
          by_cases c12 : a1 ≥ (l0.length : Int)
          · rw [if_pos c12] at H
            have c12b0 : decide ((l0.length : Int) ≤ a1) = true := decide_eq_true c12
            clear c12
            have H' := Aside0.mk H
            clear H
            go_wp2
            repeat (go_quiet (fail); try go_wp2)
            go_meet
            case rel => exact ⟨_, (true), (by first | rfl | (simp; done) | (simp [*]; done)), H', ⟨by first | omega | exact Nat.le_refl _⟩, ⟨by repeat (first | (with_reducible first | exact HB.out | apply below_alloc | apply pw_below_drewN | apply below_drew1) | exact HB.out)⟩⟩
          · rw [if_neg c12] at H
            have c12b0 : decide ((l0.length : Int) ≤ a1) = false := decide_eq_false c12
            clear c12
            have H' := Aside0.mk H
            clear H
            go_wp2
            repeat (go_quiet (fail); try go_wp2)
            go_meet
            case rel => exact ⟨_, (decide ((l2.length : Int) < (l0.length : Int))), (by first | rfl | (simp; done) | (simp [*]; done)), H', ⟨by first | omega | exact Nat.le_refl _⟩, ⟨by repeat (first | (with_reducible first | exact HB.out | apply below_alloc | apply pw_below_drewN | apply below_drew1) | exact HB.out)⟩⟩
      · replace c10 := Bool.eq_false_iff.mpr c10
        subst c10
        have H1 : (slotmeshlaw22_GraphTrees.j0 k l0 a1 l2 t238 true) = some r := by rw [if_neg (show ¬ (false = true) by decide)] at H; exact H
        clear H
        have H := H1
        clear H1
        have H' := Aside0.mk H
        clear H
        go_wp2
        repeat (go_quiet (fail); try go_wp2)
        go_meet
        case rel => exact ⟨_, (true), (by first | rfl | (simp; done) | (simp [*]; done)), H', ⟨by first | omega | exact Nat.le_refl _⟩, ⟨by repeat (first | (with_reducible first | exact HB.out | apply below_alloc | apply pw_below_drewN | apply below_drew1) | exact HB.out)⟩⟩
    · replace c9 := Bool.eq_false_iff.mpr c9
      subst c9
      have H1 : (slotmeshlaw22_GraphTrees.j0 k l0 a1 l2 t238 true) = some r := by rw [if_neg (show ¬ (false = true) by decide)] at H; exact H
      clear H
      have H := H1
      clear H1
      have H' := Aside0.mk H
      clear H
      go_wp2
      repeat (go_quiet (fail); try go_wp2)
      go_meet
      case rel => exact ⟨_, (true), (by first | rfl | (simp; done) | (simp [*]; done)), H', ⟨by first | omega | exact Nat.le_refl _⟩, ⟨by repeat (first | (with_reducible first | exact HB.out | apply below_alloc | apply pw_below_drewN | apply below_drew1) | exact HB.out)⟩⟩
  case rest =>
    clear HC7
    try clear c1
    try clear c2
    try clear p2
    try clear c4
    try clear c9
    try clear c10
    try clear c11
    try clear c11b0
    try clear c12
    try clear c12b0
    obtain ⟨kq, x45_6, rfl, HA, HJ6, HB⟩ := hcut
    cases kq with
    | zero => exact absurd HA.out (by simp [slotmeshlaw22_GraphTrees.j0])
    | succ kj6 =>
      have H := HA.out
      clear HA
      simp only [slotmeshlaw22_GraphTrees.j0] at H
      by_cases c13 : x45_6 = true
      · subst c13
        have H1 : (some t238) = some r := by rw [if_pos rfl] at H; exact H
        clear H
        have H := H1
        clear H1
        obtain rfl := Option.some.inj H
        go_wp2
        repeat (go_quiet (fail); try go_wp2)
        go_ret
        exact ⟨by first | rfl | (simp [errW_none, errW_some] <;> rfl) | (simp [*, errW_none, errW_some] <;> rfl), by repeat (first | (with_reducible first | exact HB.out | apply below_alloc | apply pw_below_drewN | apply below_drew1) | exact HB.out)⟩
      · replace c13 := Bool.eq_false_iff.mpr c13
        subst c13
        have H1 : ((graph_Depths.f kj6 l0 a1).bind fun bt241 => (if bt241.2 = 0 then (slotmeshlaw22_GraphTrees.j1 kj6 l0 a1 l2 t238 bt241.1 ((bt241.1.length : Int) != (l0.length : Int))) else (slotmeshlaw22_GraphTrees.j1 kj6 l0 a1 l2 t238 bt241.1 true))) = some r := by rw [if_neg (show ¬ (false = true) by decide)] at H; exact H
        clear H
        have H := H1
        clear H1
        replace H := Option.bind_eq_some_iff.mp H
        obtain ⟨⟨t241, t242⟩, A140, H⟩ := H
        replace H : (if t242 = 0 then (slotmeshlaw22_GraphTrees.j1 kj6 l0 a1 l2 t238 t241 ((t241.length : Int) != (l0.length : Int))) else (slotmeshlaw22_GraphTrees.j1 kj6 l0 a1 l2 t238 t241 true)) = some r := H
        have A14 := Aside0.mk A140
        clear A140
        have HC15 := Aside0.mk H
        clear H
        go_upto_region 7 with (first | (go_at_call 17; (with_reducible refine (graph_Depths.calls kj6 _ _ l0 a1 t241 t242 _ ?side1 ?side2 A14.out).mono ?_); (case side1 => repeat (first | exact (Kd.C_below HR0.out HB.out) | (with_reducible refine Kd.C_alloc ?_ _) | (with_reducible refine Kd.C_drewN ?_ _) | (with_reducible refine Kd.C_drew ?_))); (case side2 => exact HC0.out); rintro e w16 ⟨v243, rfl, ho0, hb⟩; have n0_ := Aside0.mk (Kd.R_lower ho0 (below_size (by repeat (first | (with_reducible first | exact HB.out | apply below_alloc | apply pw_below_drewN | apply below_drew1) | exact HB.out)))); have n1_ := Aside0.mk (below_step (by repeat (first | (with_reducible first | exact HB.out | apply below_alloc | apply pw_below_drewN | apply below_drew1) | exact HB.out)) hb); clear HB; have HO244 := n0_; have HB := n1_; clear n0_ n1_; (try clear hb); (try clear hb2); (try clear hk); (try clear hi); (try clear ho0)))
        repeat (go_quiet (first | (go_at_call 17; (with_reducible refine (graph_Depths.calls kj6 _ _ l0 a1 t241 t242 _ ?side1 ?side2 A14.out).mono ?_); (case side1 => repeat (first | exact (Kd.C_below HR0.out HB.out) | (with_reducible refine Kd.C_alloc ?_ _) | (with_reducible refine Kd.C_drewN ?_ _) | (with_reducible refine Kd.C_drew ?_))); (case side2 => exact HC0.out); rintro e w16 ⟨v243, rfl, ho0, hb⟩; have n0_ := Aside0.mk (Kd.R_lower ho0 (below_size (by repeat (first | (with_reducible first | exact HB.out | apply below_alloc | apply pw_below_drewN | apply below_drew1) | exact HB.out)))); have n1_ := Aside0.mk (below_step (by repeat (first | (with_reducible first | exact HB.out | apply below_alloc | apply pw_below_drewN | apply below_drew1) | exact HB.out)) hb); clear HB; have HO244 := n0_; have HB := n1_; clear n0_ n1_; (try clear hb); (try clear hb2); (try clear hk); (try clear hi); (try clear ho0))); go_upto_region 7 with (first | (go_at_call 17; (with_reducible refine (graph_Depths.calls kj6 _ _ l0 a1 t241 t242 _ ?side1 ?side2 A14.out).mono ?_); (case side1 => repeat (first | exact (Kd.C_below HR0.out HB.out) | (with_reducible refine Kd.C_alloc ?_ _) | (with_reducible refine Kd.C_drewN ?_ _) | (with_reducible refine Kd.C_drew ?_))); (case side2 => exact HC0.out); rintro e w16 ⟨v243, rfl, ho0, hb⟩; have n0_ := Aside0.mk (Kd.R_lower ho0 (below_size (by repeat (first | (with_reducible first | exact HB.out | apply below_alloc | apply pw_below_drewN | apply below_drew1) | exact HB.out)))); have n1_ := Aside0.mk (below_step (by repeat (first | (with_reducible first | exact HB.out | apply below_alloc | apply pw_below_drewN | apply below_drew1) | exact HB.out)) hb); clear HB; have HO244 := n0_; have HB := n1_; clear n0_ n1_; (try clear hb); (try clear hb2); (try clear hk); (try clear hi); (try clear ho0))))
        (try simp only [Act.put, List.setIfInBounds_toArray, List.set_cons_zero, List.set_cons_succ])
        go_cut [61] (fun v61 wc => ∃ (kq : Nat) (x61_14 : Bool), v61 = .bool x61_14 ∧ Aside0 (slotmeshlaw22_GraphTrees.j1 kq l0 a1 l2 t238 t241 x61_14 = some r) ∧ Aside0 (kq ≤ kj6) ∧ Aside0 (Kd.R (Kd.int .i64) 3 wc w.heap.size (fun _ => True) v243 t241) ∧ Aside0 (Below w.heap.size w wc))
        case first =>
          have H := HC15.out
          clear HC15
          by_cases c17 : t242 = 0
          · rw [if_pos c17] at H
            have c17b0 : (t242 == 0) = true := beq_iff_eq.mpr c17
            have c17b1 : (t242 != 0) = false := bne_eq_false_iff_eq.mpr c17
            clear c17
            (first | rw [c17b0] | (simp only [i64_w, i32_w]; rw [c17b0]) | skip)
            have H' := Aside0.mk H
            clear H
            obtain ⟨Ao18, co18, eo18⟩ := Kd.R_slice HO244.out
            subst eo18
            go_wp2
            repeat (go_quiet (fail); try go_wp2)
            go_meet
            case rel => exact ⟨_, (((t241.length : Int) != (l0.length : Int))), (by first | rfl | (simp; done) | (simp [*]; done)), H', ⟨by have := HJ6.out; first | omega | exact Nat.le_refl _⟩, ⟨by (with_reducible repeat (first | apply Kd.R_alloc | apply Kd.R_drewN | apply Kd.R_drew)); exact HO244.out⟩, ⟨by repeat (first | (with_reducible first | exact HB.out | apply below_alloc | apply pw_below_drewN | apply below_drew1) | exact HB.out)⟩⟩
          · rw [if_neg c17] at H
            have c17b0 : (t242 == 0) = false := beq_eq_false_iff_ne.mpr c17
            have c17b1 : (t242 != 0) = true := bne_iff_ne.mpr c17
            (first | rw [c17b0] | (simp only [i64_w, i32_w]; rw [c17b0]) | skip)
            have H' := Aside0.mk H
            clear H
            go_wp2
            repeat (go_quiet (fail); try go_wp2)
            go_meet
            case rel => exact ⟨_, (true), (by first | rfl | (simp; done) | (simp [*]; done)), H', ⟨by have := HJ6.out; first | omega | exact Nat.le_refl _⟩, ⟨by (with_reducible repeat (first | apply Kd.R_alloc | apply Kd.R_drewN | apply Kd.R_drew)); exact HO244.out⟩, ⟨by repeat (first | (with_reducible first | exact HB.out | apply below_alloc | apply pw_below_drewN | apply below_drew1) | exact HB.out)⟩⟩
        case rest =>
          clear HC15
          try clear c1
          try clear c2
          try clear p2
          try clear c4
          try clear c9
          try clear c10
          try clear c11
          try clear c11b0
          try clear c12
          try clear c12b0
          try clear c13
          try clear c17
          try clear c17b0
          try clear c17b1
          try clear p2
          obtain ⟨kq, x61_14, rfl, HA, HJ14, HO_10, HB⟩ := hcut
          cases kq with
          | zero => exact absurd HA.out (by simp [slotmeshlaw22_GraphTrees.j1])
          | succ kj14 =>
            have H := HA.out
            clear HA
            simp only [slotmeshlaw22_GraphTrees.j1] at H
            by_cases c19 : x61_14 = true
            · subst c19
              have H1 : (some false) = some r := by rw [if_pos rfl] at H; exact H
              clear H
              have H := H1
              clear H1
              obtain rfl := Option.some.inj H
              go_wp2
              repeat (go_quiet (fail); try go_wp2)
              go_ret
              exact ⟨by first | rfl | (simp [errW_none, errW_some] <;> rfl) | (simp [*, errW_none, errW_some] <;> rfl), by repeat (first | (with_reducible first | exact HB.out | apply below_alloc | apply pw_below_drewN | apply below_drew1) | exact HB.out)⟩
            · replace c19 := Bool.eq_false_iff.mpr c19
              subst c19
              have H1 : (slotmeshlaw22_GraphTrees.l0 kj14 l0 a1 l2 t238 t241 ([] : List Int) 0) = some r := by rw [if_neg (show ¬ (false = true) by decide)] at H; exact H
              clear H
              have H := H1
              clear H1
              have H' := Aside0.mk H
              clear H
              go_wp2
              repeat (go_quiet (fail); try go_wp2)
              go_loopg [12, 13] kj14 (fun kq v12 v13 w' => ∃ (x12_3 : List Int) (x13_3 : Int), v13 = .int .i64 x13_3 ∧ Aside0 (slotmeshlaw22_GraphTrees.l0 kq l0 a1 l2 t238 t241 x12_3 x13_3 = some r) ∧ Aside0 (kq ≤ kj14) ∧ Aside0 (Kd.R (Kd.int .i64) 3 w' w.heap.size (fun k_ => some k_ ≠ (v12 : Value).ownBlock) v243 t241) ∧ Aside0 (Kd.R (Kd.int .i64) 3 w' w.heap.size (fun k_ => some k_ ≠ (v243 : Value).ownBlock) v12 x12_3) ∧ Aside0 (Below w.heap.size w w'))
              case atStart => exact ⟨(([] : List Int)), (0), (by first | rfl | (simp; done) | (simp [*]; done)), H', ⟨Nat.le_refl _⟩, ⟨by (with_reducible repeat (first | apply Kd.R_alloc | apply Kd.R_drewN | apply Kd.R_drew)); exact Kd.R_mono HO_10.out (fun _ hk => (by simp [Value.ownBlock]))⟩, ⟨by first | exact Kd.R_nil _ _ _ _ _ | exact Kd.N_nil _ _ _ _ _ | exact Kd.V_nil _ _ _ _ _ | exact Kd.Q_nil _ _ _ _ _ | exact Kd.S_nil _ _ _ _ _⟩, ⟨by repeat (first | (with_reducible first | exact HB.out | apply below_alloc | apply pw_below_drewN | apply below_drew1) | exact HB.out)⟩⟩
              case round =>
                clear H'
                try clear c1
                try clear c2
                try clear p2
                try clear c4
                try clear c9
                try clear c10
                try clear c11
                try clear c11b0
                try clear c12
                try clear c12b0
                try clear c13
                try clear c17
                try clear c17b0
                try clear c17b1
                try clear c19
                try clear p2
                obtain ⟨x12_3, x13_3, rfl, HA, HK3, HO_10, HO_12, HB⟩ := hrel
                cases gk with
                | zero => exact absurd HA.out (by simp [slotmeshlaw22_GraphTrees.l0])
                | succ k3 =>
                  have H := HA.out
                  clear HA
                  simp only [slotmeshlaw22_GraphTrees.l0] at H
                  by_cases c20 : x13_3 < (t241.length : Int)
                  · rw [if_pos c20] at H
                    have c20b0 : decide (x13_3 < (t241.length : Int)) = true := decide_eq_true c20
                    clear c20
                    have H' := Aside0.mk H
                    clear H
                    obtain ⟨Ao21, co21, eo21⟩ := Kd.R_slice HO_10.out
                    subst eo21
                    go_wp2
                    repeat (go_quiet (fail); try go_wp2)
                    go_loopg [14, 15] k3 (fun kq v14 v15 w' => ∃ (x14_4 : List Int) (x15_4 : Int), v15 = .int .i64 x15_4 ∧ Aside0 (slotmeshlaw22_GraphTrees.l1 kq l0 a1 l2 t238 t241 x12_3 x13_3 x14_4 x15_4 = some r) ∧ Aside0 (kq ≤ k3) ∧ Aside0 (Kd.R (Kd.int .i64) 3 w' w.heap.size (fun k_ => some k_ ≠ (u12 : Value).ownBlock ∧ some k_ ≠ (v14 : Value).ownBlock) (.slice Ao21 t241.length co21) t241) ∧ Aside0 (Kd.R (Kd.int .i64) 3 w' w.heap.size (fun k_ => some k_ ≠ ((.slice Ao21 t241.length co21) : Value).ownBlock ∧ some k_ ≠ (v14 : Value).ownBlock) u12 x12_3) ∧ Aside0 (Kd.R (Kd.int .i64) 3 w' w.heap.size (fun k_ => some k_ ≠ ((.slice Ao21 t241.length co21) : Value).ownBlock ∧ some k_ ≠ (u12 : Value).ownBlock) v14 x14_4) ∧ Aside0 (Below w.heap.size w w'))
                    case atStart => exact ⟨(([] : List Int)), (0), (by first | rfl | (simp; done) | (simp [*]; done)), H', ⟨Nat.le_refl _⟩, ⟨by (with_reducible repeat (first | apply Kd.R_alloc | apply Kd.R_drewN | apply Kd.R_drew)); exact Kd.R_mono HO_10.out (fun _ hk => ⟨hk, (by simp [Value.ownBlock])⟩)⟩, ⟨by (with_reducible repeat (first | apply Kd.R_alloc | apply Kd.R_drewN | apply Kd.R_drew)); exact Kd.R_mono HO_12.out (fun _ hk => ⟨hk, (by simp [Value.ownBlock])⟩)⟩, ⟨by first | exact Kd.R_nil _ _ _ _ _ | exact Kd.N_nil _ _ _ _ _ | exact Kd.V_nil _ _ _ _ _ | exact Kd.Q_nil _ _ _ _ _ | exact Kd.S_nil _ _ _ _ _⟩, ⟨by repeat (first | (with_reducible first | exact HB.out | apply below_alloc | apply pw_below_drewN | apply below_drew1) | exact HB.out)⟩⟩
                    case round =>
                      clear H'
                      try clear c1
                      try clear c2
                      try clear p2
                      try clear c4
                      try clear c9
                      try clear c10
                      try clear c11
                      try clear c11b0
                      try clear c12
                      try clear c12b0
                      try clear c13
                      try clear c17
                      try clear c17b0
                      try clear c17b1
                      try clear c19
                      try clear c20
                      try clear c20b0
                      try clear p2
                      obtain ⟨x14_4, x15_4, rfl, HA, HK4, HO_10, HO_12, HO_14, HB⟩ := hrel
                      cases gk with
                      | zero => exact absurd HA.out (by simp [slotmeshlaw22_GraphTrees.l1])
                      | succ k4 =>
                        have H := HA.out
                        clear HA
                        simp only [slotmeshlaw22_GraphTrees.l1] at H
                        by_cases c22 : x15_4 < (t241.length : Int)
                        · rw [if_pos c22] at H
                          have c22b0 : decide (x15_4 < (t241.length : Int)) = true := decide_eq_true c22
                          clear c22
                          by_cases c23 : 0 ≤ x13_3
                          · rw [if_pos c23] at H
                            have c23b0 : decide (0 ≤ x13_3) = true := decide_eq_true c23
                            clear c23
                            by_cases c24 : x13_3 < (l0.length : Int)
                            · rw [if_pos c24] at H
                              have c24b0 : decide (x13_3 < (l0.length : Int)) = true := decide_eq_true c24
                              clear c24
                              by_cases c25 : 0 ≤ x15_4
                              · rw [if_pos c25] at H
                                have c25b0 : decide (0 ≤ x15_4) = true := decide_eq_true c25
                                clear c25
                                by_cases c26 : x15_4 < ((rd_L2 l0 x13_3).length : Int)
                                · rw [if_pos c26] at H
                                  have c26b0 : decide (x15_4 < ((rd_L2 l0 x13_3).length : Int)) = true := decide_eq_true c26
                                  clear c26
                                  obtain ⟨bq27, hbq27⟩ : ∃ b_ : Bool, b_ = (rdOf false (rd_L2 l0 x13_3) x15_4) := ⟨_, rfl⟩
                                  replace H : (if bq27 = true then (if (rd t241 x15_4) ≥ 0 then (if x13_3 < (t241.length : Int) then (if (rd t241 x15_4) < (rd t241 x13_3) then (if x14_4.length < 17592186044416 then (slotmeshlaw22_GraphTrees.l1 k4 l0 a1 l2 t238 t241 x12_3 x13_3 (x14_4 ++ [x15_4]) (wrap64 (x15_4 + 1))) else (none)) else (slotmeshlaw22_GraphTrees.l1 k4 l0 a1 l2 t238 t241 x12_3 x13_3 x14_4 (wrap64 (x15_4 + 1)))) else (none)) else (slotmeshlaw22_GraphTrees.l1 k4 l0 a1 l2 t238 t241 x12_3 x13_3 x14_4 (wrap64 (x15_4 + 1)))) else (slotmeshlaw22_GraphTrees.l1 k4 l0 a1 l2 t238 t241 x12_3 x13_3 x14_4 (wrap64 (x15_4 + 1)))) = some r := by rw [← hbq27] at H; exact H
                                  have Nbq27 := Aside0.mk hbq27
                                  clear hbq27
                                  by_cases c28 : bq27 = true
                                  · subst c28
                                    have H1 : (if (rd t241 x15_4) ≥ 0 then (if x13_3 < (t241.length : Int) then (if (rd t241 x15_4) < (rd t241 x13_3) then (if x14_4.length < 17592186044416 then (slotmeshlaw22_GraphTrees.l1 k4 l0 a1 l2 t238 t241 x12_3 x13_3 (x14_4 ++ [x15_4]) (wrap64 (x15_4 + 1))) else (none)) else (slotmeshlaw22_GraphTrees.l1 k4 l0 a1 l2 t238 t241 x12_3 x13_3 x14_4 (wrap64 (x15_4 + 1)))) else (none)) else (slotmeshlaw22_GraphTrees.l1 k4 l0 a1 l2 t238 t241 x12_3 x13_3 x14_4 (wrap64 (x15_4 + 1)))) = some r := by rw [if_pos rfl] at H; exact H
                                    clear H
                                    have H := H1
                                    clear H1
                                    by_cases c29 : (rd t241 x15_4) ≥ 0
                                    · rw [if_pos c29] at H
                                      have c29b0 : decide (0 ≤ (rd t241 x15_4)) = true := decide_eq_true c29
                                      clear c29
                                      by_cases c30 : x13_3 < (t241.length : Int)
                                      · rw [if_pos c30] at H
                                        have c30b0 : decide (x13_3 < (t241.length : Int)) = true := decide_eq_true c30
                                        clear c30
                                        by_cases c31 : (rd t241 x15_4) < (rd t241 x13_3)
                                        · rw [if_pos c31] at H
                                          have c31b0 : decide ((rd t241 x15_4) < (rd t241 x13_3)) = true := decide_eq_true c31
                                          clear c31
                                          by_cases c32 : x14_4.length < 17592186044416
                                          · rw [if_pos c32] at H
                                            have LMc32 := Aside0.mk c32
                                            clear c32
                                            obtain ⟨y250, hy250⟩ : ∃ y_ : List Int, y_ = (x14_4 ++ [x15_4]) := ⟨_, rfl⟩
                                            replace H : (slotmeshlaw22_GraphTrees.l1 k4 l0 a1 l2 t238 t241 x12_3 x13_3 y250 (wrap64 (x15_4 + 1))) = some r := by first | (rw [hy250]; with_reducible exact H) | (have H2_ := (Option.bind_some _ _).symm.trans H; rw [hy250]; with_reducible exact H2_) | (have H2_ := (Option.bind_some _ _).symm.trans H; with_reducible exact H2_) | with_reducible exact H | (rw [hy250]; exact H) | exact H
                                            have Ny250 := Aside0.mk hy250
                                            clear hy250
                                            have H' := Aside0.mk H
                                            clear H
                                            have p245 : 0 ≤ (x13_3 : Int) := of_decide_eq_true (by first | (with_reducible assumption) | assumption)
                                            have q245 : x13_3 < (l0.length : Int) := of_decide_eq_true (by first | (with_reducible assumption) | assumption)
                                            obtain ⟨ad245, A245_0, c245_0, e245, hx245_0, hl245_0, hi245_0⟩ := at_L2 HR0.out x13_3 p245 q245
                                            cases e245
                                            replace hx245_0 := (HB.out.cell (World.block_lt_of_cell? w _ hx245_0)).trans hx245_0
                                            have HR245_0 := Aside0.mk hi245_0
                                            have HC245_0 := Aside0.mk hl245_0
                                            clear hi245_0 hl245_0
                                            replace p245 := eq_true p245
                                            replace q245 := eq_true q245
                                            have p246 : 0 ≤ (x15_4 : Int) := of_decide_eq_true (by first | (with_reducible assumption) | assumption)
                                            have q246 : x15_4 < ((rd_L2 l0 x13_3).length : Int) := of_decide_eq_true (by first | (with_reducible assumption) | assumption)
                                            obtain ⟨ad246, e246, hx246_0⟩ := Kd.at_bool HR245_0.out x15_4 p246 q246
                                            (try rw [← Nbq27.out] at hx246_0)
                                            cases e246
                                            replace hx246_0 := (HB.out.cell (World.block_lt_of_cell? w _ hx246_0)).trans hx246_0
                                            replace p246 := eq_true p246
                                            replace q246 := eq_true q246
                                            have p247 : 0 ≤ (x15_4 : Int) := of_decide_eq_true (by first | (with_reducible assumption) | assumption)
                                            have q247 : x15_4 < (t241.length : Int) := of_decide_eq_true (by first | (with_reducible assumption) | assumption)
                                            obtain ⟨ad247, e247, hx247_0⟩ := Kd.at_int (Kd.R_reads' HO_10.out).2.2 x15_4 p247 q247
                                            cases e247
                                            replace p247 := eq_true p247
                                            replace q247 := eq_true q247
                                            have p248 : 0 ≤ (x15_4 : Int) := of_decide_eq_true (by first | (with_reducible assumption) | assumption)
                                            have q248 : x15_4 < (t241.length : Int) := of_decide_eq_true (by first | (with_reducible assumption) | assumption)
                                            obtain ⟨ad248, e248, hx248_0⟩ := Kd.at_int (Kd.R_reads' HO_10.out).2.2 x15_4 p248 q248
                                            obtain rfl : ad247 = ad248 := (by injection e248)
                                            replace p248 := eq_true p248
                                            replace q248 := eq_true q248
                                            have p249 : 0 ≤ (x13_3 : Int) := of_decide_eq_true (by first | (with_reducible assumption) | assumption)
                                            have q249 : x13_3 < (t241.length : Int) := of_decide_eq_true (by first | (with_reducible assumption) | assumption)
                                            obtain ⟨ad249, e249, hx249_0⟩ := Kd.at_int (Kd.R_reads' HO_10.out).2.2 x13_3 p249 q249
                                            obtain rfl : ad247 = ad249 := (by injection e249)
                                            replace p249 := eq_true p249
                                            replace q249 := eq_true q249
                                            go_wp2_with (first | ((with_reducible refine gate_builtin (b := .append) (xs := #[.tmp 99, .tmp 101]) rfl ?_); (try (refine gate_guard (by rfl) ?_; dsimp only)); at_builtin; refine Kd.R_append (Kd.int .i64) (w0 := w) w.heap.size rfl (.tmp 99) (.tmp 101) 22 3 (.int .i64 0) 8 rfl Try.underlying22 info3 rfl (by decide) (by omega) u14 x14_4 x15_4 [.int .i64 x15_4] (fun k_ => some k_ ≠ (.slice (some ad247) t241.length co21 : Value).ownBlock ∧ some k_ ≠ (u12 : Value).ownBlock) (fun _ => False) rfl rfl ?aP (fun _ hk => hk.elim) ?aF ?aO ?aB ?aS ?aL ?_; (case aP => exact rfl); (case aB => exact (by repeat (first | (with_reducible first | exact HB.out | apply below_alloc | apply pw_below_drewN | apply below_drew1) | exact HB.out))); (case aF => exact (fun k_ hk => ⟨Kd.fresh' (Kd.R_lt (by (with_reducible repeat (first | apply Kd.R_alloc | apply Kd.R_drewN | apply Kd.R_drew)); exact HO_10.out)) k_ hk, Kd.fresh' (Kd.R_lt (by (with_reducible repeat (first | apply Kd.R_alloc | apply Kd.R_drewN | apply Kd.R_drew)); exact HO_12.out)) k_ hk⟩)); (case aO => exact (by (with_reducible repeat (first | apply Kd.R_alloc | apply Kd.R_drewN | apply Kd.R_drew)); exact HO_14.out)); (case aS => exact (below_size (by repeat (first | (with_reducible first | exact HB.out | apply below_alloc | apply pw_below_drewN | apply below_drew1) | exact HB.out)))); (case aL => have := LMc32.out; omega); intro v251 w33 ho hb hg hat; rw [← Ny250.out] at ho; have n0_ := Aside0.mk (Kd.R_after (ok := (fun k_ => some k_ ≠ (u12 : Value).ownBlock)) (by (with_reducible repeat (first | apply Kd.R_alloc | apply Kd.R_drewN | apply Kd.R_drew)); exact HO_10.out) hg hat); have n1_ := Aside0.mk (Kd.R_after (ok := (fun k_ => some k_ ≠ (.slice (some ad247) t241.length co21 : Value).ownBlock)) (by (with_reducible repeat (first | apply Kd.R_alloc | apply Kd.R_drewN | apply Kd.R_drew)); exact HO_12.out) hg hat); have n2_ := Aside0.mk (hb); have n3_ := Aside0.mk (ho); clear HO_10; clear HO_12; clear HB; clear HO_14; have HO_10 := n0_; have HO_12 := n1_; have HB := n2_; have HO252 := n3_; clear n0_ n1_ n2_ n3_; clear ho hb hg hat))
                                            repeat (go_quiet (first | ((with_reducible refine gate_builtin (b := .append) (xs := #[.tmp 99, .tmp 101]) rfl ?_); (try (refine gate_guard (by rfl) ?_; dsimp only)); at_builtin; refine Kd.R_append (Kd.int .i64) (w0 := w) w.heap.size rfl (.tmp 99) (.tmp 101) 22 3 (.int .i64 0) 8 rfl Try.underlying22 info3 rfl (by decide) (by omega) u14 x14_4 x15_4 [.int .i64 x15_4] (fun k_ => some k_ ≠ (.slice (some ad247) t241.length co21 : Value).ownBlock ∧ some k_ ≠ (u12 : Value).ownBlock) (fun _ => False) rfl rfl ?aP (fun _ hk => hk.elim) ?aF ?aO ?aB ?aS ?aL ?_; (case aP => exact rfl); (case aB => exact (by repeat (first | (with_reducible first | exact HB.out | apply below_alloc | apply pw_below_drewN | apply below_drew1) | exact HB.out))); (case aF => exact (fun k_ hk => ⟨Kd.fresh' (Kd.R_lt (by (with_reducible repeat (first | apply Kd.R_alloc | apply Kd.R_drewN | apply Kd.R_drew)); exact HO_10.out)) k_ hk, Kd.fresh' (Kd.R_lt (by (with_reducible repeat (first | apply Kd.R_alloc | apply Kd.R_drewN | apply Kd.R_drew)); exact HO_12.out)) k_ hk⟩)); (case aO => exact (by (with_reducible repeat (first | apply Kd.R_alloc | apply Kd.R_drewN | apply Kd.R_drew)); exact HO_14.out)); (case aS => exact (below_size (by repeat (first | (with_reducible first | exact HB.out | apply below_alloc | apply pw_below_drewN | apply below_drew1) | exact HB.out)))); (case aL => have := LMc32.out; omega); intro v251 w33 ho hb hg hat; rw [← Ny250.out] at ho; have n0_ := Aside0.mk (Kd.R_after (ok := (fun k_ => some k_ ≠ (u12 : Value).ownBlock)) (by (with_reducible repeat (first | apply Kd.R_alloc | apply Kd.R_drewN | apply Kd.R_drew)); exact HO_10.out) hg hat); have n1_ := Aside0.mk (Kd.R_after (ok := (fun k_ => some k_ ≠ (.slice (some ad247) t241.length co21 : Value).ownBlock)) (by (with_reducible repeat (first | apply Kd.R_alloc | apply Kd.R_drewN | apply Kd.R_drew)); exact HO_12.out) hg hat); have n2_ := Aside0.mk (hb); have n3_ := Aside0.mk (ho); clear HO_10; clear HO_12; clear HB; clear HO_14; have HO_10 := n0_; have HO_12 := n1_; have HB := n2_; have HO252 := n3_; clear n0_ n1_ n2_ n3_; clear ho hb hg hat)); try go_wp2_with (first | ((with_reducible refine gate_builtin (b := .append) (xs := #[.tmp 99, .tmp 101]) rfl ?_); (try (refine gate_guard (by rfl) ?_; dsimp only)); at_builtin; refine Kd.R_append (Kd.int .i64) (w0 := w) w.heap.size rfl (.tmp 99) (.tmp 101) 22 3 (.int .i64 0) 8 rfl Try.underlying22 info3 rfl (by decide) (by omega) u14 x14_4 x15_4 [.int .i64 x15_4] (fun k_ => some k_ ≠ (.slice (some ad247) t241.length co21 : Value).ownBlock ∧ some k_ ≠ (u12 : Value).ownBlock) (fun _ => False) rfl rfl ?aP (fun _ hk => hk.elim) ?aF ?aO ?aB ?aS ?aL ?_; (case aP => exact rfl); (case aB => exact (by repeat (first | (with_reducible first | exact HB.out | apply below_alloc | apply pw_below_drewN | apply below_drew1) | exact HB.out))); (case aF => exact (fun k_ hk => ⟨Kd.fresh' (Kd.R_lt (by (with_reducible repeat (first | apply Kd.R_alloc | apply Kd.R_drewN | apply Kd.R_drew)); exact HO_10.out)) k_ hk, Kd.fresh' (Kd.R_lt (by (with_reducible repeat (first | apply Kd.R_alloc | apply Kd.R_drewN | apply Kd.R_drew)); exact HO_12.out)) k_ hk⟩)); (case aO => exact (by (with_reducible repeat (first | apply Kd.R_alloc | apply Kd.R_drewN | apply Kd.R_drew)); exact HO_14.out)); (case aS => exact (below_size (by repeat (first | (with_reducible first | exact HB.out | apply below_alloc | apply pw_below_drewN | apply below_drew1) | exact HB.out)))); (case aL => have := LMc32.out; omega); intro v251 w33 ho hb hg hat; rw [← Ny250.out] at ho; have n0_ := Aside0.mk (Kd.R_after (ok := (fun k_ => some k_ ≠ (u12 : Value).ownBlock)) (by (with_reducible repeat (first | apply Kd.R_alloc | apply Kd.R_drewN | apply Kd.R_drew)); exact HO_10.out) hg hat); have n1_ := Aside0.mk (Kd.R_after (ok := (fun k_ => some k_ ≠ (.slice (some ad247) t241.length co21 : Value).ownBlock)) (by (with_reducible repeat (first | apply Kd.R_alloc | apply Kd.R_drewN | apply Kd.R_drew)); exact HO_12.out) hg hat); have n2_ := Aside0.mk (hb); have n3_ := Aside0.mk (ho); clear HO_10; clear HO_12; clear HB; clear HO_14; have HO_10 := n0_; have HO_12 := n1_; have HB := n2_; have HO252 := n3_; clear n0_ n1_ n2_ n3_; clear ho hb hg hat)))
                                            go_roundg k4
                                            case measure => have := HJ6.out; have := HJ14.out; have := HK3.out; have := HK4.out; omega
                                            case rel => exact ⟨(y250), (wrap64 (x15_4 + 1)), (by first | rfl | (simp; done) | (simp [*]; done)), H', ⟨by have := HJ6.out; have := HJ14.out; have := HK3.out; have := HK4.out; omega⟩, ⟨by (with_reducible repeat (first | apply Kd.R_alloc | apply Kd.R_drewN | apply Kd.R_drew)); exact HO_10.out⟩, ⟨by (with_reducible repeat (first | apply Kd.R_alloc | apply Kd.R_drewN | apply Kd.R_drew)); exact HO_12.out⟩, ⟨by (with_reducible repeat (first | apply Kd.R_alloc | apply Kd.R_drewN | apply Kd.R_drew)); exact HO252.out⟩, ⟨by repeat (first | (with_reducible first | exact HB.out | apply below_alloc | apply pw_below_drewN | apply below_drew1) | exact HB.out)⟩⟩
                                          · rw [if_neg c32] at H
                                            exact absurd H (by simp)
                                        · rw [if_neg c31] at H
                                          have c31b0 : decide ((rd t241 x15_4) < (rd t241 x13_3)) = false := decide_eq_false c31
                                          clear c31
                                          have H' := Aside0.mk H
                                          clear H
                                          have p245 : 0 ≤ (x13_3 : Int) := of_decide_eq_true (by first | (with_reducible assumption) | assumption)
                                          have q245 : x13_3 < (l0.length : Int) := of_decide_eq_true (by first | (with_reducible assumption) | assumption)
                                          obtain ⟨ad245, A245_0, c245_0, e245, hx245_0, hl245_0, hi245_0⟩ := at_L2 HR0.out x13_3 p245 q245
                                          cases e245
                                          replace hx245_0 := (HB.out.cell (World.block_lt_of_cell? w _ hx245_0)).trans hx245_0
                                          have HR245_0 := Aside0.mk hi245_0
                                          have HC245_0 := Aside0.mk hl245_0
                                          clear hi245_0 hl245_0
                                          replace p245 := eq_true p245
                                          replace q245 := eq_true q245
                                          have p246 : 0 ≤ (x15_4 : Int) := of_decide_eq_true (by first | (with_reducible assumption) | assumption)
                                          have q246 : x15_4 < ((rd_L2 l0 x13_3).length : Int) := of_decide_eq_true (by first | (with_reducible assumption) | assumption)
                                          obtain ⟨ad246, e246, hx246_0⟩ := Kd.at_bool HR245_0.out x15_4 p246 q246
                                          (try rw [← Nbq27.out] at hx246_0)
                                          cases e246
                                          replace hx246_0 := (HB.out.cell (World.block_lt_of_cell? w _ hx246_0)).trans hx246_0
                                          replace p246 := eq_true p246
                                          replace q246 := eq_true q246
                                          have p247 : 0 ≤ (x15_4 : Int) := of_decide_eq_true (by first | (with_reducible assumption) | assumption)
                                          have q247 : x15_4 < (t241.length : Int) := of_decide_eq_true (by first | (with_reducible assumption) | assumption)
                                          obtain ⟨ad247, e247, hx247_0⟩ := Kd.at_int (Kd.R_reads' HO_10.out).2.2 x15_4 p247 q247
                                          cases e247
                                          replace p247 := eq_true p247
                                          replace q247 := eq_true q247
                                          have p248 : 0 ≤ (x15_4 : Int) := of_decide_eq_true (by first | (with_reducible assumption) | assumption)
                                          have q248 : x15_4 < (t241.length : Int) := of_decide_eq_true (by first | (with_reducible assumption) | assumption)
                                          obtain ⟨ad248, e248, hx248_0⟩ := Kd.at_int (Kd.R_reads' HO_10.out).2.2 x15_4 p248 q248
                                          obtain rfl : ad247 = ad248 := (by injection e248)
                                          replace p248 := eq_true p248
                                          replace q248 := eq_true q248
                                          have p249 : 0 ≤ (x13_3 : Int) := of_decide_eq_true (by first | (with_reducible assumption) | assumption)
                                          have q249 : x13_3 < (t241.length : Int) := of_decide_eq_true (by first | (with_reducible assumption) | assumption)
                                          obtain ⟨ad249, e249, hx249_0⟩ := Kd.at_int (Kd.R_reads' HO_10.out).2.2 x13_3 p249 q249
                                          obtain rfl : ad247 = ad249 := (by injection e249)
                                          replace p249 := eq_true p249
                                          replace q249 := eq_true q249
                                          go_wp2
                                          repeat (go_quiet (fail); try go_wp2)
                                          go_roundg k4
                                          case measure => have := HJ6.out; have := HJ14.out; have := HK3.out; have := HK4.out; omega
                                          case rel => exact ⟨(x14_4), (wrap64 (x15_4 + 1)), (by first | rfl | (simp; done) | (simp [*]; done)), H', ⟨by have := HJ6.out; have := HJ14.out; have := HK3.out; have := HK4.out; omega⟩, ⟨by (with_reducible repeat (first | apply Kd.R_alloc | apply Kd.R_drewN | apply Kd.R_drew)); exact HO_10.out⟩, ⟨by (with_reducible repeat (first | apply Kd.R_alloc | apply Kd.R_drewN | apply Kd.R_drew)); exact HO_12.out⟩, ⟨by (with_reducible repeat (first | apply Kd.R_alloc | apply Kd.R_drewN | apply Kd.R_drew)); exact HO_14.out⟩, ⟨by repeat (first | (with_reducible first | exact HB.out | apply below_alloc | apply pw_below_drewN | apply below_drew1) | exact HB.out)⟩⟩
                                      · rw [if_neg c30] at H
                                        exact absurd H (by simp)
                                    · rw [if_neg c29] at H
                                      have c29b0 : decide (0 ≤ (rd t241 x15_4)) = false := decide_eq_false c29
                                      clear c29
                                      have H' := Aside0.mk H
                                      clear H
                                      have p245 : 0 ≤ (x13_3 : Int) := of_decide_eq_true (by first | (with_reducible assumption) | assumption)
                                      have q245 : x13_3 < (l0.length : Int) := of_decide_eq_true (by first | (with_reducible assumption) | assumption)
                                      obtain ⟨ad245, A245_0, c245_0, e245, hx245_0, hl245_0, hi245_0⟩ := at_L2 HR0.out x13_3 p245 q245
                                      cases e245
                                      replace hx245_0 := (HB.out.cell (World.block_lt_of_cell? w _ hx245_0)).trans hx245_0
                                      have HR245_0 := Aside0.mk hi245_0
                                      have HC245_0 := Aside0.mk hl245_0
                                      clear hi245_0 hl245_0
                                      replace p245 := eq_true p245
                                      replace q245 := eq_true q245
                                      have p246 : 0 ≤ (x15_4 : Int) := of_decide_eq_true (by first | (with_reducible assumption) | assumption)
                                      have q246 : x15_4 < ((rd_L2 l0 x13_3).length : Int) := of_decide_eq_true (by first | (with_reducible assumption) | assumption)
                                      obtain ⟨ad246, e246, hx246_0⟩ := Kd.at_bool HR245_0.out x15_4 p246 q246
                                      (try rw [← Nbq27.out] at hx246_0)
                                      cases e246
                                      replace hx246_0 := (HB.out.cell (World.block_lt_of_cell? w _ hx246_0)).trans hx246_0
                                      replace p246 := eq_true p246
                                      replace q246 := eq_true q246
                                      have p247 : 0 ≤ (x15_4 : Int) := of_decide_eq_true (by first | (with_reducible assumption) | assumption)
                                      have q247 : x15_4 < (t241.length : Int) := of_decide_eq_true (by first | (with_reducible assumption) | assumption)
                                      obtain ⟨ad247, e247, hx247_0⟩ := Kd.at_int (Kd.R_reads' HO_10.out).2.2 x15_4 p247 q247
                                      cases e247
                                      replace p247 := eq_true p247
                                      replace q247 := eq_true q247
                                      go_wp2
                                      repeat (go_quiet (fail); try go_wp2)
                                      go_roundg k4
                                      case measure => have := HJ6.out; have := HJ14.out; have := HK3.out; have := HK4.out; omega
                                      case rel => exact ⟨(x14_4), (wrap64 (x15_4 + 1)), (by first | rfl | (simp; done) | (simp [*]; done)), H', ⟨by have := HJ6.out; have := HJ14.out; have := HK3.out; have := HK4.out; omega⟩, ⟨by (with_reducible repeat (first | apply Kd.R_alloc | apply Kd.R_drewN | apply Kd.R_drew)); exact HO_10.out⟩, ⟨by (with_reducible repeat (first | apply Kd.R_alloc | apply Kd.R_drewN | apply Kd.R_drew)); exact HO_12.out⟩, ⟨by (with_reducible repeat (first | apply Kd.R_alloc | apply Kd.R_drewN | apply Kd.R_drew)); exact HO_14.out⟩, ⟨by repeat (first | (with_reducible first | exact HB.out | apply below_alloc | apply pw_below_drewN | apply below_drew1) | exact HB.out)⟩⟩
                                  · replace c28 := Bool.eq_false_iff.mpr c28
                                    subst c28
                                    have H1 : (slotmeshlaw22_GraphTrees.l1 k4 l0 a1 l2 t238 t241 x12_3 x13_3 x14_4 (wrap64 (x15_4 + 1))) = some r := by rw [if_neg (show ¬ (false = true) by decide)] at H; exact H
                                    clear H
                                    have H := H1
                                    clear H1
                                    have H' := Aside0.mk H
                                    clear H
                                    have p245 : 0 ≤ (x13_3 : Int) := of_decide_eq_true (by first | (with_reducible assumption) | assumption)
                                    have q245 : x13_3 < (l0.length : Int) := of_decide_eq_true (by first | (with_reducible assumption) | assumption)
                                    obtain ⟨ad245, A245_0, c245_0, e245, hx245_0, hl245_0, hi245_0⟩ := at_L2 HR0.out x13_3 p245 q245
                                    cases e245
                                    replace hx245_0 := (HB.out.cell (World.block_lt_of_cell? w _ hx245_0)).trans hx245_0
                                    have HR245_0 := Aside0.mk hi245_0
                                    have HC245_0 := Aside0.mk hl245_0
                                    clear hi245_0 hl245_0
                                    replace p245 := eq_true p245
                                    replace q245 := eq_true q245
                                    have p246 : 0 ≤ (x15_4 : Int) := of_decide_eq_true (by first | (with_reducible assumption) | assumption)
                                    have q246 : x15_4 < ((rd_L2 l0 x13_3).length : Int) := of_decide_eq_true (by first | (with_reducible assumption) | assumption)
                                    obtain ⟨ad246, e246, hx246_0⟩ := Kd.at_bool HR245_0.out x15_4 p246 q246
                                    (try rw [← Nbq27.out] at hx246_0)
                                    cases e246
                                    replace hx246_0 := (HB.out.cell (World.block_lt_of_cell? w _ hx246_0)).trans hx246_0
                                    replace p246 := eq_true p246
                                    replace q246 := eq_true q246
                                    go_wp2
                                    repeat (go_quiet (fail); try go_wp2)
                                    go_roundg k4
                                    case measure => have := HJ6.out; have := HJ14.out; have := HK3.out; have := HK4.out; omega
                                    case rel => exact ⟨(x14_4), (wrap64 (x15_4 + 1)), (by first | rfl | (simp; done) | (simp [*]; done)), H', ⟨by have := HJ6.out; have := HJ14.out; have := HK3.out; have := HK4.out; omega⟩, ⟨by (with_reducible repeat (first | apply Kd.R_alloc | apply Kd.R_drewN | apply Kd.R_drew)); exact HO_10.out⟩, ⟨by (with_reducible repeat (first | apply Kd.R_alloc | apply Kd.R_drewN | apply Kd.R_drew)); exact HO_12.out⟩, ⟨by (with_reducible repeat (first | apply Kd.R_alloc | apply Kd.R_drewN | apply Kd.R_drew)); exact HO_14.out⟩, ⟨by repeat (first | (with_reducible first | exact HB.out | apply below_alloc | apply pw_below_drewN | apply below_drew1) | exact HB.out)⟩⟩
                                · rw [if_neg c26] at H
                                  exact absurd H (by simp)
                              · rw [if_neg c25] at H
                                exact absurd H (by simp)
                            · rw [if_neg c24] at H
                              exact absurd H (by simp)
                          · rw [if_neg c23] at H
                            exact absurd H (by simp)
                        · rw [if_neg c22] at H
                          have c22b0 : decide (x15_4 < (t241.length : Int)) = false := decide_eq_false c22
                          clear c22
                          by_cases c34 : (x14_4.length : Int) = 0
                          · rw [if_pos c34] at H
                            have c34b0 : ((x14_4.length : Int) == 0) = true := beq_iff_eq.mpr c34
                            have c34b1 : ((x14_4.length : Int) != 0) = false := bne_eq_false_iff_eq.mpr c34
                            clear c34
                            by_cases c35 : x12_3.length < 17592186044416
                            · rw [if_pos c35] at H
                              have LMc35 := Aside0.mk c35
                              clear c35
                              obtain ⟨y253, hy253⟩ : ∃ y_ : List Int, y_ = (x12_3 ++ [(-1)]) := ⟨_, rfl⟩
                              replace H : (slotmeshlaw22_GraphTrees.l0 k4 l0 a1 l2 t238 t241 y253 (wrap64 (x13_3 + 1))) = some r := by first | (rw [hy253]; with_reducible exact H) | (have H2_ := (Option.bind_some _ _).symm.trans H; rw [hy253]; with_reducible exact H2_) | (have H2_ := (Option.bind_some _ _).symm.trans H; with_reducible exact H2_) | with_reducible exact H | (rw [hy253]; exact H) | exact H
                              have Ny253 := Aside0.mk hy253
                              clear hy253
                              have H' := Aside0.mk H
                              clear H
                              obtain ⟨Ao36, co36, eo36⟩ := Kd.R_slice HO_14.out
                              subst eo36
                              go_wp2_with (first | ((with_reducible refine gate_builtin (b := .append) (xs := #[.tmp 106, .tmp 107]) rfl ?_); (try (refine gate_guard (by rfl) ?_; dsimp only)); at_builtin; refine Kd.R_append (Kd.int .i64) (w0 := w) w.heap.size rfl (.tmp 106) (.tmp 107) 22 3 (.int .i64 0) 8 rfl Try.underlying22 info3 rfl (by decide) (by omega) u12 x12_3 (-1) [.int .i64 (-1)] (fun k_ => some k_ ≠ (.slice Ao21 t241.length co21 : Value).ownBlock ∧ some k_ ≠ (.slice Ao36 x14_4.length co36 : Value).ownBlock) (fun _ => False) rfl rfl ?aP (fun _ hk => hk.elim) ?aF ?aO ?aB ?aS ?aL ?_; (case aP => exact rfl); (case aB => exact (by repeat (first | (with_reducible first | exact HB.out | apply below_alloc | apply pw_below_drewN | apply below_drew1) | exact HB.out))); (case aF => exact (fun k_ hk => ⟨Kd.fresh' (Kd.R_lt (by (with_reducible repeat (first | apply Kd.R_alloc | apply Kd.R_drewN | apply Kd.R_drew)); exact HO_10.out)) k_ hk, Kd.fresh' (Kd.R_lt (by (with_reducible repeat (first | apply Kd.R_alloc | apply Kd.R_drewN | apply Kd.R_drew)); exact HO_14.out)) k_ hk⟩)); (case aO => exact (by (with_reducible repeat (first | apply Kd.R_alloc | apply Kd.R_drewN | apply Kd.R_drew)); exact HO_12.out)); (case aS => exact (below_size (by repeat (first | (with_reducible first | exact HB.out | apply below_alloc | apply pw_below_drewN | apply below_drew1) | exact HB.out)))); (case aL => have := LMc35.out; omega); intro v254 w37 ho hb hg hat; rw [← Ny253.out] at ho; have n0_ := Aside0.mk (Kd.R_after (ok := (fun k_ => some k_ ≠ (.slice Ao36 x14_4.length co36 : Value).ownBlock)) (by (with_reducible repeat (first | apply Kd.R_alloc | apply Kd.R_drewN | apply Kd.R_drew)); exact Kd.R_mono HO_10.out (fun _ hk => ⟨hk.2, hk.1⟩)) hg hat); have n1_ := Aside0.mk (Kd.R_after (ok := (fun k_ => some k_ ≠ (.slice Ao21 t241.length co21 : Value).ownBlock)) (by (with_reducible repeat (first | apply Kd.R_alloc | apply Kd.R_drewN | apply Kd.R_drew)); exact HO_14.out) hg hat); have n2_ := Aside0.mk (hb); have n3_ := Aside0.mk (ho); clear HO_10; clear HO_14; clear HB; clear HO_12; have HO_10 := n0_; have HO_14 := n1_; have HB := n2_; have HO255 := n3_; clear n0_ n1_ n2_ n3_; clear ho hb hg hat))
                              repeat (go_quiet (first | ((with_reducible refine gate_builtin (b := .append) (xs := #[.tmp 106, .tmp 107]) rfl ?_); (try (refine gate_guard (by rfl) ?_; dsimp only)); at_builtin; refine Kd.R_append (Kd.int .i64) (w0 := w) w.heap.size rfl (.tmp 106) (.tmp 107) 22 3 (.int .i64 0) 8 rfl Try.underlying22 info3 rfl (by decide) (by omega) u12 x12_3 (-1) [.int .i64 (-1)] (fun k_ => some k_ ≠ (.slice Ao21 t241.length co21 : Value).ownBlock ∧ some k_ ≠ (.slice Ao36 x14_4.length co36 : Value).ownBlock) (fun _ => False) rfl rfl ?aP (fun _ hk => hk.elim) ?aF ?aO ?aB ?aS ?aL ?_; (case aP => exact rfl); (case aB => exact (by repeat (first | (with_reducible first | exact HB.out | apply below_alloc | apply pw_below_drewN | apply below_drew1) | exact HB.out))); (case aF => exact (fun k_ hk => ⟨Kd.fresh' (Kd.R_lt (by (with_reducible repeat (first | apply Kd.R_alloc | apply Kd.R_drewN | apply Kd.R_drew)); exact HO_10.out)) k_ hk, Kd.fresh' (Kd.R_lt (by (with_reducible repeat (first | apply Kd.R_alloc | apply Kd.R_drewN | apply Kd.R_drew)); exact HO_14.out)) k_ hk⟩)); (case aO => exact (by (with_reducible repeat (first | apply Kd.R_alloc | apply Kd.R_drewN | apply Kd.R_drew)); exact HO_12.out)); (case aS => exact (below_size (by repeat (first | (with_reducible first | exact HB.out | apply below_alloc | apply pw_below_drewN | apply below_drew1) | exact HB.out)))); (case aL => have := LMc35.out; omega); intro v254 w37 ho hb hg hat; rw [← Ny253.out] at ho; have n0_ := Aside0.mk (Kd.R_after (ok := (fun k_ => some k_ ≠ (.slice Ao36 x14_4.length co36 : Value).ownBlock)) (by (with_reducible repeat (first | apply Kd.R_alloc | apply Kd.R_drewN | apply Kd.R_drew)); exact Kd.R_mono HO_10.out (fun _ hk => ⟨hk.2, hk.1⟩)) hg hat); have n1_ := Aside0.mk (Kd.R_after (ok := (fun k_ => some k_ ≠ (.slice Ao21 t241.length co21 : Value).ownBlock)) (by (with_reducible repeat (first | apply Kd.R_alloc | apply Kd.R_drewN | apply Kd.R_drew)); exact HO_14.out) hg hat); have n2_ := Aside0.mk (hb); have n3_ := Aside0.mk (ho); clear HO_10; clear HO_14; clear HB; clear HO_12; have HO_10 := n0_; have HO_14 := n1_; have HB := n2_; have HO255 := n3_; clear n0_ n1_ n2_ n3_; clear ho hb hg hat)); try go_wp2_with (first | ((with_reducible refine gate_builtin (b := .append) (xs := #[.tmp 106, .tmp 107]) rfl ?_); (try (refine gate_guard (by rfl) ?_; dsimp only)); at_builtin; refine Kd.R_append (Kd.int .i64) (w0 := w) w.heap.size rfl (.tmp 106) (.tmp 107) 22 3 (.int .i64 0) 8 rfl Try.underlying22 info3 rfl (by decide) (by omega) u12 x12_3 (-1) [.int .i64 (-1)] (fun k_ => some k_ ≠ (.slice Ao21 t241.length co21 : Value).ownBlock ∧ some k_ ≠ (.slice Ao36 x14_4.length co36 : Value).ownBlock) (fun _ => False) rfl rfl ?aP (fun _ hk => hk.elim) ?aF ?aO ?aB ?aS ?aL ?_; (case aP => exact rfl); (case aB => exact (by repeat (first | (with_reducible first | exact HB.out | apply below_alloc | apply pw_below_drewN | apply below_drew1) | exact HB.out))); (case aF => exact (fun k_ hk => ⟨Kd.fresh' (Kd.R_lt (by (with_reducible repeat (first | apply Kd.R_alloc | apply Kd.R_drewN | apply Kd.R_drew)); exact HO_10.out)) k_ hk, Kd.fresh' (Kd.R_lt (by (with_reducible repeat (first | apply Kd.R_alloc | apply Kd.R_drewN | apply Kd.R_drew)); exact HO_14.out)) k_ hk⟩)); (case aO => exact (by (with_reducible repeat (first | apply Kd.R_alloc | apply Kd.R_drewN | apply Kd.R_drew)); exact HO_12.out)); (case aS => exact (below_size (by repeat (first | (with_reducible first | exact HB.out | apply below_alloc | apply pw_below_drewN | apply below_drew1) | exact HB.out)))); (case aL => have := LMc35.out; omega); intro v254 w37 ho hb hg hat; rw [← Ny253.out] at ho; have n0_ := Aside0.mk (Kd.R_after (ok := (fun k_ => some k_ ≠ (.slice Ao36 x14_4.length co36 : Value).ownBlock)) (by (with_reducible repeat (first | apply Kd.R_alloc | apply Kd.R_drewN | apply Kd.R_drew)); exact Kd.R_mono HO_10.out (fun _ hk => ⟨hk.2, hk.1⟩)) hg hat); have n1_ := Aside0.mk (Kd.R_after (ok := (fun k_ => some k_ ≠ (.slice Ao21 t241.length co21 : Value).ownBlock)) (by (with_reducible repeat (first | apply Kd.R_alloc | apply Kd.R_drewN | apply Kd.R_drew)); exact HO_14.out) hg hat); have n2_ := Aside0.mk (hb); have n3_ := Aside0.mk (ho); clear HO_10; clear HO_14; clear HB; clear HO_12; have HO_10 := n0_; have HO_14 := n1_; have HB := n2_; have HO255 := n3_; clear n0_ n1_ n2_ n3_; clear ho hb hg hat)))
                              go_roundg k4
                              case measure => have := HJ6.out; have := HJ14.out; have := HK3.out; have := HK4.out; omega
                              case rel => exact ⟨(y253), (wrap64 (x13_3 + 1)), (by first | rfl | (simp; done) | (simp [*]; done)), H', ⟨by have := HJ6.out; have := HJ14.out; have := HK3.out; have := HK4.out; omega⟩, ⟨by (with_reducible repeat (first | apply Kd.R_alloc | apply Kd.R_drewN | apply Kd.R_drew)); exact Kd.R_mono HO_10.out (fun _ hk => hk.2)⟩, ⟨by (with_reducible repeat (first | apply Kd.R_alloc | apply Kd.R_drewN | apply Kd.R_drew)); exact Kd.R_mono HO255.out (fun _ hk => hk.1)⟩, ⟨by repeat (first | (with_reducible first | exact HB.out | apply below_alloc | apply pw_below_drewN | apply below_drew1) | exact HB.out)⟩⟩
                            · rw [if_neg c35] at H
                              exact absurd H (by simp)
                          · rw [if_neg c34] at H
                            have c34b0 : ((x14_4.length : Int) == 0) = false := beq_eq_false_iff_ne.mpr c34
                            have c34b1 : ((x14_4.length : Int) != 0) = true := bne_iff_ne.mpr c34
                            have c34b2 : ¬ (x14_4 = []) := fun h_ => c34 (by rw [h_]; rfl)
                            by_cases c38 : 0 ≤ x13_3
                            · rw [if_pos c38] at H
                              have c38b0 : decide (0 ≤ x13_3) = true := decide_eq_true c38
                              clear c38
                              by_cases c39 : x13_3 < (l2.length : Int)
                              · rw [if_pos c39] at H
                                have c39b0 : decide (x13_3 < (l2.length : Int)) = true := decide_eq_true c39
                                clear c39
                                replace H := Option.bind_eq_some_iff.mp H
                                obtain ⟨t257, A400, H⟩ := H
                                replace H : (if 0 ≤ t257 then (if t257 < (x14_4.length : Int) then (if x12_3.length < 17592186044416 then (slotmeshlaw22_GraphTrees.l0 k4 l0 a1 l2 t238 t241 (x12_3 ++ [rd x14_4 t257]) (wrap64 (x13_3 + 1))) else (none)) else (none)) else (none)) = some r := H
                                have A40 := Aside0.mk A400
                                clear A400
                                by_cases c41 : 0 ≤ t257
                                · rw [if_pos c41] at H
                                  have c41b0 : decide (0 ≤ t257) = true := decide_eq_true c41
                                  clear c41
                                  by_cases c42 : t257 < (x14_4.length : Int)
                                  · rw [if_pos c42] at H
                                    have c42b0 : decide (t257 < (x14_4.length : Int)) = true := decide_eq_true c42
                                    clear c42
                                    by_cases c43 : x12_3.length < 17592186044416
                                    · rw [if_pos c43] at H
                                      have LMc43 := Aside0.mk c43
                                      clear c43
                                      obtain ⟨y259, hy259⟩ : ∃ y_ : List Int, y_ = (x12_3 ++ [rd x14_4 t257]) := ⟨_, rfl⟩
                                      replace H : (slotmeshlaw22_GraphTrees.l0 k4 l0 a1 l2 t238 t241 y259 (wrap64 (x13_3 + 1))) = some r := by first | (rw [hy259]; with_reducible exact H) | (have H2_ := (Option.bind_some _ _).symm.trans H; rw [hy259]; with_reducible exact H2_) | (have H2_ := (Option.bind_some _ _).symm.trans H; with_reducible exact H2_) | with_reducible exact H | (rw [hy259]; exact H) | exact H
                                      have Ny259 := Aside0.mk hy259
                                      clear hy259
                                      have H' := Aside0.mk H
                                      clear H
                                      obtain ⟨Ao44, co44, eo44⟩ := Kd.R_slice HO_14.out
                                      subst eo44
                                      have p256 : 0 ≤ (x13_3 : Int) := of_decide_eq_true (by first | (with_reducible assumption) | assumption)
                                      have q256 : x13_3 < (l2.length : Int) := of_decide_eq_true (by first | (with_reducible assumption) | assumption)
                                      obtain ⟨ad256, e256, hx256_0⟩ := Kd.at_int HR2.out x13_3 p256 q256
                                      cases e256
                                      replace hx256_0 := (HB.out.cell (World.block_lt_of_cell? w _ hx256_0)).trans hx256_0
                                      replace p256 := eq_true p256
                                      replace q256 := eq_true q256
                                      go_wp2_with (first | (go_at_call 18; (with_reducible refine (slotmeshlaw22_pick.calls (rd l2 x13_3) (x14_4.length : Int) t257 _ A40.out).mono ?_); rintro e w' ⟨rfl, ⟨nd, rfl⟩⟩; (try first | exact ⟨rfl, _, World.drewN_drewN _ _ _⟩ | exact ⟨rfl, _, Eq.trans (World.drewN_drewN _ _ _) (congrArg (World.drewN _) (Nat.add_assoc _ _ _))⟩); have p258 : 0 ≤ (t257 : Int) := of_decide_eq_true (by first | (with_reducible assumption) | assumption); have q258 : t257 < (x14_4.length : Int) := of_decide_eq_true (by first | (with_reducible assumption) | assumption); obtain ⟨ad258, e258, hx258_0⟩ := Kd.at_int (Kd.R_reads' HO_14.out).2.2 t257 p258 q258; cases e258; replace p258 := eq_true p258; replace q258 := eq_true q258) | ((with_reducible refine gate_builtin (b := .append) (xs := #[.tmp 109, .tmp 120]) rfl ?_); (try (refine gate_guard (by rfl) ?_; dsimp only)); at_builtin; refine Kd.R_append (Kd.int .i64) (w0 := w) w.heap.size rfl (.tmp 109) (.tmp 120) 22 3 (.int .i64 0) 8 rfl Try.underlying22 info3 rfl (by decide) (by omega) u12 x12_3 (rd x14_4 t257) [.int .i64 (rd x14_4 t257)] (fun k_ => some k_ ≠ (.slice Ao21 t241.length co21 : Value).ownBlock ∧ some k_ ≠ (.slice (some ad258) x14_4.length co44 : Value).ownBlock) (fun _ => False) rfl rfl ?aP (fun _ hk => hk.elim) ?aF ?aO ?aB ?aS ?aL ?_; (case aP => exact rfl); (case aB => exact (by repeat (first | (with_reducible first | exact HB.out | apply below_alloc | apply pw_below_drewN | apply below_drew1) | exact HB.out))); (case aF => exact (fun k_ hk => ⟨Kd.fresh' (Kd.R_lt (by (with_reducible repeat (first | apply Kd.R_alloc | apply Kd.R_drewN | apply Kd.R_drew)); exact HO_10.out)) k_ hk, Kd.fresh' (Kd.R_lt (by (with_reducible repeat (first | apply Kd.R_alloc | apply Kd.R_drewN | apply Kd.R_drew)); exact HO_14.out)) k_ hk⟩)); (case aO => exact (by (with_reducible repeat (first | apply Kd.R_alloc | apply Kd.R_drewN | apply Kd.R_drew)); exact HO_12.out)); (case aS => exact (below_size (by repeat (first | (with_reducible first | exact HB.out | apply below_alloc | apply pw_below_drewN | apply below_drew1) | exact HB.out)))); (case aL => have := LMc43.out; omega); intro v260 w45 ho hb hg hat; rw [← Ny259.out] at ho; have n0_ := Aside0.mk (Kd.R_after (ok := (fun k_ => some k_ ≠ (.slice (some ad258) x14_4.length co44 : Value).ownBlock)) (by (with_reducible repeat (first | apply Kd.R_alloc | apply Kd.R_drewN | apply Kd.R_drew)); exact Kd.R_mono HO_10.out (fun _ hk => ⟨hk.2, hk.1⟩)) hg hat); have n1_ := Aside0.mk (Kd.R_after (ok := (fun k_ => some k_ ≠ (.slice Ao21 t241.length co21 : Value).ownBlock)) (by (with_reducible repeat (first | apply Kd.R_alloc | apply Kd.R_drewN | apply Kd.R_drew)); exact HO_14.out) hg hat); have n2_ := Aside0.mk (hb); have n3_ := Aside0.mk (ho); clear HO_10; clear HO_14; clear HB; clear HO_12; have HO_10 := n0_; have HO_14 := n1_; have HB := n2_; have HO261 := n3_; clear n0_ n1_ n2_ n3_; clear ho hb hg hat))
                                      repeat (go_quiet (first | (go_at_call 18; (with_reducible refine (slotmeshlaw22_pick.calls (rd l2 x13_3) (x14_4.length : Int) t257 _ A40.out).mono ?_); rintro e w' ⟨rfl, ⟨nd, rfl⟩⟩; (try first | exact ⟨rfl, _, World.drewN_drewN _ _ _⟩ | exact ⟨rfl, _, Eq.trans (World.drewN_drewN _ _ _) (congrArg (World.drewN _) (Nat.add_assoc _ _ _))⟩); have p258 : 0 ≤ (t257 : Int) := of_decide_eq_true (by first | (with_reducible assumption) | assumption); have q258 : t257 < (x14_4.length : Int) := of_decide_eq_true (by first | (with_reducible assumption) | assumption); obtain ⟨ad258, e258, hx258_0⟩ := Kd.at_int (Kd.R_reads' HO_14.out).2.2 t257 p258 q258; cases e258; replace p258 := eq_true p258; replace q258 := eq_true q258) | ((with_reducible refine gate_builtin (b := .append) (xs := #[.tmp 109, .tmp 120]) rfl ?_); (try (refine gate_guard (by rfl) ?_; dsimp only)); at_builtin; refine Kd.R_append (Kd.int .i64) (w0 := w) w.heap.size rfl (.tmp 109) (.tmp 120) 22 3 (.int .i64 0) 8 rfl Try.underlying22 info3 rfl (by decide) (by omega) u12 x12_3 (rd x14_4 t257) [.int .i64 (rd x14_4 t257)] (fun k_ => some k_ ≠ (.slice Ao21 t241.length co21 : Value).ownBlock ∧ some k_ ≠ (.slice (some ad258) x14_4.length co44 : Value).ownBlock) (fun _ => False) rfl rfl ?aP (fun _ hk => hk.elim) ?aF ?aO ?aB ?aS ?aL ?_; (case aP => exact rfl); (case aB => exact (by repeat (first | (with_reducible first | exact HB.out | apply below_alloc | apply pw_below_drewN | apply below_drew1) | exact HB.out))); (case aF => exact (fun k_ hk => ⟨Kd.fresh' (Kd.R_lt (by (with_reducible repeat (first | apply Kd.R_alloc | apply Kd.R_drewN | apply Kd.R_drew)); exact HO_10.out)) k_ hk, Kd.fresh' (Kd.R_lt (by (with_reducible repeat (first | apply Kd.R_alloc | apply Kd.R_drewN | apply Kd.R_drew)); exact HO_14.out)) k_ hk⟩)); (case aO => exact (by (with_reducible repeat (first | apply Kd.R_alloc | apply Kd.R_drewN | apply Kd.R_drew)); exact HO_12.out)); (case aS => exact (below_size (by repeat (first | (with_reducible first | exact HB.out | apply below_alloc | apply pw_below_drewN | apply below_drew1) | exact HB.out)))); (case aL => have := LMc43.out; omega); intro v260 w45 ho hb hg hat; rw [← Ny259.out] at ho; have n0_ := Aside0.mk (Kd.R_after (ok := (fun k_ => some k_ ≠ (.slice (some ad258) x14_4.length co44 : Value).ownBlock)) (by (with_reducible repeat (first | apply Kd.R_alloc | apply Kd.R_drewN | apply Kd.R_drew)); exact Kd.R_mono HO_10.out (fun _ hk => ⟨hk.2, hk.1⟩)) hg hat); have n1_ := Aside0.mk (Kd.R_after (ok := (fun k_ => some k_ ≠ (.slice Ao21 t241.length co21 : Value).ownBlock)) (by (with_reducible repeat (first | apply Kd.R_alloc | apply Kd.R_drewN | apply Kd.R_drew)); exact HO_14.out) hg hat); have n2_ := Aside0.mk (hb); have n3_ := Aside0.mk (ho); clear HO_10; clear HO_14; clear HB; clear HO_12; have HO_10 := n0_; have HO_14 := n1_; have HB := n2_; have HO261 := n3_; clear n0_ n1_ n2_ n3_; clear ho hb hg hat)); try go_wp2_with (first | (go_at_call 18; (with_reducible refine (slotmeshlaw22_pick.calls (rd l2 x13_3) (x14_4.length : Int) t257 _ A40.out).mono ?_); rintro e w' ⟨rfl, ⟨nd, rfl⟩⟩; (try first | exact ⟨rfl, _, World.drewN_drewN _ _ _⟩ | exact ⟨rfl, _, Eq.trans (World.drewN_drewN _ _ _) (congrArg (World.drewN _) (Nat.add_assoc _ _ _))⟩); have p258 : 0 ≤ (t257 : Int) := of_decide_eq_true (by first | (with_reducible assumption) | assumption); have q258 : t257 < (x14_4.length : Int) := of_decide_eq_true (by first | (with_reducible assumption) | assumption); obtain ⟨ad258, e258, hx258_0⟩ := Kd.at_int (Kd.R_reads' HO_14.out).2.2 t257 p258 q258; cases e258; replace p258 := eq_true p258; replace q258 := eq_true q258) | ((with_reducible refine gate_builtin (b := .append) (xs := #[.tmp 109, .tmp 120]) rfl ?_); (try (refine gate_guard (by rfl) ?_; dsimp only)); at_builtin; refine Kd.R_append (Kd.int .i64) (w0 := w) w.heap.size rfl (.tmp 109) (.tmp 120) 22 3 (.int .i64 0) 8 rfl Try.underlying22 info3 rfl (by decide) (by omega) u12 x12_3 (rd x14_4 t257) [.int .i64 (rd x14_4 t257)] (fun k_ => some k_ ≠ (.slice Ao21 t241.length co21 : Value).ownBlock ∧ some k_ ≠ (.slice (some ad258) x14_4.length co44 : Value).ownBlock) (fun _ => False) rfl rfl ?aP (fun _ hk => hk.elim) ?aF ?aO ?aB ?aS ?aL ?_; (case aP => exact rfl); (case aB => exact (by repeat (first | (with_reducible first | exact HB.out | apply below_alloc | apply pw_below_drewN | apply below_drew1) | exact HB.out))); (case aF => exact (fun k_ hk => ⟨Kd.fresh' (Kd.R_lt (by (with_reducible repeat (first | apply Kd.R_alloc | apply Kd.R_drewN | apply Kd.R_drew)); exact HO_10.out)) k_ hk, Kd.fresh' (Kd.R_lt (by (with_reducible repeat (first | apply Kd.R_alloc | apply Kd.R_drewN | apply Kd.R_drew)); exact HO_14.out)) k_ hk⟩)); (case aO => exact (by (with_reducible repeat (first | apply Kd.R_alloc | apply Kd.R_drewN | apply Kd.R_drew)); exact HO_12.out)); (case aS => exact (below_size (by repeat (first | (with_reducible first | exact HB.out | apply below_alloc | apply pw_below_drewN | apply below_drew1) | exact HB.out)))); (case aL => have := LMc43.out; omega); intro v260 w45 ho hb hg hat; rw [← Ny259.out] at ho; have n0_ := Aside0.mk (Kd.R_after (ok := (fun k_ => some k_ ≠ (.slice (some ad258) x14_4.length co44 : Value).ownBlock)) (by (with_reducible repeat (first | apply Kd.R_alloc | apply Kd.R_drewN | apply Kd.R_drew)); exact Kd.R_mono HO_10.out (fun _ hk => ⟨hk.2, hk.1⟩)) hg hat); have n1_ := Aside0.mk (Kd.R_after (ok := (fun k_ => some k_ ≠ (.slice Ao21 t241.length co21 : Value).ownBlock)) (by (with_reducible repeat (first | apply Kd.R_alloc | apply Kd.R_drewN | apply Kd.R_drew)); exact HO_14.out) hg hat); have n2_ := Aside0.mk (hb); have n3_ := Aside0.mk (ho); clear HO_10; clear HO_14; clear HB; clear HO_12; have HO_10 := n0_; have HO_14 := n1_; have HB := n2_; have HO261 := n3_; clear n0_ n1_ n2_ n3_; clear ho hb hg hat)))
                                      go_roundg k4
                                      case measure => have := HJ6.out; have := HJ14.out; have := HK3.out; have := HK4.out; omega
                                      case rel => exact ⟨(y259), (wrap64 (x13_3 + 1)), (by first | rfl | (simp; done) | (simp [*]; done)), H', ⟨by have := HJ6.out; have := HJ14.out; have := HK3.out; have := HK4.out; omega⟩, ⟨by (with_reducible repeat (first | apply Kd.R_alloc | apply Kd.R_drewN | apply Kd.R_drew)); exact Kd.R_mono HO_10.out (fun _ hk => hk.2)⟩, ⟨by (with_reducible repeat (first | apply Kd.R_alloc | apply Kd.R_drewN | apply Kd.R_drew)); exact Kd.R_mono HO261.out (fun _ hk => hk.1)⟩, ⟨by repeat (first | (with_reducible first | exact HB.out | apply below_alloc | apply pw_below_drewN | apply below_drew1) | exact HB.out)⟩⟩
                                    · rw [if_neg c43] at H
                                      exact absurd H (by simp)
                                  · rw [if_neg c42] at H
                                    exact absurd H (by simp)
                                · rw [if_neg c41] at H
                                  exact absurd H (by simp)
                              · rw [if_neg c39] at H
                                exact absurd H (by simp)
                            · rw [if_neg c38] at H
                              exact absurd H (by simp)
                  · rw [if_neg c20] at H
                    have c20b0 : decide (x13_3 < (t241.length : Int)) = false := decide_eq_false c20
                    clear c20
                    replace H := Option.bind_eq_some_iff.mp H
                    obtain ⟨t262, A460, H⟩ := H
                    replace H : (if (t262.length : Int) = (t241.length : Int) then ((graph_Loop.f k3 x12_3).bind fun t265 => (slotmeshlaw22_GraphTrees.j4 k3 t238 t241 t262 (decide ((t265.length : Int) > 0)))) else (slotmeshlaw22_GraphTrees.j4 k3 t238 t241 t262 true)) = some r := H
                    have A46 := Aside0.mk A460
                    clear A460
                    have HC47 := Aside0.mk H
                    clear H
                    obtain ⟨Ao48, co48, eo48⟩ := Kd.R_slice HO_10.out
                    subst eo48
                    obtain ⟨Ao49, co49, eo49⟩ := Kd.R_slice HO_12.out
                    subst eo49
                    go_upto_region 23 with (first | (go_at_call 11; (with_reducible refine (graph_Reaches.calls k3 _ _ x12_3 a1 t262 _ ?side1 ?side2 A46.out).mono ?_); (case side1 => repeat (first | exact (Kd.R_reads' HO_12.out).2.2 | (with_reducible refine Kd.C_alloc ?_ _) | (with_reducible refine Kd.C_drewN ?_ _) | (with_reducible refine Kd.C_drew ?_))); (case side2 => exact (Kd.R_reads' HO_12.out).2.1); rintro e w50 ⟨v263, rfl, ho0, hb⟩; have n0_ := Aside0.mk (Kd.R_below (by (with_reducible repeat (first | apply Kd.R_alloc | apply Kd.R_drewN | apply Kd.R_drew)); exact HO_10.out) hb); have n1_ := Aside0.mk (Kd.R_below (by (with_reducible repeat (first | apply Kd.R_alloc | apply Kd.R_drewN | apply Kd.R_drew)); exact HO_12.out) hb); have n2_ := Aside0.mk (Kd.R_lower ho0 (below_size (by repeat (first | (with_reducible first | exact HB.out | apply below_alloc | apply pw_below_drewN | apply below_drew1) | exact HB.out)))); have n3_ := Aside0.mk (below_step (by repeat (first | (with_reducible first | exact HB.out | apply below_alloc | apply pw_below_drewN | apply below_drew1) | exact HB.out)) hb); clear HO_10; clear HO_12; clear HB; have HO_10 := n0_; have HO_12 := n1_; have HO264 := n2_; have HB := n3_; clear n0_ n1_ n2_ n3_; (try clear hb); (try clear hb2); (try clear hk); (try clear hi); (try clear ho0)))
                    repeat (go_quiet (first | (go_at_call 11; (with_reducible refine (graph_Reaches.calls k3 _ _ x12_3 a1 t262 _ ?side1 ?side2 A46.out).mono ?_); (case side1 => repeat (first | exact (Kd.R_reads' HO_12.out).2.2 | (with_reducible refine Kd.C_alloc ?_ _) | (with_reducible refine Kd.C_drewN ?_ _) | (with_reducible refine Kd.C_drew ?_))); (case side2 => exact (Kd.R_reads' HO_12.out).2.1); rintro e w50 ⟨v263, rfl, ho0, hb⟩; have n0_ := Aside0.mk (Kd.R_below (by (with_reducible repeat (first | apply Kd.R_alloc | apply Kd.R_drewN | apply Kd.R_drew)); exact HO_10.out) hb); have n1_ := Aside0.mk (Kd.R_below (by (with_reducible repeat (first | apply Kd.R_alloc | apply Kd.R_drewN | apply Kd.R_drew)); exact HO_12.out) hb); have n2_ := Aside0.mk (Kd.R_lower ho0 (below_size (by repeat (first | (with_reducible first | exact HB.out | apply below_alloc | apply pw_below_drewN | apply below_drew1) | exact HB.out)))); have n3_ := Aside0.mk (below_step (by repeat (first | (with_reducible first | exact HB.out | apply below_alloc | apply pw_below_drewN | apply below_drew1) | exact HB.out)) hb); clear HO_10; clear HO_12; clear HB; have HO_10 := n0_; have HO_12 := n1_; have HO264 := n2_; have HB := n3_; clear n0_ n1_ n2_ n3_; (try clear hb); (try clear hb2); (try clear hk); (try clear hi); (try clear ho0))); go_upto_region 23 with (first | (go_at_call 11; (with_reducible refine (graph_Reaches.calls k3 _ _ x12_3 a1 t262 _ ?side1 ?side2 A46.out).mono ?_); (case side1 => repeat (first | exact (Kd.R_reads' HO_12.out).2.2 | (with_reducible refine Kd.C_alloc ?_ _) | (with_reducible refine Kd.C_drewN ?_ _) | (with_reducible refine Kd.C_drew ?_))); (case side2 => exact (Kd.R_reads' HO_12.out).2.1); rintro e w50 ⟨v263, rfl, ho0, hb⟩; have n0_ := Aside0.mk (Kd.R_below (by (with_reducible repeat (first | apply Kd.R_alloc | apply Kd.R_drewN | apply Kd.R_drew)); exact HO_10.out) hb); have n1_ := Aside0.mk (Kd.R_below (by (with_reducible repeat (first | apply Kd.R_alloc | apply Kd.R_drewN | apply Kd.R_drew)); exact HO_12.out) hb); have n2_ := Aside0.mk (Kd.R_lower ho0 (below_size (by repeat (first | (with_reducible first | exact HB.out | apply below_alloc | apply pw_below_drewN | apply below_drew1) | exact HB.out)))); have n3_ := Aside0.mk (below_step (by repeat (first | (with_reducible first | exact HB.out | apply below_alloc | apply pw_below_drewN | apply below_drew1) | exact HB.out)) hb); clear HO_10; clear HO_12; clear HB; have HO_10 := n0_; have HO_12 := n1_; have HO264 := n2_; have HB := n3_; clear n0_ n1_ n2_ n3_; (try clear hb); (try clear hb2); (try clear hk); (try clear hi); (try clear ho0))))
                    (try simp only [Act.put, List.setIfInBounds_toArray, List.set_cons_zero, List.set_cons_succ])
                    go_cut [135] (fun v135 wc => ∃ (kq : Nat) (x135_46 : Bool), v135 = .bool x135_46 ∧ Aside0 (slotmeshlaw22_GraphTrees.j4 kq t238 t241 t262 x135_46 = some r) ∧ Aside0 (kq ≤ k3) ∧ Aside0 (Kd.R (Kd.int .i64) 3 wc w.heap.size (fun _ => True) (.slice Ao48 t241.length co48) t241) ∧ Aside0 (Kd.R Kd.bool 4 wc w.heap.size (fun _ => True) v263 t262) ∧ Aside0 (Below w.heap.size w wc))
                    case first =>
                      have H := HC47.out
                      clear HC47
                      by_cases c51 : (t262.length : Int) = (t241.length : Int)
                      · rw [if_pos c51] at H
                        have c51b0 : ((t262.length : Int) == (t241.length : Int)) = true := beq_iff_eq.mpr c51
                        have c51b1 : ((t262.length : Int) != (t241.length : Int)) = false := bne_eq_false_iff_eq.mpr c51
                        have c51b2 : (t262.length == t241.length) = true := by first | simpa using c51 | (simp at c51 ⊢; omega)
                        clear c51
                        (first | rw [c51b0] | (simp only [i64_w, i32_w]; rw [c51b0]) | skip)
                        replace H := Option.bind_eq_some_iff.mp H
                        obtain ⟨t265, A520, H⟩ := H
                        replace H : (slotmeshlaw22_GraphTrees.j4 k3 t238 t241 t262 (decide ((t265.length : Int) > 0))) = some r := H
                        have A52 := Aside0.mk A520
                        clear A520
                        have H' := Aside0.mk H
                        clear H
                        obtain ⟨Ao53, co53, eo53⟩ := Kd.R_slice HO264.out
                        subst eo53
                        go_wp2_with (first | (go_at_call 12; (with_reducible refine (graph_Loop.calls k3 _ _ x12_3 t265 _ ?side1 ?side2 A52.out).mono ?_); (case side1 => repeat (first | exact (Kd.R_reads' HO_12.out).2.2 | (with_reducible refine Kd.C_alloc ?_ _) | (with_reducible refine Kd.C_drewN ?_ _) | (with_reducible refine Kd.C_drew ?_))); (case side2 => exact (Kd.R_reads' HO_12.out).2.1); rintro e w54 ⟨v266, rfl, ho0, hb⟩; have n0_ := Aside0.mk (Kd.R_elder' (by (with_reducible repeat (first | apply Kd.R_alloc | apply Kd.R_drewN | apply Kd.R_drew)); exact HO_10.out) (Kd.R_base ho0) hb); have n1_ := Aside0.mk (Kd.R_elder' (by (with_reducible repeat (first | apply Kd.R_alloc | apply Kd.R_drewN | apply Kd.R_drew)); exact HO_12.out) (Kd.R_base ho0) hb); have n2_ := Aside0.mk (Kd.R_below (by (with_reducible repeat (first | apply Kd.R_alloc | apply Kd.R_drewN | apply Kd.R_drew)); exact HO264.out) hb); have n3_ := Aside0.mk (Kd.R_lower (Kd.R_new' (Kd.R_new' ho0 (Kd.R_lt (by (with_reducible repeat (first | apply Kd.R_alloc | apply Kd.R_drewN | apply Kd.R_drew)); exact HO_10.out))) (Kd.R_lt (by (with_reducible repeat (first | apply Kd.R_alloc | apply Kd.R_drewN | apply Kd.R_drew)); exact HO_12.out))) (below_size (by repeat (first | (with_reducible first | exact HB.out | apply below_alloc | apply pw_below_drewN | apply below_drew1) | exact HB.out)))); have n4_ := Aside0.mk (below_step (by repeat (first | (with_reducible first | exact HB.out | apply below_alloc | apply pw_below_drewN | apply below_drew1) | exact HB.out)) hb); clear HO_10; clear HO_12; clear HO264; clear HB; have HO_10 := n0_; have HO_12 := n1_; have HO264 := n2_; have HO267 := n3_; have HB := n4_; clear n0_ n1_ n2_ n3_ n4_; (try clear hb); (try clear hb2); (try clear hk); (try clear hi); (try clear ho0); obtain ⟨Ao55, co55, eo55⟩ := Kd.R_slice HO267.out; subst eo55))
                        repeat (go_quiet (first | (go_at_call 12; (with_reducible refine (graph_Loop.calls k3 _ _ x12_3 t265 _ ?side1 ?side2 A52.out).mono ?_); (case side1 => repeat (first | exact (Kd.R_reads' HO_12.out).2.2 | (with_reducible refine Kd.C_alloc ?_ _) | (with_reducible refine Kd.C_drewN ?_ _) | (with_reducible refine Kd.C_drew ?_))); (case side2 => exact (Kd.R_reads' HO_12.out).2.1); rintro e w54 ⟨v266, rfl, ho0, hb⟩; have n0_ := Aside0.mk (Kd.R_elder' (by (with_reducible repeat (first | apply Kd.R_alloc | apply Kd.R_drewN | apply Kd.R_drew)); exact HO_10.out) (Kd.R_base ho0) hb); have n1_ := Aside0.mk (Kd.R_elder' (by (with_reducible repeat (first | apply Kd.R_alloc | apply Kd.R_drewN | apply Kd.R_drew)); exact HO_12.out) (Kd.R_base ho0) hb); have n2_ := Aside0.mk (Kd.R_below (by (with_reducible repeat (first | apply Kd.R_alloc | apply Kd.R_drewN | apply Kd.R_drew)); exact HO264.out) hb); have n3_ := Aside0.mk (Kd.R_lower (Kd.R_new' (Kd.R_new' ho0 (Kd.R_lt (by (with_reducible repeat (first | apply Kd.R_alloc | apply Kd.R_drewN | apply Kd.R_drew)); exact HO_10.out))) (Kd.R_lt (by (with_reducible repeat (first | apply Kd.R_alloc | apply Kd.R_drewN | apply Kd.R_drew)); exact HO_12.out))) (below_size (by repeat (first | (with_reducible first | exact HB.out | apply below_alloc | apply pw_below_drewN | apply below_drew1) | exact HB.out)))); have n4_ := Aside0.mk (below_step (by repeat (first | (with_reducible first | exact HB.out | apply below_alloc | apply pw_below_drewN | apply below_drew1) | exact HB.out)) hb); clear HO_10; clear HO_12; clear HO264; clear HB; have HO_10 := n0_; have HO_12 := n1_; have HO264 := n2_; have HO267 := n3_; have HB := n4_; clear n0_ n1_ n2_ n3_ n4_; (try clear hb); (try clear hb2); (try clear hk); (try clear hi); (try clear ho0); obtain ⟨Ao55, co55, eo55⟩ := Kd.R_slice HO267.out; subst eo55)); try go_wp2_with (first | (go_at_call 12; (with_reducible refine (graph_Loop.calls k3 _ _ x12_3 t265 _ ?side1 ?side2 A52.out).mono ?_); (case side1 => repeat (first | exact (Kd.R_reads' HO_12.out).2.2 | (with_reducible refine Kd.C_alloc ?_ _) | (with_reducible refine Kd.C_drewN ?_ _) | (with_reducible refine Kd.C_drew ?_))); (case side2 => exact (Kd.R_reads' HO_12.out).2.1); rintro e w54 ⟨v266, rfl, ho0, hb⟩; have n0_ := Aside0.mk (Kd.R_elder' (by (with_reducible repeat (first | apply Kd.R_alloc | apply Kd.R_drewN | apply Kd.R_drew)); exact HO_10.out) (Kd.R_base ho0) hb); have n1_ := Aside0.mk (Kd.R_elder' (by (with_reducible repeat (first | apply Kd.R_alloc | apply Kd.R_drewN | apply Kd.R_drew)); exact HO_12.out) (Kd.R_base ho0) hb); have n2_ := Aside0.mk (Kd.R_below (by (with_reducible repeat (first | apply Kd.R_alloc | apply Kd.R_drewN | apply Kd.R_drew)); exact HO264.out) hb); have n3_ := Aside0.mk (Kd.R_lower (Kd.R_new' (Kd.R_new' ho0 (Kd.R_lt (by (with_reducible repeat (first | apply Kd.R_alloc | apply Kd.R_drewN | apply Kd.R_drew)); exact HO_10.out))) (Kd.R_lt (by (with_reducible repeat (first | apply Kd.R_alloc | apply Kd.R_drewN | apply Kd.R_drew)); exact HO_12.out))) (below_size (by repeat (first | (with_reducible first | exact HB.out | apply below_alloc | apply pw_below_drewN | apply below_drew1) | exact HB.out)))); have n4_ := Aside0.mk (below_step (by repeat (first | (with_reducible first | exact HB.out | apply below_alloc | apply pw_below_drewN | apply below_drew1) | exact HB.out)) hb); clear HO_10; clear HO_12; clear HO264; clear HB; have HO_10 := n0_; have HO_12 := n1_; have HO264 := n2_; have HO267 := n3_; have HB := n4_; clear n0_ n1_ n2_ n3_ n4_; (try clear hb); (try clear hb2); (try clear hk); (try clear hi); (try clear ho0); obtain ⟨Ao55, co55, eo55⟩ := Kd.R_slice HO267.out; subst eo55)))
                        go_meet
                        case rel => exact ⟨_, (decide ((t265.length : Int) > 0)), (by first | rfl | (simp; done) | (simp [*]; done)), H', ⟨by have := HJ6.out; have := HJ14.out; have := HK3.out; first | omega | exact Nat.le_refl _⟩, ⟨by (with_reducible repeat (first | apply Kd.R_alloc | apply Kd.R_drewN | apply Kd.R_drew)); exact Kd.R_mono HO_10.out (fun _ hk => trivial)⟩, ⟨by (with_reducible repeat (first | apply Kd.R_alloc | apply Kd.R_drewN | apply Kd.R_drew)); exact HO264.out⟩, ⟨by repeat (first | (with_reducible first | exact HB.out | apply below_alloc | apply pw_below_drewN | apply below_drew1) | exact HB.out)⟩⟩
                      · rw [if_neg c51] at H
                        have c51b0 : ((t262.length : Int) == (t241.length : Int)) = false := beq_eq_false_iff_ne.mpr c51
                        have c51b1 : ((t262.length : Int) != (t241.length : Int)) = true := bne_iff_ne.mpr c51
                        have c51b2 : (t262.length == t241.length) = false := by first | simpa using c51 | (simp at c51 ⊢; omega)
                        (first | rw [c51b0] | (simp only [i64_w, i32_w]; rw [c51b0]) | skip)
                        have H' := Aside0.mk H
                        clear H
                        obtain ⟨Ao56, co56, eo56⟩ := Kd.R_slice HO264.out
                        subst eo56
                        go_wp2
                        repeat (go_quiet (fail); try go_wp2)
                        go_meet
                        case rel => exact ⟨_, (true), (by first | rfl | (simp; done) | (simp [*]; done)), H', ⟨by have := HJ6.out; have := HJ14.out; have := HK3.out; first | omega | exact Nat.le_refl _⟩, ⟨by (with_reducible repeat (first | apply Kd.R_alloc | apply Kd.R_drewN | apply Kd.R_drew)); exact Kd.R_mono HO_10.out (fun _ hk => trivial)⟩, ⟨by (with_reducible repeat (first | apply Kd.R_alloc | apply Kd.R_drewN | apply Kd.R_drew)); exact HO264.out⟩, ⟨by repeat (first | (with_reducible first | exact HB.out | apply below_alloc | apply pw_below_drewN | apply below_drew1) | exact HB.out)⟩⟩
                    case rest =>
                      clear HC47
                      try clear c1
                      try clear c2
                      try clear p2
                      try clear q2
                      try clear hx2
                      try clear c3
                      try clear c4
                      try clear c5
                      try clear p6
                      try clear c9
                      try clear c10
                      try clear c11
                      try clear c11b0
                      try clear c12
                      try clear c12b0
                      try clear c13
                      try clear c17
                      try clear c17b0
                      try clear c17b1
                      try clear c19
                      try clear c20
                      try clear c20b0
                      try clear c22
                      try clear c22b0
                      try clear c23
                      try clear c23b0
                      try clear c24
                      try clear c24b0
                      try clear p24
                      try clear q24
                      try clear hx24
                      try clear c25
                      try clear c25b0
                      try clear p25
                      try clear q25
                      try clear hx25
                      try clear c26
                      try clear c26b0
                      try clear q27
                      try clear c28
                      try clear c29
                      try clear c29b0
                      try clear c30
                      try clear c30b0
                      try clear c31
                      try clear c31b0
                      try clear c32
                      try clear c34
                      try clear c34b0
                      try clear c34b1
                      try clear c34b2
                      try clear c35
                      try clear c38
                      try clear c38b0
                      try clear c39
                      try clear c39b0
                      try clear c41
                      try clear c41b0
                      try clear c42
                      try clear c42b0
                      try clear c43
                      try clear c51
                      try clear c51b0
                      try clear c51b1
                      try clear c51b2
                      try clear hx245_0
                      try clear hx246_0
                      try clear hx247_0
                      try clear hx248_0
                      try clear hx249_0
                      try clear hx256_0
                      try clear hx258_0
                      try clear p2
                      try clear p245
                      try clear p246
                      try clear p247
                      try clear p248
                      try clear p249
                      try clear p256
                      try clear p258
                      try clear q245
                      try clear q246
                      try clear q247
                      try clear q248
                      try clear q249
                      try clear q256
                      try clear q258
                      obtain ⟨kq, x135_46, rfl, HA, HJ46, HO_10, HO_16, HB⟩ := hcut
                      cases kq with
                      | zero => exact absurd HA.out (by simp [slotmeshlaw22_GraphTrees.j4])
                      | succ kj46 =>
                        have H := HA.out
                        clear HA
                        simp only [slotmeshlaw22_GraphTrees.j4] at H
                        by_cases c57 : x135_46 = true
                        · subst c57
                          have H1 : (some false) = some r := by rw [if_pos rfl] at H; exact H
                          clear H
                          have H := H1
                          clear H1
                          obtain rfl := Option.some.inj H
                          go_wp2
                          repeat (go_quiet (fail); try go_wp2)
                          go_ret
                          exact ⟨by first | rfl | (simp [errW_none, errW_some] <;> rfl) | (simp [*, errW_none, errW_some] <;> rfl), by repeat (first | (with_reducible first | exact HB.out | apply below_alloc | apply pw_below_drewN | apply below_drew1) | exact HB.out)⟩
                        · replace c57 := Bool.eq_false_iff.mpr c57
                          subst c57
                          have H1 : (slotmeshlaw22_GraphTrees.l2 kj46 t238 t241 t262 0) = some r := by rw [if_neg (show ¬ (false = true) by decide)] at H; exact H
                          clear H
                          have H := H1
                          clear H1
                          have H' := Aside0.mk H
                          clear H
                          go_wp2
                          repeat (go_quiet (fail); try go_wp2)
                          go_loopg [7, 17] kj46 (fun kq v7 v17 w' => ∃ (x7_5 : Bool) (x17_5 : Int), v7 = .bool x7_5 ∧ v17 = .int .i64 x17_5 ∧ Aside0 (slotmeshlaw22_GraphTrees.l2 kq x7_5 t241 t262 x17_5 = some r) ∧ Aside0 (kq ≤ kj46) ∧ Aside0 (Kd.R (Kd.int .i64) 3 w' w.heap.size (fun _ => True) (.slice Ao48 t241.length co48) t241) ∧ Aside0 (Kd.R Kd.bool 4 w' w.heap.size (fun _ => True) v263 t262) ∧ Aside0 (Below w.heap.size w w'))
                          case atStart => exact ⟨(t238), (0), (by first | rfl | (simp; done) | (simp [*]; done)), (by first | rfl | (simp; done) | (simp [*]; done)), H', ⟨Nat.le_refl _⟩, ⟨by (with_reducible repeat (first | apply Kd.R_alloc | apply Kd.R_drewN | apply Kd.R_drew)); exact HO_10.out⟩, ⟨by (with_reducible repeat (first | apply Kd.R_alloc | apply Kd.R_drewN | apply Kd.R_drew)); exact HO_16.out⟩, ⟨by repeat (first | (with_reducible first | exact HB.out | apply below_alloc | apply pw_below_drewN | apply below_drew1) | exact HB.out)⟩⟩
                          case round =>
                            clear H'
                            try clear c1
                            try clear c2
                            try clear p2
                            try clear q2
                            try clear hx2
                            try clear c3
                            try clear c4
                            try clear c5
                            try clear p6
                            try clear c9
                            try clear c10
                            try clear c11
                            try clear c11b0
                            try clear c12
                            try clear c12b0
                            try clear c13
                            try clear c17
                            try clear c17b0
                            try clear c17b1
                            try clear c19
                            try clear c20
                            try clear c20b0
                            try clear c22
                            try clear c22b0
                            try clear c23
                            try clear c23b0
                            try clear c24
                            try clear c24b0
                            try clear p24
                            try clear q24
                            try clear hx24
                            try clear c25
                            try clear c25b0
                            try clear p25
                            try clear q25
                            try clear hx25
                            try clear c26
                            try clear c26b0
                            try clear q27
                            try clear c28
                            try clear c29
                            try clear c29b0
                            try clear c30
                            try clear c30b0
                            try clear c31
                            try clear c31b0
                            try clear c32
                            try clear c34
                            try clear c34b0
                            try clear c34b1
                            try clear c34b2
                            try clear c35
                            try clear c38
                            try clear c38b0
                            try clear c39
                            try clear c39b0
                            try clear c41
                            try clear c41b0
                            try clear c42
                            try clear c42b0
                            try clear c43
                            try clear c51
                            try clear c51b0
                            try clear c51b1
                            try clear c51b2
                            try clear c57
                            try clear hx245_0
                            try clear hx246_0
                            try clear hx247_0
                            try clear hx248_0
                            try clear hx249_0
                            try clear hx256_0
                            try clear hx258_0
                            try clear p2
                            try clear p24
                            try clear p245
                            try clear p246
                            try clear p247
                            try clear p248
                            try clear p249
                            try clear p25
                            try clear p256
                            try clear p258
                            try clear p6
                            try clear q2
                            try clear q24
                            try clear q245
                            try clear q246
                            try clear q247
                            try clear q248
                            try clear q249
                            try clear q25
                            try clear q256
                            try clear q258
                            try clear q27
                            obtain ⟨x7_5, x17_5, rfl, rfl, HA, HK5, HO_10, HO_16, HB⟩ := hrel
                            cases gk with
                            | zero => exact absurd HA.out (by simp [slotmeshlaw22_GraphTrees.l2])
                            | succ k5 =>
                              have H := HA.out
                              clear HA
                              simp only [slotmeshlaw22_GraphTrees.l2] at H
                              by_cases c58 : x17_5 < (t262.length : Int)
                              · rw [if_pos c58] at H
                                have c58b0 : decide (x17_5 < (t262.length : Int)) = true := decide_eq_true c58
                                clear c58
                                by_cases c59 : x7_5 = true
                                · subst c59
                                  have H1 : (if 0 ≤ x17_5 then (if x17_5 < (t241.length : Int) then (slotmeshlaw22_GraphTrees.l2 k5 ((rdOf false t262 x17_5) == (decide ((rd t241 x17_5) ≥ 0))) t241 t262 (wrap64 (x17_5 + 1))) else (none)) else (none)) = some r := by rw [if_pos rfl] at H; exact H
                                  clear H
                                  have H := H1
                                  clear H1
                                  by_cases c60 : 0 ≤ x17_5
                                  · rw [if_pos c60] at H
                                    have c60b0 : decide (0 ≤ x17_5) = true := decide_eq_true c60
                                    clear c60
                                    by_cases c61 : x17_5 < (t241.length : Int)
                                    · rw [if_pos c61] at H
                                      have c61b0 : decide (x17_5 < (t241.length : Int)) = true := decide_eq_true c61
                                      clear c61
                                      have H' := Aside0.mk H
                                      clear H
                                      obtain ⟨Ao62, co62, eo62⟩ := Kd.R_slice HO_16.out
                                      subst eo62
                                      have p268 : 0 ≤ (x17_5 : Int) := of_decide_eq_true (by first | (with_reducible assumption) | assumption)
                                      have q268 : x17_5 < (t262.length : Int) := of_decide_eq_true (by first | (with_reducible assumption) | assumption)
                                      obtain ⟨ad268, e268, hx268_0⟩ := Kd.at_bool (Kd.R_reads' HO_16.out).2.2 x17_5 p268 q268
                                      cases e268
                                      replace p268 := eq_true p268
                                      replace q268 := eq_true q268
                                      have p269 : 0 ≤ (x17_5 : Int) := of_decide_eq_true (by first | (with_reducible assumption) | assumption)
                                      have q269 : x17_5 < (t241.length : Int) := of_decide_eq_true (by first | (with_reducible assumption) | assumption)
                                      obtain ⟨ad269, e269, hx269_0⟩ := Kd.at_int (Kd.R_reads' HO_10.out).2.2 x17_5 p269 q269
                                      cases e269
                                      replace p269 := eq_true p269
                                      replace q269 := eq_true q269
                                      go_wp2
                                      repeat (go_quiet (fail); try go_wp2)
                                      go_roundg k5
                                      case measure => have := HJ6.out; have := HJ14.out; have := HK3.out; have := HJ46.out; have := HK5.out; omega
                                      case rel => exact ⟨(((rdOf false t262 x17_5) == (decide ((rd t241 x17_5) ≥ 0)))), (wrap64 (x17_5 + 1)), (by first | rfl | (simp; done) | (simp [*]; done)), (by first | rfl | (simp; done) | (simp [*]; done)), H', ⟨by have := HJ6.out; have := HJ14.out; have := HK3.out; have := HJ46.out; have := HK5.out; omega⟩, ⟨by (with_reducible repeat (first | apply Kd.R_alloc | apply Kd.R_drewN | apply Kd.R_drew)); exact HO_10.out⟩, ⟨by (with_reducible repeat (first | apply Kd.R_alloc | apply Kd.R_drewN | apply Kd.R_drew)); exact HO_16.out⟩, ⟨by repeat (first | (with_reducible first | exact HB.out | apply below_alloc | apply pw_below_drewN | apply below_drew1) | exact HB.out)⟩⟩
                                    · rw [if_neg c61] at H
                                      exact absurd H (by simp)
                                  · rw [if_neg c60] at H
                                    exact absurd H (by simp)
                                · replace c59 := Bool.eq_false_iff.mpr c59
                                  subst c59
                                  have H1 : (slotmeshlaw22_GraphTrees.l2 k5 false t241 t262 (wrap64 (x17_5 + 1))) = some r := by rw [if_neg (show ¬ (false = true) by decide)] at H; exact H
                                  clear H
                                  have H := H1
                                  clear H1
                                  have H' := Aside0.mk H
                                  clear H
                                  obtain ⟨Ao63, co63, eo63⟩ := Kd.R_slice HO_16.out
                                  subst eo63
                                  go_wp2
                                  repeat (go_quiet (fail); try go_wp2)
                                  go_roundg k5
                                  case measure => have := HJ6.out; have := HJ14.out; have := HK3.out; have := HJ46.out; have := HK5.out; omega
                                  case rel => exact ⟨(false), (wrap64 (x17_5 + 1)), (by first | rfl | (simp; done) | (simp [*]; done)), (by first | rfl | (simp; done) | (simp [*]; done)), H', ⟨by have := HJ6.out; have := HJ14.out; have := HK3.out; have := HJ46.out; have := HK5.out; omega⟩, ⟨by (with_reducible repeat (first | apply Kd.R_alloc | apply Kd.R_drewN | apply Kd.R_drew)); exact HO_10.out⟩, ⟨by (with_reducible repeat (first | apply Kd.R_alloc | apply Kd.R_drewN | apply Kd.R_drew)); exact HO_16.out⟩, ⟨by repeat (first | (with_reducible first | exact HB.out | apply below_alloc | apply pw_below_drewN | apply below_drew1) | exact HB.out)⟩⟩
                              · rw [if_neg c58] at H
                                have c58b0 : decide (x17_5 < (t262.length : Int)) = false := decide_eq_false c58
                                clear c58
                                obtain rfl := Option.some.inj H
                                obtain ⟨Ao64, co64, eo64⟩ := Kd.R_slice HO_16.out
                                subst eo64
                                go_wp2
                                repeat (go_quiet (fail); try go_wp2)
                                go_ret
                                exact ⟨by first | rfl | (simp [errW_none, errW_some] <;> rfl) | (simp [*, errW_none, errW_some] <;> rfl), by repeat (first | (with_reducible first | exact HB.out | apply below_alloc | apply pw_below_drewN | apply below_drew1) | exact HB.out)⟩


end

end Go.Proofs.Ytppkmmifjfcfiaa.P
