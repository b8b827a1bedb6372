-- LAID BY PROGRAM out of the translation's own text (no part of it is trusted: Lean checks every line)
import Derived.Test.YtcdiifjdbchclaaPx0
import Derived.Test.YtcdiifjdbchclaaPx1
import Derived.Test.YtcdiifjdbchclaaPx2
import Derived.Test.YtcdiifjdbchclaaK
import Derived.Test.YtcdiifjdbchclaaC
import Derived.Test.YtcdiifjdbchclaaH
namespace Go.Proofs.Ytcdiifjdbchclaa.P
open Go.RowKit Go.Proofs.YtcdiifjdbchclaaW.PrintWords Go.Proofs.YtcdiifjdbchclaaW.PrintLast Go.Proofs.YtcdiifjdbchclaaW.PrintMore
attribute [local go_sem] max2_int min2_int max_two min_two max_three min_three max_four min_four   -- for this text's walks alone
set_option linter.unusedVariables false
set_option linter.unusedSimpArgs false

/-! ### slotmeshlaw32_KeyringStep: function 9 -/
mutual
def slotmeshlaw32_KeyringStep.l0 : Nat → List Int → List Int → Bool → Int → Int → Int → Int → Option (Bool)
  | 0, _, _, _, _, _, _, _ => none
  | k + 1, x1, x2, x7, x9, x11, x299000, x299001 => if x11 < (x1.length : Int) then (slotmeshlaw32_KeyringStep.j1 k x1 x2 x7 x9 x11 (decide (x11 < 30)) x299000 x299001) else (slotmeshlaw32_KeyringStep.j1 k x1 x2 x7 x9 x11 false x299000 x299001)
def slotmeshlaw32_KeyringStep.j1 : Nat → List Int → List Int → Bool → Int → Int → Bool → Int → Int → Option (Bool)
  | 0, _, _, _, _, _, _, _, _ => none
  | k + 1, x1, x2, x7, x9, x11, x37, x299000, x299001 => if x37 = true then (if 0 ≤ x11 then (if x11 < (x1.length : Int) then (if x11 < (x2.length : Int) then (slotmeshlaw32_KeyringStep.j2 k x1 x2 x7 x9 x11 (wrap64 (x9 + (Int.tmod (wrap64 (rd x1 x11)) 2000))) (wrap64 (x9 + (Int.tmod (wrap64 (rd x2 x11)) 2000))) x299000 x299001) else (slotmeshlaw32_KeyringStep.j2 k x1 x2 x7 x9 x11 (wrap64 (x9 + (Int.tmod (wrap64 (rd x1 x11)) 2000))) x9 x299000 x299001)) else (none)) else (none)) else (some x7)
def slotmeshlaw32_KeyringStep.j2 : Nat → List Int → List Int → Bool → Int → Int → Int → Int → Int → Int → Option (Bool)
  | 0, _, _, _, _, _, _, _, _, _ => none
  | k + 1, x1, x2, x7, x9, x11, x12, x13, x299000, x299001 => (keyring_Epoch.f k x9).bind fun bt301 => (if bt301.2 = 0 then ((keyring_Knows.f k x299000 x299001 bt301.1).bind fun t303 => (slotmeshlaw32_KeyringStep.j3 k x1 x2 x7 x9 x11 x12 x13 bt301.1 (!t303) x299000 x299001)) else (slotmeshlaw32_KeyringStep.j3 k x1 x2 x7 x9 x11 x12 x13 bt301.1 true x299000 x299001))
def slotmeshlaw32_KeyringStep.j3 : Nat → List Int → List Int → Bool → Int → Int → Int → Int → Int → Bool → Int → Int → Option (Bool)
  | 0, _, _, _, _, _, _, _, _, _, _, _ => none
  | k + 1, x1, x2, x7, x9, x11, x12, x13, x14, x73, x299000, x299001 => if x73 = true then (some false) else (if x13 ≤ x12 then ((keyring_Age.f k x299000 x299001 x13).bind fun bt304 => (slotmeshlaw32_KeyringStep.j4 k x1 x2 x7 x9 x11 x12 x13 x14 bt304.1 bt304.2)) else (slotmeshlaw32_KeyringStep.j4 k x1 x2 x7 x9 x11 x12 x13 x14 x299000 x299001))
def slotmeshlaw32_KeyringStep.j4 : Nat → List Int → List Int → Bool → Int → Int → Int → Int → Int → Int → Int → Option (Bool)
  | 0, _, _, _, _, _, _, _, _, _, _ => none
  | k + 1, x1, x2, x7, x9, x11, x12, x13, x14, x299000, x299001 => (keyring_Root.f k x12).bind fun bt306 => ((keyring_Learn.f x299000 x299001 bt306.1 bt306.2 x12).bind fun bt308 => (if x13 > x12 then ((keyring_Age.f k bt308.1 bt308.2 x13).bind fun bt310 => (slotmeshlaw32_KeyringStep.j5 k x1 x2 x7 x9 x11 x14 bt310.1 bt310.2)) else (slotmeshlaw32_KeyringStep.j5 k x1 x2 x7 x9 x11 x14 bt308.1 bt308.2)))
def slotmeshlaw32_KeyringStep.j5 : Nat → List Int → List Int → Bool → Int → Int → Int → Int → Int → Option (Bool)
  | 0, _, _, _, _, _, _, _, _ => none
  | k + 1, x1, x2, x7, x9, x11, x14, x299000, x299001 => (keyring_Knows.f k x299000 x299001 x14).bind fun t312 => (if t312 = true then ((keyring_Knows.f k x299000 x299001 (wrap64 (x14 + 1))).bind fun t313 => (if t313 = true then (slotmeshlaw32_KeyringStep.l0 k x1 x2 x7 (wrap64 (x9 + 2000)) (wrap64 (x11 + 1)) x299000 x299001) else (some false))) else (some false))
end
def slotmeshlaw32_KeyringStep.f (k : Nat) (a0 : Int) (l1 : List Int) (l2 : List Int) : Option (Bool) := (slotmeshlaw32_head.f k).bind fun t294 => ((slotmeshlaw32_slot.f a0).bind fun t295 => ((slotmeshlaw32_ring.f (wrap64 (Int.tdiv (wrap64 ((Int.tmod t295 999920000) - (Int.tmod t295 2000))) 2000)) (wrap64 ((wrap64 (Int.tdiv (wrap64 ((Int.tmod t295 999920000) - (Int.tmod t295 2000))) 2000)) + 1))).bind fun bt296 => (slotmeshlaw32_KeyringStep.l0 k l1 l2 t294 (wrap64 ((Int.tmod t295 999920000) - (Int.tmod t295 2000))) 0 bt296.1 bt296.2)))
theorem slotmeshlaw32_KeyringStep.mono_l : ∀ k, (∀ y0 y1 y2 y3 y4 y5 y6, LeO (slotmeshlaw32_KeyringStep.l0 k y0 y1 y2 y3 y4 y5 y6) (slotmeshlaw32_KeyringStep.l0 (k + 1) y0 y1 y2 y3 y4 y5 y6)) ∧ (∀ y0 y1 y2 y3 y4 y5 y6 y7, LeO (slotmeshlaw32_KeyringStep.j1 k y0 y1 y2 y3 y4 y5 y6 y7) (slotmeshlaw32_KeyringStep.j1 (k + 1) y0 y1 y2 y3 y4 y5 y6 y7)) ∧ (∀ y0 y1 y2 y3 y4 y5 y6 y7 y8, LeO (slotmeshlaw32_KeyringStep.j2 k y0 y1 y2 y3 y4 y5 y6 y7 y8) (slotmeshlaw32_KeyringStep.j2 (k + 1) y0 y1 y2 y3 y4 y5 y6 y7 y8)) ∧ (∀ y0 y1 y2 y3 y4 y5 y6 y7 y8 y9 y10, LeO (slotmeshlaw32_KeyringStep.j3 k y0 y1 y2 y3 y4 y5 y6 y7 y8 y9 y10) (slotmeshlaw32_KeyringStep.j3 (k + 1) y0 y1 y2 y3 y4 y5 y6 y7 y8 y9 y10)) ∧ (∀ y0 y1 y2 y3 y4 y5 y6 y7 y8 y9, LeO (slotmeshlaw32_KeyringStep.j4 k y0 y1 y2 y3 y4 y5 y6 y7 y8 y9) (slotmeshlaw32_KeyringStep.j4 (k + 1) y0 y1 y2 y3 y4 y5 y6 y7 y8 y9)) ∧ (∀ y0 y1 y2 y3 y4 y5 y6 y7, LeO (slotmeshlaw32_KeyringStep.j5 k y0 y1 y2 y3 y4 y5 y6 y7) (slotmeshlaw32_KeyringStep.j5 (k + 1) y0 y1 y2 y3 y4 y5 y6 y7))
  | 0 => ⟨fun _ _ _ _ _ _ _ r h => by simp [slotmeshlaw32_KeyringStep.l0] at h, fun _ _ _ _ _ _ _ _ r h => by simp [slotmeshlaw32_KeyringStep.j1] at h, fun _ _ _ _ _ _ _ _ _ r h => by simp [slotmeshlaw32_KeyringStep.j2] at h, fun _ _ _ _ _ _ _ _ _ _ _ r h => by simp [slotmeshlaw32_KeyringStep.j3] at h, fun _ _ _ _ _ _ _ _ _ _ r h => by simp [slotmeshlaw32_KeyringStep.j4] at h, fun _ _ _ _ _ _ _ _ r h => by simp [slotmeshlaw32_KeyringStep.j5] at h⟩
  | k + 1 => by
    obtain ⟨ih0, ih1, ih2, ih3, ih4, ih5⟩ := slotmeshlaw32_KeyringStep.mono_l k
    refine ⟨?_, ?_, ?_, ?_, ?_, ?_⟩
    · intro y0 y1 y2 y3 y4 y5 y6
      unfold slotmeshlaw32_KeyringStep.l0
      repeat' first
      | (with_reducible exact ih0 _ _ _ _ _ _ _)
      | (with_reducible exact ih1 _ _ _ _ _ _ _ _)
      | (with_reducible exact ih2 _ _ _ _ _ _ _ _ _)
      | (with_reducible exact ih3 _ _ _ _ _ _ _ _ _ _ _)
      | (with_reducible exact ih4 _ _ _ _ _ _ _ _ _ _)
      | (with_reducible exact ih5 _ _ _ _ _ _ _ _)
      | (with_reducible exact keyring_Age.mono _ _ _ _)
      | (with_reducible exact keyring_Epoch.mono _ _)
      | (with_reducible exact keyring_Knows.mono _ _ _ _)
      | (with_reducible exact keyring_Root.mono _ _)
      | (with_reducible exact slotmeshlaw32_head.mono _)
      | (with_reducible exact LeO.refl _)
      | (with_reducible exact LeO.none _)
      | (with_reducible refine LeO.ite ?_ ?_)
      | (with_reducible refine LeO.bind ?_ (fun _ => ?_))
      | exact ih0 _ _ _ _ _ _ _
      | exact ih1 _ _ _ _ _ _ _ _
      | exact ih2 _ _ _ _ _ _ _ _ _
      | exact ih3 _ _ _ _ _ _ _ _ _ _ _
      | exact ih4 _ _ _ _ _ _ _ _ _ _
      | exact ih5 _ _ _ _ _ _ _ _
      | exact keyring_Age.mono _ _ _ _
      | exact keyring_Epoch.mono _ _
      | exact keyring_Knows.mono _ _ _ _
      | exact keyring_Root.mono _ _
      | exact slotmeshlaw32_head.mono _
      | exact LeO.none _
      | refine LeO.ite ?_ ?_
      | refine LeO.bind ?_ (fun _ => ?_)
    · intro y0 y1 y2 y3 y4 y5 y6 y7
      unfold slotmeshlaw32_KeyringStep.j1
      repeat' first
      | (with_reducible exact ih0 _ _ _ _ _ _ _)
      | (with_reducible exact ih1 _ _ _ _ _ _ _ _)
      | (with_reducible exact ih2 _ _ _ _ _ _ _ _ _)
      | (with_reducible exact ih3 _ _ _ _ _ _ _ _ _ _ _)
      | (with_reducible exact ih4 _ _ _ _ _ _ _ _ _ _)
      | (with_reducible exact ih5 _ _ _ _ _ _ _ _)
      | (with_reducible exact keyring_Age.mono _ _ _ _)
      | (with_reducible exact keyring_Epoch.mono _ _)
      | (with_reducible exact keyring_Knows.mono _ _ _ _)
      | (with_reducible exact keyring_Root.mono _ _)
      | (with_reducible exact slotmeshlaw32_head.mono _)
      | (with_reducible exact LeO.refl _)
      | (with_reducible exact LeO.none _)
      | (with_reducible refine LeO.ite ?_ ?_)
      | (with_reducible refine LeO.bind ?_ (fun _ => ?_))
      | exact ih0 _ _ _ _ _ _ _
      | exact ih1 _ _ _ _ _ _ _ _
      | exact ih2 _ _ _ _ _ _ _ _ _
      | exact ih3 _ _ _ _ _ _ _ _ _ _ _
      | exact ih4 _ _ _ _ _ _ _ _ _ _
      | exact ih5 _ _ _ _ _ _ _ _
      | exact keyring_Age.mono _ _ _ _
      | exact keyring_Epoch.mono _ _
      | exact keyring_Knows.mono _ _ _ _
      | exact keyring_Root.mono _ _
      | exact slotmeshlaw32_head.mono _
      | exact LeO.none _
      | refine LeO.ite ?_ ?_
      | refine LeO.bind ?_ (fun _ => ?_)
    · intro y0 y1 y2 y3 y4 y5 y6 y7 y8
      unfold slotmeshlaw32_KeyringStep.j2
      repeat' first
      | (with_reducible exact ih0 _ _ _ _ _ _ _)
      | (with_reducible exact ih1 _ _ _ _ _ _ _ _)
      | (with_reducible exact ih2 _ _ _ _ _ _ _ _ _)
      | (with_reducible exact ih3 _ _ _ _ _ _ _ _ _ _ _)
      | (with_reducible exact ih4 _ _ _ _ _ _ _ _ _ _)
      | (with_reducible exact ih5 _ _ _ _ _ _ _ _)
      | (with_reducible exact keyring_Age.mono _ _ _ _)
      | (with_reducible exact keyring_Epoch.mono _ _)
      | (with_reducible exact keyring_Knows.mono _ _ _ _)
      | (with_reducible exact keyring_Root.mono _ _)
      | (with_reducible exact slotmeshlaw32_head.mono _)
      | (with_reducible exact LeO.refl _)
      | (with_reducible exact LeO.none _)
      | (with_reducible refine LeO.ite ?_ ?_)
      | (with_reducible refine LeO.bind ?_ (fun _ => ?_))
      | exact ih0 _ _ _ _ _ _ _
      | exact ih1 _ _ _ _ _ _ _ _
      | exact ih2 _ _ _ _ _ _ _ _ _
      | exact ih3 _ _ _ _ _ _ _ _ _ _ _
      | exact ih4 _ _ _ _ _ _ _ _ _ _
      | exact ih5 _ _ _ _ _ _ _ _
      | exact keyring_Age.mono _ _ _ _
      | exact keyring_Epoch.mono _ _
      | exact keyring_Knows.mono _ _ _ _
      | exact keyring_Root.mono _ _
      | exact slotmeshlaw32_head.mono _
      | exact LeO.none _
      | refine LeO.ite ?_ ?_
      | refine LeO.bind ?_ (fun _ => ?_)
    · intro y0 y1 y2 y3 y4 y5 y6 y7 y8 y9 y10
      unfold slotmeshlaw32_KeyringStep.j3
      repeat' first
      | (with_reducible exact ih0 _ _ _ _ _ _ _)
      | (with_reducible exact ih1 _ _ _ _ _ _ _ _)
      | (with_reducible exact ih2 _ _ _ _ _ _ _ _ _)
      | (with_reducible exact ih3 _ _ _ _ _ _ _ _ _ _ _)
      | (with_reducible exact ih4 _ _ _ _ _ _ _ _ _ _)
      | (with_reducible exact ih5 _ _ _ _ _ _ _ _)
      | (with_reducible exact keyring_Age.mono _ _ _ _)
      | (with_reducible exact keyring_Epoch.mono _ _)
      | (with_reducible exact keyring_Knows.mono _ _ _ _)
      | (with_reducible exact keyring_Root.mono _ _)
      | (with_reducible exact slotmeshlaw32_head.mono _)
      | (with_reducible exact LeO.refl _)
      | (with_reducible exact LeO.none _)
      | (with_reducible refine LeO.ite ?_ ?_)
      | (with_reducible refine LeO.bind ?_ (fun _ => ?_))
      | exact ih0 _ _ _ _ _ _ _
      | exact ih1 _ _ _ _ _ _ _ _
      | exact ih2 _ _ _ _ _ _ _ _ _
      | exact ih3 _ _ _ _ _ _ _ _ _ _ _
      | exact ih4 _ _ _ _ _ _ _ _ _ _
      | exact ih5 _ _ _ _ _ _ _ _
      | exact keyring_Age.mono _ _ _ _
      | exact keyring_Epoch.mono _ _
      | exact keyring_Knows.mono _ _ _ _
      | exact keyring_Root.mono _ _
      | exact slotmeshlaw32_head.mono _
      | exact LeO.none _
      | refine LeO.ite ?_ ?_
      | refine LeO.bind ?_ (fun _ => ?_)
    · intro y0 y1 y2 y3 y4 y5 y6 y7 y8 y9
      unfold slotmeshlaw32_KeyringStep.j4
      repeat' first
      | (with_reducible exact ih0 _ _ _ _ _ _ _)
      | (with_reducible exact ih1 _ _ _ _ _ _ _ _)
      | (with_reducible exact ih2 _ _ _ _ _ _ _ _ _)
      | (with_reducible exact ih3 _ _ _ _ _ _ _ _ _ _ _)
      | (with_reducible exact ih4 _ _ _ _ _ _ _ _ _ _)
      | (with_reducible exact ih5 _ _ _ _ _ _ _ _)
      | (with_reducible exact keyring_Age.mono _ _ _ _)
      | (with_reducible exact keyring_Epoch.mono _ _)
      | (with_reducible exact keyring_Knows.mono _ _ _ _)
      | (with_reducible exact keyring_Root.mono _ _)
      | (with_reducible exact slotmeshlaw32_head.mono _)
      | (with_reducible exact LeO.refl _)
      | (with_reducible exact LeO.none _)
      | (with_reducible refine LeO.ite ?_ ?_)
      | (with_reducible refine LeO.bind ?_ (fun _ => ?_))
      | exact ih0 _ _ _ _ _ _ _
      | exact ih1 _ _ _ _ _ _ _ _
      | exact ih2 _ _ _ _ _ _ _ _ _
      | exact ih3 _ _ _ _ _ _ _ _ _ _ _
      | exact ih4 _ _ _ _ _ _ _ _ _ _
      | exact ih5 _ _ _ _ _ _ _ _
      | exact keyring_Age.mono _ _ _ _
      | exact keyring_Epoch.mono _ _
      | exact keyring_Knows.mono _ _ _ _
      | exact keyring_Root.mono _ _
      | exact slotmeshlaw32_head.mono _
      | exact LeO.none _
      | refine LeO.ite ?_ ?_
      | refine LeO.bind ?_ (fun _ => ?_)
    · intro y0 y1 y2 y3 y4 y5 y6 y7
      unfold slotmeshlaw32_KeyringStep.j5
      repeat' first
      | (with_reducible exact ih0 _ _ _ _ _ _ _)
      | (with_reducible exact ih1 _ _ _ _ _ _ _ _)
      | (with_reducible exact ih2 _ _ _ _ _ _ _ _ _)
      | (with_reducible exact ih3 _ _ _ _ _ _ _ _ _ _ _)
      | (with_reducible exact ih4 _ _ _ _ _ _ _ _ _ _)
      | (with_reducible exact ih5 _ _ _ _ _ _ _ _)
      | (with_reducible exact keyring_Age.mono _ _ _ _)
      | (with_reducible exact keyring_Epoch.mono _ _)
      | (with_reducible exact keyring_Knows.mono _ _ _ _)
      | (with_reducible exact keyring_Root.mono _ _)
      | (with_reducible exact slotmeshlaw32_head.mono _)
      | (with_reducible exact LeO.refl _)
      | (with_reducible exact LeO.none _)
      | (with_reducible refine LeO.ite ?_ ?_)
      | (with_reducible refine LeO.bind ?_ (fun _ => ?_))
      | exact ih0 _ _ _ _ _ _ _
      | exact ih1 _ _ _ _ _ _ _ _
      | exact ih2 _ _ _ _ _ _ _ _ _
      | exact ih3 _ _ _ _ _ _ _ _ _ _ _
      | exact ih4 _ _ _ _ _ _ _ _ _ _
      | exact ih5 _ _ _ _ _ _ _ _
      | exact keyring_Age.mono _ _ _ _
      | exact keyring_Epoch.mono _ _
      | exact keyring_Knows.mono _ _ _ _
      | exact keyring_Root.mono _ _
      | exact slotmeshlaw32_head.mono _
      | exact LeO.none _
      | refine LeO.ite ?_ ?_
      | refine LeO.bind ?_ (fun _ => ?_)
theorem slotmeshlaw32_KeyringStep.mono : ∀ a0 a1 a2 k, LeO (slotmeshlaw32_KeyringStep.f k a0 a1 a2) (slotmeshlaw32_KeyringStep.f (k + 1) a0 a1 a2) := by
  intro a0 a1 a2 k
  obtain ⟨ih0, ih1, ih2, ih3, ih4, ih5⟩ := slotmeshlaw32_KeyringStep.mono_l k
  unfold slotmeshlaw32_KeyringStep.f
  repeat' first
      | (with_reducible exact ih0 _ _ _ _ _ _ _)
      | (with_reducible exact ih1 _ _ _ _ _ _ _ _)
      | (with_reducible exact ih2 _ _ _ _ _ _ _ _ _)
      | (with_reducible exact ih3 _ _ _ _ _ _ _ _ _ _ _)
      | (with_reducible exact ih4 _ _ _ _ _ _ _ _ _ _)
      | (with_reducible exact ih5 _ _ _ _ _ _ _ _)
      | (with_reducible exact keyring_Age.mono _ _ _ _)
      | (with_reducible exact keyring_Epoch.mono _ _)
      | (with_reducible exact keyring_Knows.mono _ _ _ _)
      | (with_reducible exact keyring_Root.mono _ _)
      | (with_reducible exact slotmeshlaw32_head.mono _)
      | (with_reducible exact LeO.refl _)
      | (with_reducible exact LeO.none _)
      | (with_reducible refine LeO.ite ?_ ?_)
      | (with_reducible refine LeO.bind ?_ (fun _ => ?_))
      | exact ih0 _ _ _ _ _ _ _
      | exact ih1 _ _ _ _ _ _ _ _
      | exact ih2 _ _ _ _ _ _ _ _ _
      | exact ih3 _ _ _ _ _ _ _ _ _ _ _
      | exact ih4 _ _ _ _ _ _ _ _ _ _
      | exact ih5 _ _ _ _ _ _ _ _
      | exact keyring_Age.mono _ _ _ _
      | exact keyring_Epoch.mono _ _
      | exact keyring_Knows.mono _ _ _ _
      | exact keyring_Root.mono _ _
      | exact slotmeshlaw32_head.mono _
      | exact LeO.none _
      | refine LeO.ite ?_ ?_
      | refine LeO.bind ?_ (fun _ => ?_)
set_option maxHeartbeats 8000000 in
set_option maxRecDepth 100000 in
theorem slotmeshlaw32_KeyringStep.calls (k : Nat) (a0 : Int) (A1 : Option Addr) (c1 : Nat) (l1 : List Int) (A2 : Option Addr) (c2 : Nat) (l2 : List Int) (r : Bool) (w : World) (hr1 : Kd.C (Kd.int .u16) w A1 l1.length l1) (hc1 : l1.length ≤ c1) (hr2 : Kd.C (Kd.int .u16) w A2 l2.length l2) (hc2 : l2.length ≤ c2) (h : slotmeshlaw32_KeyringStep.f k a0 l1 l2 = some r) :
    Calls Try.prog 9 #[.int .u32 a0, .slice A1 l1.length c1, .slice A2 l2.length c2] w fun e w' => e = .returned (.bool r) ∧ Below w.heap.size w w' := by
  have hu23 := Try.underlying23
  have HR1 := Aside0.mk hr1
  have HC1 := Aside0.mk hc1
  clear hr1 hc1
  have HR2 := Aside0.mk hr2
  have HC2 := Aside0.mk hc2
  clear hr2 hc2
  have HB := Aside0.mk (Below.refl w.heap.size w)
  have H : ((slotmeshlaw32_head.f k).bind fun t294 => ((slotmeshlaw32_slot.f a0).bind fun t295 => ((slotmeshlaw32_ring.f (wrap64 (Int.tdiv (wrap64 ((Int.tmod t295 999920000) - (Int.tmod t295 2000))) 2000)) (wrap64 ((wrap64 (Int.tdiv (wrap64 ((Int.tmod t295 999920000) - (Int.tmod t295 2000))) 2000)) + 1))).bind fun bt296 => (slotmeshlaw32_KeyringStep.l0 k l1 l2 t294 (wrap64 ((Int.tmod t295 999920000) - (Int.tmod t295 2000))) 0 bt296.1 bt296.2)))) = some r := h
  clear h
  replace H := Option.bind_eq_some_iff.mp H
  obtain ⟨t294, A40, H⟩ := H
  replace H : ((slotmeshlaw32_slot.f a0).bind fun t295 => ((slotmeshlaw32_ring.f (wrap64 (Int.tdiv (wrap64 ((Int.tmod t295 999920000) - (Int.tmod t295 2000))) 2000)) (wrap64 ((wrap64 (Int.tdiv (wrap64 ((Int.tmod t295 999920000) - (Int.tmod t295 2000))) 2000)) + 1))).bind fun bt296 => (slotmeshlaw32_KeyringStep.l0 k l1 l2 t294 (wrap64 ((Int.tmod t295 999920000) - (Int.tmod t295 2000))) 0 bt296.1 bt296.2))) = some r := H
  have A4 := Aside0.mk A40
  clear A40
  replace H := Option.bind_eq_some_iff.mp H
  obtain ⟨t295, A50, H⟩ := H
  replace H : ((slotmeshlaw32_ring.f (wrap64 (Int.tdiv (wrap64 ((Int.tmod t295 999920000) - (Int.tmod t295 2000))) 2000)) (wrap64 ((wrap64 (Int.tdiv (wrap64 ((Int.tmod t295 999920000) - (Int.tmod t295 2000))) 2000)) + 1))).bind fun bt296 => (slotmeshlaw32_KeyringStep.l0 k l1 l2 t294 (wrap64 ((Int.tmod t295 999920000) - (Int.tmod t295 2000))) 0 bt296.1 bt296.2)) = some r := H
  have A5 := Aside0.mk A50
  clear A50
  replace H := Option.bind_eq_some_iff.mp H
  obtain ⟨⟨t296, t297⟩, A60, H⟩ := H
  replace H : (slotmeshlaw32_KeyringStep.l0 k l1 l2 t294 (wrap64 ((Int.tmod t295 999920000) - (Int.tmod t295 2000))) 0 t296 t297) = some r := H
  have A6 := Aside0.mk A60
  clear A60
  have H' := Aside0.mk H
  clear H
  go_enter Try.func9, Try.ntmps9
  go_wp2_with (first | ((with_reducible refine gate_callee (f := 10) rfl ?_); refine goesL_ (some 16) rfl rfl Try.func10 (by kernel_rfl) rfl #[] rfl (by (try simp only [List.map_toArray, List.map_cons, List.map_nil]); first | done | rfl | (simp only [List.length_drop, List.length_take]; rfl)) ?_; (with_reducible refine (slotmeshlaw32_head.calls k  t294 _ A4.out).mono ?_); rintro e w7 ⟨rfl, hb⟩; refine ⟨_, rfl, ?_⟩; have n0_ := Aside0.mk (below_step (by repeat (first | (with_reducible first | exact HB.out | apply below_alloc | apply pw_below_drewN | apply below_drew1) | exact HB.out)) hb); clear HB; have HB := n0_; clear n0_; (try clear hb); (try clear hb2); (try clear hk); (try clear hi)) | ((with_reducible refine gate_callee (f := 21) rfl ?_); refine goesL_ (some 18) rfl rfl Try.func21 (by kernel_rfl) rfl #[.int .u32 a0] rfl (by (try simp only [List.map_toArray, List.map_cons, List.map_nil]); first | done | rfl | (simp only [List.length_drop, List.length_take]; rfl)) ?_; (with_reducible refine (slotmeshlaw32_slot.calls a0 t295 _ A5.out).mono ?_); rintro e w' ⟨rfl, ⟨nd, rfl⟩⟩; refine ⟨_, rfl, ?_⟩; (try (rw [drewN_self w7]; generalize hq_ : World.drewN w7 _ = w7; have n0_ : Aside0 (Below w.heap.size w w7) := ⟨by rw [← hq_]; exact (by repeat (first | (with_reducible first | exact HB.out | apply below_alloc | apply pw_below_drewN | apply below_drew1) | exact HB.out))⟩; clear HB hq_; have HB := n0_; clear n0_))) | ((with_reducible refine gate_callee (f := 24) rfl ?_); refine goesL_ (some 29) rfl rfl Try.func24 (by kernel_rfl) rfl #[.int .i64 (wrap64 (Int.tdiv (wrap64 ((Int.tmod t295 999920000) - (Int.tmod t295 2000))) 2000)), .int .i64 (wrap64 ((wrap64 (Int.tdiv (wrap64 ((Int.tmod t295 999920000) - (Int.tmod t295 2000))) 2000)) + 1))] rfl (by (try simp only [List.map_toArray, List.map_cons, List.map_nil]); first | done | rfl | (simp only [List.length_drop, List.length_take]; rfl)) ?_; (with_reducible refine (slotmeshlaw32_ring.calls (wrap64 (Int.tdiv (wrap64 ((Int.tmod t295 999920000) - (Int.tmod t295 2000))) 2000)) (wrap64 ((wrap64 (Int.tdiv (wrap64 ((Int.tmod t295 999920000) - (Int.tmod t295 2000))) 2000)) + 1)) t296 t297 _ A6.out).mono ?_); rintro e w8 ⟨rfl, hb⟩; refine ⟨_, rfl, ?_⟩; have n0_ := Aside0.mk (below_step (by repeat (first | (with_reducible first | exact HB.out | apply below_alloc | apply pw_below_drewN | apply below_drew1) | exact HB.out)) hb); clear HB; have HB := n0_; clear n0_; (try clear hb); (try clear hb2); (try clear hk); (try clear hi)) | ((with_reducible refine gate_dst (N := 10) rfl ?_); refine box_event ?hg (N := 10) ?hd (cs := #[.int .i64 0, .int .i64 0]) (t := 23) ?hr ?_; (case hd => rfl); (case hg => rfl); (case hr => first | (go_simp; done) | (go_simp; rfl)); intro gb298 hg w9 hbox hb; have n0_ := Aside0.mk (below_step (by repeat (first | (with_reducible first | exact HB.out | apply below_alloc | apply pw_below_drewN | apply below_drew1) | exact HB.out)) hb); have n1_ := Aside0.mk (hbox); have n2_ := Aside0.mk ((by rw [hg]; exact (below_size (by repeat (first | (with_reducible first | exact HB.out | apply below_alloc | apply pw_below_drewN | apply below_drew1) | exact HB.out))) : w.heap.size ≤ gb298)); have n3_ := Aside0.mk ((by rw [hg]; exact (below_size (by repeat (first | (with_reducible first | exact HB.out | apply below_alloc | apply pw_below_drewN | apply below_drew1) | exact HB.out))) : w.heap.size ≤ gb298)); clear HB; have HB := n0_; have BK298 := n1_; have GW298 := n2_; have GE298 := n3_; clear n0_ n1_ n2_ n3_; clear hb hbox hg; have hcz10_0 : w9.cell? ⟨gb298, 0, none⟩ = some (.int .i64 0) := (blk_cell BK298.out 0).trans rfl; have hcz10_1 : w9.cell? ⟨gb298, 1, none⟩ = some (.int .i64 0) := (blk_cell BK298.out 1).trans rfl; have hfz10_0 := blk_frozen BK298.out 0; have hfz10_1 := blk_frozen BK298.out 1))
  go_loopg [9, 11] k (fun kq v9 v11 w' => ∃ (x9_1 : Int) (x11_1 : Int) (x299000_1 : Int) (x299001_1 : Int), v9 = .int .i64 x9_1 ∧ v11 = .int .i64 x11_1 ∧ Aside0 (slotmeshlaw32_KeyringStep.l0 kq l1 l2 t294 x9_1 x11_1 x299000_1 x299001_1 = some r) ∧ Aside0 (kq ≤ k) ∧ Aside0 (w'.heap[gb298]? = some (.cells #[.int .i64 x299000_1, .int .i64 x299001_1] 23 (0, 0))) ∧ Aside0 (Below w.heap.size w w'))
  case atStart => exact ⟨(wrap64 ((Int.tmod t295 999920000) - (Int.tmod t295 2000))), (0), (t296), (t297), (by first | rfl | (simp; done) | (simp [*]; done)), (by first | rfl | (simp; done) | (simp [*]; done)), H', ⟨Nat.le_refl _⟩, ⟨by (with_reducible repeat (first | refine blk_drewN ?_ _ | refine blk_drew ?_ | refine blk_alloc ?_ _)); refine blk_put (cs := #[.int .i64 t296, .int .i64 0]) ?_ 1 _ rfl; (with_reducible repeat (first | refine blk_drewN ?_ _ | refine blk_drew ?_ | refine blk_alloc ?_ _)); refine blk_put (cs := #[.int .i64 0, .int .i64 0]) ?_ 0 _ rfl; (with_reducible repeat (first | refine blk_drewN ?_ _ | refine blk_drew ?_ | refine blk_alloc ?_ _)); exact BK298.out⟩, ⟨by repeat (first | (with_reducible first | exact HB.out | apply below_alloc | apply pw_below_drewN | apply below_drew1 | refine below_set ?_ GE298.out) | exact HB.out)⟩⟩
  case round =>
    clear H'
    try clear c1
    try clear c2
    try clear p2
    try clear p6
    try clear c9
    try clear c10
    try clear hcz10_0
    try clear hcz10_1
    try clear hfz10_0
    try clear hfz10_1
    obtain ⟨x9_1, x11_1, x299000_1, x299001_1, rfl, rfl, HA, HK1, BK298, HB⟩ := hrel
    cases gk with
    | zero => exact absurd HA.out (by simp [slotmeshlaw32_KeyringStep.l0])
    | succ k1 =>
      have H := HA.out
      clear HA
      simp only [slotmeshlaw32_KeyringStep.l0] at H
      have HC11 := Aside0.mk H
      clear H
      go_upto_region 6 with (fail)
      go_cut [37] (fun v37 wc => ∃ (kq : Nat) (x37_10 : Bool), v37 = .bool x37_10 ∧ Aside0 (slotmeshlaw32_KeyringStep.j1 kq l1 l2 t294 x9_1 x11_1 x37_10 x299000_1 x299001_1 = some r) ∧ Aside0 (kq ≤ k1) ∧ Aside0 (wc.heap[gb298]? = some (.cells #[.int .i64 x299000_1, .int .i64 x299001_1] 23 (0, 0))) ∧ Aside0 (Below w.heap.size w wc))
      case first =>
        have H := HC11.out
        clear HC11
        by_cases c12 : x11_1 < (l1.length : Int)
        · rw [if_pos c12] at H
          have c12b0 : decide (x11_1 < (l1.length : Int)) = true := decide_eq_true c12
          clear c12
          (first | rw [c12b0] | (simp only [i64_w, i32_w]; rw [c12b0]) | skip)
          have H' := Aside0.mk H
          clear H
          go_wp2
          go_meet
          case rel => exact ⟨_, (decide (x11_1 < 30)), (by first | rfl | (simp; done) | (simp [*]; done)), H', ⟨by have := HK1.out; first | omega | exact Nat.le_refl _⟩, ⟨by (with_reducible repeat (first | refine blk_drewN ?_ _ | refine blk_drew ?_ | refine blk_alloc ?_ _)); exact BK298.out⟩, ⟨by repeat (first | (with_reducible first | exact HB.out | apply below_alloc | apply pw_below_drewN | apply below_drew1 | refine below_set ?_ GE298.out) | exact HB.out)⟩⟩
        · rw [if_neg c12] at H
          have c12b0 : decide (x11_1 < (l1.length : Int)) = false := decide_eq_false c12
          clear c12
          (first | rw [c12b0] | (simp only [i64_w, i32_w]; rw [c12b0]) | skip)
          have H' := Aside0.mk H
          clear H
          go_wp2
          go_meet
          case rel => exact ⟨_, (false), (by first | rfl | (simp; done) | (simp [*]; done)), H', ⟨by have := HK1.out; first | omega | exact Nat.le_refl _⟩, ⟨by (with_reducible repeat (first | refine blk_drewN ?_ _ | refine blk_drew ?_ | refine blk_alloc ?_ _)); exact BK298.out⟩, ⟨by repeat (first | (with_reducible first | exact HB.out | apply below_alloc | apply pw_below_drewN | apply below_drew1 | refine below_set ?_ GE298.out) | exact HB.out)⟩⟩
      case rest =>
        clear HC11
        try clear c1
        try clear c2
        try clear p2
        try clear p6
        try clear c9
        try clear c10
        try clear c12
        try clear c12b0
        try clear hcz10_0
        try clear hcz10_1
        try clear hfz10_0
        try clear hfz10_1
        try clear p2
        try clear p6
        obtain ⟨kq, x37_10, rfl, HA, HJ10, BK298, HB⟩ := hcut
        cases kq with
        | zero => exact absurd HA.out (by simp [slotmeshlaw32_KeyringStep.j1])
        | succ kj10 =>
          have H := HA.out
          clear HA
          simp only [slotmeshlaw32_KeyringStep.j1] at H
          by_cases c13 : x37_10 = true
          · subst c13
            have H1 : (if 0 ≤ x11_1 then (if x11_1 < (l1.length : Int) then (if x11_1 < (l2.length : Int) then (slotmeshlaw32_KeyringStep.j2 kj10 l1 l2 t294 x9_1 x11_1 (wrap64 (x9_1 + (Int.tmod (wrap64 (rd l1 x11_1)) 2000))) (wrap64 (x9_1 + (Int.tmod (wrap64 (rd l2 x11_1)) 2000))) x299000_1 x299001_1) else (slotmeshlaw32_KeyringStep.j2 kj10 l1 l2 t294 x9_1 x11_1 (wrap64 (x9_1 + (Int.tmod (wrap64 (rd l1 x11_1)) 2000))) x9_1 x299000_1 x299001_1)) else (none)) else (none)) = some r := by rw [if_pos rfl] at H; exact H
            clear H
            have H := H1
            clear H1
            by_cases c14 : 0 ≤ x11_1
            · rw [if_pos c14] at H
              have c14b0 : decide (0 ≤ x11_1) = true := decide_eq_true c14
              clear c14
              by_cases c15 : x11_1 < (l1.length : Int)
              · rw [if_pos c15] at H
                have c15b0 : decide (x11_1 < (l1.length : Int)) = true := decide_eq_true c15
                clear c15
                have HC16 := Aside0.mk H
                clear H
                have p299 : 0 ≤ (x11_1 : Int) := of_decide_eq_true (by first | (with_reducible assumption) | assumption)
                have q299 : x11_1 < (l1.length : Int) := of_decide_eq_true (by first | (with_reducible assumption) | assumption)
                obtain ⟨ad299, e299, hx299_0⟩ := Kd.at_int HR1.out x11_1 p299 q299
                cases e299
                replace hx299_0 := (HB.out.cell (World.block_lt_of_cell? w _ hx299_0)).trans hx299_0
                replace p299 := eq_true p299
                replace q299 := eq_true q299
                go_upto_if 52 with (fail)
                go_cut [13] (fun v13 wc => ∃ (kq : Nat) (x13_15 : Int), v13 = .int .i64 x13_15 ∧ Aside0 (slotmeshlaw32_KeyringStep.j2 kq l1 l2 t294 x9_1 x11_1 (wrap64 (x9_1 + (Int.tmod (wrap64 (rd l1 x11_1)) 2000))) x13_15 x299000_1 x299001_1 = some r) ∧ Aside0 (kq ≤ kj10) ∧ Aside0 (wc.heap[gb298]? = some (.cells #[.int .i64 x299000_1, .int .i64 x299001_1] 23 (0, 0))) ∧ Aside0 (Below w.heap.size w wc))
                case first =>
                  have H := HC16.out
                  clear HC16
                  by_cases c17 : x11_1 < (l2.length : Int)
                  · rw [if_pos c17] at H
                    have c17b0 : decide (x11_1 < (l2.length : Int)) = true := decide_eq_true c17
                    clear c17
                    (first | rw [c17b0] | (simp only [i64_w, i32_w]; rw [c17b0]) | skip)
                    have H' := Aside0.mk H
                    clear H
                    have p300 : 0 ≤ (x11_1 : Int) := of_decide_eq_true (by first | (with_reducible assumption) | assumption)
                    have q300 : x11_1 < (l2.length : Int) := of_decide_eq_true (by first | (with_reducible assumption) | assumption)
                    obtain ⟨ad300, e300, hx300_0⟩ := Kd.at_int HR2.out x11_1 p300 q300
                    cases e300
                    replace hx300_0 := (HB.out.cell (World.block_lt_of_cell? w _ hx300_0)).trans hx300_0
                    replace p300 := eq_true p300
                    replace q300 := eq_true q300
                    go_wp2
                    go_meet
                    case rel => exact ⟨_, (wrap64 (x9_1 + (Int.tmod (wrap64 (rd l2 x11_1)) 2000))), (by first | rfl | (simp; done) | (simp [*]; done)), H', ⟨by have := HK1.out; have := HJ10.out; first | omega | exact Nat.le_refl _⟩, ⟨by (with_reducible repeat (first | refine blk_drewN ?_ _ | refine blk_drew ?_ | refine blk_alloc ?_ _)); exact BK298.out⟩, ⟨by repeat (first | (with_reducible first | exact HB.out | apply below_alloc | apply pw_below_drewN | apply below_drew1 | refine below_set ?_ GE298.out) | exact HB.out)⟩⟩
                  · rw [if_neg c17] at H
                    have c17b0 : decide (x11_1 < (l2.length : Int)) = false := decide_eq_false c17
                    clear c17
                    (first | rw [c17b0] | (simp only [i64_w, i32_w]; rw [c17b0]) | skip)
                    have H' := Aside0.mk H
                    clear H
                    go_wp2
                    go_meet
                    case rel => exact ⟨_, (x9_1), (by first | rfl | (simp; done) | (simp [*]; done)), H', ⟨by have := HK1.out; have := HJ10.out; first | omega | exact Nat.le_refl _⟩, ⟨by (with_reducible repeat (first | refine blk_drewN ?_ _ | refine blk_drew ?_ | refine blk_alloc ?_ _)); exact BK298.out⟩, ⟨by repeat (first | (with_reducible first | exact HB.out | apply below_alloc | apply pw_below_drewN | apply below_drew1 | refine below_set ?_ GE298.out) | exact HB.out)⟩⟩
                case rest =>
                  clear HC16
                  try clear c1
                  try clear c2
                  try clear p2
                  try clear q2
                  try clear hx2
                  try clear p3
                  try clear q3
                  try clear hx3
                  try clear p6
                  try clear c9
                  try clear c10
                  try clear c12
                  try clear c12b0
                  try clear c13
                  try clear c14
                  try clear c14b0
                  try clear c15
                  try clear c15b0
                  try clear c17
                  try clear c17b0
                  try clear hcz10_0
                  try clear hcz10_1
                  try clear hfz10_0
                  try clear hfz10_1
                  try clear hx299_0
                  try clear hx300_0
                  try clear p2
                  try clear p299
                  try clear p300
                  try clear p6
                  try clear q299
                  try clear q300
                  obtain ⟨kq, x13_15, rfl, HA, HJ15, BK298, HB⟩ := hcut
                  cases kq with
                  | zero => exact absurd HA.out (by simp [slotmeshlaw32_KeyringStep.j2])
                  | succ kj15 =>
                    have H := HA.out
                    clear HA
                    simp only [slotmeshlaw32_KeyringStep.j2] at H
                    replace H := Option.bind_eq_some_iff.mp H
                    obtain ⟨⟨t301, t302⟩, A180, H⟩ := H
                    replace H : (if t302 = 0 then ((keyring_Knows.f kj15 x299000_1 x299001_1 t301).bind fun t303 => (slotmeshlaw32_KeyringStep.j3 kj15 l1 l2 t294 x9_1 x11_1 (wrap64 (x9_1 + (Int.tmod (wrap64 (rd l1 x11_1)) 2000))) x13_15 t301 (!t303) x299000_1 x299001_1)) else (slotmeshlaw32_KeyringStep.j3 kj15 l1 l2 t294 x9_1 x11_1 (wrap64 (x9_1 + (Int.tmod (wrap64 (rd l1 x11_1)) 2000))) x13_15 t301 true x299000_1 x299001_1)) = some r := H
                    have A18 := Aside0.mk A180
                    clear A180
                    have HC19 := Aside0.mk H
                    clear H
                    go_upto_region 13 with (first | ((with_reducible refine gate_callee (f := 11) rfl ?_); refine goesL_ (some 63) rfl rfl Try.func11 (by kernel_rfl) rfl #[.int .i64 x9_1] rfl (by (try simp only [List.map_toArray, List.map_cons, List.map_nil]); first | done | rfl | (simp only [List.length_drop, List.length_take]; rfl)) ?_; (with_reducible refine (keyring_Epoch.calls kj15 x9_1 t301 t302 _ A18.out).mono ?_); rintro e w20 ⟨rfl, hb⟩; refine ⟨_, rfl, ?_⟩; have n0_ := Aside0.mk (blk_below (g := gb298) (o := .cells #[.int .i64 x299000_1, .int .i64 x299001_1] 23 (0, 0)) (by (with_reducible repeat (first | refine blk_drewN ?_ _ | refine blk_drew ?_ | refine blk_alloc ?_ _)); exact BK298.out) hb); have n1_ := Aside0.mk (below_step (by repeat (first | (with_reducible first | exact HB.out | apply below_alloc | apply pw_below_drewN | apply below_drew1 | refine below_set ?_ GE298.out) | exact HB.out)) hb); clear BK298; clear HB; have BK298 := n0_; have HB := n1_; clear n0_ n1_; (try clear hb); (try clear hb2); (try clear hk); (try clear hi)))
                    (try simp only [Act.put, List.setIfInBounds_toArray, List.set_cons_zero, List.set_cons_succ])
                    go_cut [73] (fun v73 wc => ∃ (kq : Nat) (x73_18 : Bool), v73 = .bool x73_18 ∧ Aside0 (slotmeshlaw32_KeyringStep.j3 kq l1 l2 t294 x9_1 x11_1 (wrap64 (x9_1 + (Int.tmod (wrap64 (rd l1 x11_1)) 2000))) x13_15 t301 x73_18 x299000_1 x299001_1 = some r) ∧ Aside0 (kq ≤ kj15) ∧ Aside0 (wc.heap[gb298]? = some (.cells #[.int .i64 x299000_1, .int .i64 x299001_1] 23 (0, 0))) ∧ Aside0 (Below w.heap.size w wc))
                    case first =>
                      have H := HC19.out
                      clear HC19
                      by_cases c21 : t302 = 0
                      · rw [if_pos c21] at H
                        have c21b0 : (t302 == 0) = true := beq_iff_eq.mpr c21
                        have c21b1 : (t302 != 0) = false := bne_eq_false_iff_eq.mpr c21
                        clear c21
                        (first | rw [c21b0] | (simp only [i64_w, i32_w]; rw [c21b0]) | skip)
                        replace H := Option.bind_eq_some_iff.mp H
                        obtain ⟨t303, A220, H⟩ := H
                        replace H : (slotmeshlaw32_KeyringStep.j3 kj15 l1 l2 t294 x9_1 x11_1 (wrap64 (x9_1 + (Int.tmod (wrap64 (rd l1 x11_1)) 2000))) x13_15 t301 (!t303) x299000_1 x299001_1) = some r := H
                        have A22 := Aside0.mk A220
                        clear A220
                        have H' := Aside0.mk H
                        clear H
                        have hcz23_0 : w20.cell? ⟨gb298, 0, none⟩ = some (.int .i64 x299000_1) := (blk_cell BK298.out 0).trans rfl
                        have hcz23_1 : w20.cell? ⟨gb298, 1, none⟩ = some (.int .i64 x299001_1) := (blk_cell BK298.out 1).trans rfl
                        have hfz23_0 := blk_frozen BK298.out 0
                        have hfz23_1 := blk_frozen BK298.out 1
                        go_wp2_with (first | (go_at_call 13; (with_reducible refine (keyring_Knows.calls kj15 x299000_1 x299001_1 t301 t303 _ A22.out).mono ?_); rintro e w24 ⟨rfl, hb⟩; have n0_ := Aside0.mk (blk_below (g := gb298) (o := .cells #[.int .i64 x299000_1, .int .i64 x299001_1] 23 (0, 0)) (by (with_reducible repeat (first | refine blk_drewN ?_ _ | refine blk_drew ?_ | refine blk_alloc ?_ _)); exact BK298.out) hb); have n1_ := Aside0.mk (below_step (by repeat (first | (with_reducible first | exact HB.out | apply below_alloc | apply pw_below_drewN | apply below_drew1 | refine below_set ?_ GE298.out) | exact HB.out)) hb); clear BK298; clear HB; have BK298 := n0_; have HB := n1_; clear n0_ n1_; (try clear hb); (try clear hb2); (try clear hk); (try clear hi)))
                        go_meet
                        case rel => exact ⟨_, (!t303), (by first | rfl | (simp; done) | (simp [*]; done)), H', ⟨by have := HK1.out; have := HJ10.out; have := HJ15.out; first | omega | exact Nat.le_refl _⟩, ⟨by (with_reducible repeat (first | refine blk_drewN ?_ _ | refine blk_drew ?_ | refine blk_alloc ?_ _)); exact BK298.out⟩, ⟨by repeat (first | (with_reducible first | exact HB.out | apply below_alloc | apply pw_below_drewN | apply below_drew1 | refine below_set ?_ GE298.out) | exact HB.out)⟩⟩
                      · rw [if_neg c21] at H
                        have c21b0 : (t302 == 0) = false := beq_eq_false_iff_ne.mpr c21
                        have c21b1 : (t302 != 0) = true := bne_iff_ne.mpr c21
                        (first | rw [c21b0] | (simp only [i64_w, i32_w]; rw [c21b0]) | skip)
                        have H' := Aside0.mk H
                        clear H
                        go_wp2
                        go_meet
                        case rel => exact ⟨_, (true), (by first | rfl | (simp; done) | (simp [*]; done)), H', ⟨by have := HK1.out; have := HJ10.out; have := HJ15.out; first | omega | exact Nat.le_refl _⟩, ⟨by (with_reducible repeat (first | refine blk_drewN ?_ _ | refine blk_drew ?_ | refine blk_alloc ?_ _)); exact BK298.out⟩, ⟨by repeat (first | (with_reducible first | exact HB.out | apply below_alloc | apply pw_below_drewN | apply below_drew1 | refine below_set ?_ GE298.out) | exact HB.out)⟩⟩
                    case rest =>
                      clear HC19
                      try clear c1
                      try clear c2
                      try clear p2
                      try clear q2
                      try clear hx2
                      try clear p3
                      try clear q3
                      try clear hx3
                      try clear p6
                      try clear c9
                      try clear c10
                      try clear c11
                      try clear c12
                      try clear c12b0
                      try clear c13
                      try clear c14
                      try clear c14b0
                      try clear c15
                      try clear c15b0
                      try clear c17
                      try clear c17b0
                      try clear c21
                      try clear c21b0
                      try clear c21b1
                      try clear c24
                      try clear hcz10_0
                      try clear hcz10_1
                      try clear hcz23_0
                      try clear hcz23_1
                      try clear hfz10_0
                      try clear hfz10_1
                      try clear hfz23_0
                      try clear hfz23_1
                      try clear hx299_0
                      try clear hx300_0
                      try clear p2
                      try clear p299
                      try clear p3
                      try clear p300
                      try clear p6
                      try clear q2
                      try clear q299
                      try clear q3
                      try clear q300
                      obtain ⟨kq, x73_18, rfl, HA, HJ18, BK298, HB⟩ := hcut
                      cases kq with
                      | zero => exact absurd HA.out (by simp [slotmeshlaw32_KeyringStep.j3])
                      | succ kj18 =>
                        have H := HA.out
                        clear HA
                        simp only [slotmeshlaw32_KeyringStep.j3] at H
                        by_cases c25 : x73_18 = true
                        · subst c25
                          have H1 : (some false) = some r := by rw [if_pos rfl] at H; exact H
                          clear H
                          have H := H1
                          clear H1
                          obtain rfl := Option.some.inj H
                          go_wp2
                          go_ret
                          exact ⟨by first | rfl | (simp [errW_none, errW_some] <;> rfl) | (simp [*, errW_none, errW_some] <;> rfl), by repeat (first | (with_reducible first | exact HB.out | apply below_alloc | apply pw_below_drewN | apply below_drew1 | refine below_set ?_ GE298.out) | exact HB.out)⟩
                        · replace c25 := Bool.eq_false_iff.mpr c25
                          subst c25
                          have H1 : (if x13_15 ≤ (wrap64 (x9_1 + (Int.tmod (wrap64 (rd l1 x11_1)) 2000))) then ((keyring_Age.f kj18 x299000_1 x299001_1 x13_15).bind fun bt304 => (slotmeshlaw32_KeyringStep.j4 kj18 l1 l2 t294 x9_1 x11_1 (wrap64 (x9_1 + (Int.tmod (wrap64 (rd l1 x11_1)) 2000))) x13_15 t301 bt304.1 bt304.2)) else (slotmeshlaw32_KeyringStep.j4 kj18 l1 l2 t294 x9_1 x11_1 (wrap64 (x9_1 + (Int.tmod (wrap64 (rd l1 x11_1)) 2000))) x13_15 t301 x299000_1 x299001_1)) = some r := by rw [if_neg (show ¬ (false = true) by decide)] at H; exact H
                          clear H
                          have H := H1
                          clear H1
                          have HC26 := Aside0.mk H
                          clear H
                          go_upto_if 76 with (fail)
                          go_cut [] (fun wc => ∃ (kq : Nat) (x299000_25 : Int) (x299001_25 : Int), Aside0 (slotmeshlaw32_KeyringStep.j4 kq l1 l2 t294 x9_1 x11_1 (wrap64 (x9_1 + (Int.tmod (wrap64 (rd l1 x11_1)) 2000))) x13_15 t301 x299000_25 x299001_25 = some r) ∧ Aside0 (kq ≤ kj18) ∧ Aside0 (wc.heap[gb298]? = some (.cells #[.int .i64 x299000_25, .int .i64 x299001_25] 23 (0, 0))) ∧ Aside0 (Below w.heap.size w wc))
                          case first =>
                            have H := HC26.out
                            clear HC26
                            by_cases c27 : x13_15 ≤ (wrap64 (x9_1 + (Int.tmod (wrap64 (rd l1 x11_1)) 2000)))
                            · rw [if_pos c27] at H
                              have c27b0 : decide (x13_15 ≤ (wrap64 (x9_1 + (Int.tmod (wrap64 (rd l1 x11_1)) 2000)))) = true := decide_eq_true c27
                              clear c27
                              (first | rw [c27b0] | (simp only [i64_w, i32_w]; rw [c27b0]) | skip)
                              replace H := Option.bind_eq_some_iff.mp H
                              obtain ⟨⟨t304, t305⟩, A280, H⟩ := H
                              replace H : (slotmeshlaw32_KeyringStep.j4 kj18 l1 l2 t294 x9_1 x11_1 (wrap64 (x9_1 + (Int.tmod (wrap64 (rd l1 x11_1)) 2000))) x13_15 t301 t304 t305) = some r := H
                              have A28 := Aside0.mk A280
                              clear A280
                              have H' := Aside0.mk H
                              clear H
                              have hcz29_0 : wc.cell? ⟨gb298, 0, none⟩ = some (.int .i64 x299000_1) := (blk_cell BK298.out 0).trans rfl
                              have hcz29_1 : wc.cell? ⟨gb298, 1, none⟩ = some (.int .i64 x299001_1) := (blk_cell BK298.out 1).trans rfl
                              have hfz29_0 := blk_frozen BK298.out 0
                              have hfz29_1 := blk_frozen BK298.out 1
                              go_wp2_with (first | ((with_reducible refine gate_callee (f := 19) rfl ?_); refine goesL_ (some 79) rfl rfl Try.func19 (by kernel_rfl) rfl #[.agg #[.int .i64 x299000_1, .int .i64 x299001_1], .int .i64 x13_15] rfl (by (try simp only [List.map_toArray, List.map_cons, List.map_nil]); first | done | rfl | (simp only [List.length_drop, List.length_take]; rfl)) ?_; (with_reducible refine (keyring_Age.calls kj18 x299000_1 x299001_1 x13_15 t304 t305 _ A28.out).mono ?_); rintro e w30 ⟨rfl, hb⟩; refine ⟨_, rfl, ?_⟩; have n0_ := Aside0.mk (blk_below (g := gb298) (o := .cells #[.int .i64 x299000_1, .int .i64 x299001_1] 23 (0, 0)) (by (with_reducible repeat (first | refine blk_drewN ?_ _ | refine blk_drew ?_ | refine blk_alloc ?_ _)); exact BK298.out) hb); have n1_ := Aside0.mk (below_step (by repeat (first | (with_reducible first | exact HB.out | apply below_alloc | apply pw_below_drewN | apply below_drew1 | refine below_set ?_ GE298.out) | exact HB.out)) hb); clear BK298; clear HB; have BK298 := n0_; have HB := n1_; clear n0_ n1_; (try clear hb); (try clear hb2); (try clear hk); (try clear hi); have hcz31_0 : w30.cell? ⟨gb298, 0, none⟩ = some (.int .i64 x299000_1) := (blk_cell BK298.out 0).trans rfl; have hcz31_1 : w30.cell? ⟨gb298, 1, none⟩ = some (.int .i64 x299001_1) := (blk_cell BK298.out 1).trans rfl; have hfz31_0 := blk_frozen BK298.out 0; have hfz31_1 := blk_frozen BK298.out 1))
                              go_meet
                              case rel => exact ⟨_, (t304), (t305), H', ⟨by have := HK1.out; have := HJ10.out; have := HJ15.out; have := HJ18.out; first | omega | exact Nat.le_refl _⟩, ⟨by (with_reducible repeat (first | refine blk_drewN ?_ _ | refine blk_drew ?_ | refine blk_alloc ?_ _)); refine blk_put (cs := #[.int .i64 t304, .int .i64 x299001_1]) ?_ 1 _ rfl; (with_reducible repeat (first | refine blk_drewN ?_ _ | refine blk_drew ?_ | refine blk_alloc ?_ _)); refine blk_put (cs := #[.int .i64 x299000_1, .int .i64 x299001_1]) ?_ 0 _ rfl; (with_reducible repeat (first | refine blk_drewN ?_ _ | refine blk_drew ?_ | refine blk_alloc ?_ _)); exact BK298.out⟩, ⟨by repeat (first | (with_reducible first | exact HB.out | apply below_alloc | apply pw_below_drewN | apply below_drew1 | refine below_set ?_ GE298.out) | exact HB.out)⟩⟩
                            · rw [if_neg c27] at H
                              have c27b0 : decide (x13_15 ≤ (wrap64 (x9_1 + (Int.tmod (wrap64 (rd l1 x11_1)) 2000)))) = false := decide_eq_false c27
                              clear c27
                              (first | rw [c27b0] | (simp only [i64_w, i32_w]; rw [c27b0]) | skip)
                              have H' := Aside0.mk H
                              clear H
                              go_wp2
                              go_meet
                              case rel => exact ⟨_, (x299000_1), (x299001_1), H', ⟨by have := HK1.out; have := HJ10.out; have := HJ15.out; have := HJ18.out; first | omega | exact Nat.le_refl _⟩, ⟨by (with_reducible repeat (first | refine blk_drewN ?_ _ | refine blk_drew ?_ | refine blk_alloc ?_ _)); exact BK298.out⟩, ⟨by repeat (first | (with_reducible first | exact HB.out | apply below_alloc | apply pw_below_drewN | apply below_drew1 | refine below_set ?_ GE298.out) | exact HB.out)⟩⟩
                          case rest =>
                            clear HC26
                            try clear c1
                            try clear c2
                            try clear p2
                            try clear q2
                            try clear hx2
                            try clear p3
                            try clear q3
                            try clear hx3
                            try clear p6
                            try clear c9
                            try clear c10
                            try clear c11
                            try clear c12
                            try clear c12b0
                            try clear c13
                            try clear c14
                            try clear c14b0
                            try clear c15
                            try clear c15b0
                            try clear c17
                            try clear c17b0
                            try clear c19
                            try clear c21
                            try clear c21b0
                            try clear c21b1
                            try clear c24
                            try clear c25
                            try clear c27
                            try clear c27b0
                            try clear p29
                            try clear q29
                            try clear hx29
                            try clear p30
                            try clear q30
                            try clear hx30
                            try clear hcz10_0
                            try clear hcz10_1
                            try clear hcz23_0
                            try clear hcz23_1
                            try clear hcz29_0
                            try clear hcz29_1
                            try clear hcz31_0
                            try clear hcz31_1
                            try clear hfz10_0
                            try clear hfz10_1
                            try clear hfz23_0
                            try clear hfz23_1
                            try clear hfz29_0
                            try clear hfz29_1
                            try clear hfz31_0
                            try clear hfz31_1
                            try clear hx299_0
                            try clear hx300_0
                            try clear p2
                            try clear p299
                            try clear p3
                            try clear p300
                            try clear p6
                            try clear q2
                            try clear q299
                            try clear q3
                            try clear q300
                            obtain ⟨kq, x299000_25, x299001_25, HA, HJ25, BK298, HB⟩ := hcut
                            cases kq with
                            | zero => exact absurd HA.out (by simp [slotmeshlaw32_KeyringStep.j4])
                            | succ kj25 =>
                              have H := HA.out
                              clear HA
                              simp only [slotmeshlaw32_KeyringStep.j4] at H
                              replace H := Option.bind_eq_some_iff.mp H
                              obtain ⟨⟨t306, t307⟩, A320, H⟩ := H
                              replace H : ((keyring_Learn.f x299000_25 x299001_25 t306 t307 (wrap64 (x9_1 + (Int.tmod (wrap64 (rd l1 x11_1)) 2000)))).bind fun bt308 => (if x13_15 > (wrap64 (x9_1 + (Int.tmod (wrap64 (rd l1 x11_1)) 2000))) then ((keyring_Age.f kj25 bt308.1 bt308.2 x13_15).bind fun bt310 => (slotmeshlaw32_KeyringStep.j5 kj25 l1 l2 t294 x9_1 x11_1 t301 bt310.1 bt310.2)) else (slotmeshlaw32_KeyringStep.j5 kj25 l1 l2 t294 x9_1 x11_1 t301 bt308.1 bt308.2))) = some r := H
                              have A32 := Aside0.mk A320
                              clear A320
                              replace H := Option.bind_eq_some_iff.mp H
                              obtain ⟨⟨t308, t309⟩, A330, H⟩ := H
                              replace H : (if x13_15 > (wrap64 (x9_1 + (Int.tmod (wrap64 (rd l1 x11_1)) 2000))) then ((keyring_Age.f kj25 t308 t309 x13_15).bind fun bt310 => (slotmeshlaw32_KeyringStep.j5 kj25 l1 l2 t294 x9_1 x11_1 t301 bt310.1 bt310.2)) else (slotmeshlaw32_KeyringStep.j5 kj25 l1 l2 t294 x9_1 x11_1 t301 t308 t309)) = some r := H
                              have A33 := Aside0.mk A330
                              clear A330
                              have HC34 := Aside0.mk H
                              clear H
                              try go_wp2
                              have n0_ := Aside0.mk (blk_drew BK298.out)
                              have n1_ := Aside0.mk (below_drew1 HB.out)
                              clear BK298
                              clear HB
                              have BK298 := n0_
                              have HB := n1_
                              clear n0_ n1_
                              refine start_ (n := 6) (S := fun w' => w'.cell? ⟨gb298, 0, none⟩ = some (.int .i64 x299000_25) ∧ w'.cell? ⟨gb298, 1, none⟩ = some (.int .i64 x299001_25)) (ds := [5]) #[false, false, false, false, false, false] (by kernel_rfl) rfl rfl ⟨(blk_cell BK298.out 0).trans rfl, (blk_cell BK298.out 1).trans rfl⟩ (fun hHeld => ?_)
                              generalize wc.drew = w35 at BK298 HB hHeld ⊢
                              refine pure_ (i := 1) (N := some 81) (v := ?_) (a' := ?_) #[false, true, false, false, false, false] rfl rfl (by kernel_rfl) (fun _ _ _ h => h) (Or.inl ⟨by rfl, ?_⟩) ?_ ?_
                              rotate_left
                              · intro w'
                                go_simp
                                with_reducible rfl
                              rotate_left
                              · simp only [Act.put, List.setIfInBounds_toArray, List.set_cons_zero, List.set_cons_succ, i64_w, i32_w]
                                rfl
                              refine pure_ (i := 3) (N := some 83) (v := ?_) (a' := ?_) #[false, true, false, true, false, false] rfl rfl (by kernel_rfl) (fun _ _ _ h => h) (Or.inl ⟨by rfl, ?_⟩) ?_ ?_
                              rotate_left
                              · intro w'
                                go_simp
                                with_reducible rfl
                              rotate_left
                              · simp only [Act.put, List.setIfInBounds_toArray, List.set_cons_zero, List.set_cons_succ, i64_w, i32_w]
                                rfl
                              refine take_ (i := 0) (N := some 80) (v := ?_) (a' := ?_) #[true, true, false, true, false, false] rfl rfl (by kernel_rfl) (fun _ _ _ h => h) (Or.inl ⟨by rfl, ?_⟩) hHeld ?_ ?_
                              rotate_left
                              · rintro w' ⟨s0, s1⟩
                                go_simp
                                with_reducible rfl
                              rotate_left
                              · simp only [Act.put, List.setIfInBounds_toArray, List.set_cons_zero, List.set_cons_succ, i64_w, i32_w]
                                rfl
                              refine one_ (i := 2) (N := some 82) #[true, true, true, true, false, false] rfl rfl (by kernel_rfl) (by decide) (fun K hK => ?_)
                              refine goes_ Try.func15 (by kernel_rfl) rfl #[.int .i64 (wrap64 (x9_1 + (Int.tmod (wrap64 (rd l1 x11_1)) 2000)))] (by rfl) rfl rfl (by (try simp only [List.map_toArray, List.map_cons, List.map_nil]); first | done | rfl | (simp only [List.length_drop, List.length_take]; rfl)) ?_
                              with_reducible refine (keyring_Root.calls kj25 (wrap64 (x9_1 + (Int.tmod (wrap64 (rd l1 x11_1)) 2000))) t306 t307 _ A32.out).mono ?_
                              rintro e w36 ⟨rfl, hb⟩
                              refine ⟨_, rfl, ?_⟩
                              have n0_ := Aside0.mk (blk_below (g := gb298) (o := .cells #[.int .i64 x299000_25, .int .i64 x299001_25] 23 (0, 0)) (by (with_reducible repeat (first | refine blk_drewN ?_ _ | refine blk_drew ?_ | refine blk_alloc ?_ _)); exact BK298.out) hb)
                              have n1_ := Aside0.mk (below_step (by repeat (first | (with_reducible first | exact HB.out | apply below_alloc | apply pw_below_drewN | apply below_drew1 | refine below_set ?_ GE298.out) | exact HB.out)) hb)
                              clear BK298
                              clear HB
                              have BK298 := n0_
                              have HB := n1_
                              clear n0_ n1_
                              (try clear hb)
                              (try clear hb2)
                              (try clear hk)
                              (try clear hi)
                              refine hK.out _ _ ⟨(blk_cell BK298.out 0).trans rfl, (blk_cell BK298.out 1).trans rfl⟩ (fun hHeld => ?_)
                              clear hK K
                              refine norm_ (a' := ?_) ?_ ?_
                              rotate_left
                              · show Act.put _ (some 82) _ = _
                                simp only [Act.put, List.setIfInBounds_toArray, List.set_cons_zero, List.set_cons_succ, i64_w, i32_w]
                                rfl
                              refine one_ (i := 4) (N := some 84) #[true, true, true, true, true, false] rfl rfl (by kernel_rfl) (by decide) (fun K hK => ?_)
                              refine goes_ Try.func17 (by kernel_rfl) rfl #[.agg #[.int .i64 x299000_25, .int .i64 x299001_25], .agg #[.int .i64 t306, .int .i64 t307], .int .i64 (wrap64 (x9_1 + (Int.tmod (wrap64 (rd l1 x11_1)) 2000)))] (by rfl) rfl rfl (by (try simp only [List.map_toArray, List.map_cons, List.map_nil]); first | done | rfl | (simp only [List.length_drop, List.length_take]; rfl)) ?_
                              with_reducible refine (keyring_Learn.calls x299000_25 x299001_25 t306 t307 (wrap64 (x9_1 + (Int.tmod (wrap64 (rd l1 x11_1)) 2000))) t308 t309 _ A33.out).mono ?_
                              rintro e w37 ⟨rfl, hb⟩
                              refine ⟨_, rfl, ?_⟩
                              have n0_ := Aside0.mk (blk_below (g := gb298) (o := .cells #[.int .i64 x299000_25, .int .i64 x299001_25] 23 (0, 0)) (by (with_reducible repeat (first | refine blk_drewN ?_ _ | refine blk_drew ?_ | refine blk_alloc ?_ _)); exact BK298.out) hb)
                              have n1_ := Aside0.mk (below_step (by repeat (first | (with_reducible first | exact HB.out | apply below_alloc | apply pw_below_drewN | apply below_drew1 | refine below_set ?_ GE298.out) | exact HB.out)) hb)
                              clear BK298
                              clear HB
                              have BK298 := n0_
                              have HB := n1_
                              clear n0_ n1_
                              (try clear hb)
                              (try clear hb2)
                              (try clear hk)
                              (try clear hi)
                              refine hK.out _ _ ⟨(blk_cell BK298.out 0).trans rfl, (blk_cell BK298.out 1).trans rfl⟩ (fun hHeld => ?_)
                              clear hK K
                              refine norm_ (a' := ?_) ?_ ?_
                              rotate_left
                              · show Act.put _ (some 84) _ = _
                                simp only [Act.put, List.setIfInBounds_toArray, List.set_cons_zero, List.set_cons_succ, i64_w, i32_w]
                                rfl
                              refine last_ (i := 5) (N := none) #[true, true, true, true, true, true] rfl rfl (by kernel_rfl) (by decide) (fun K hK => ?_)
                              have hs38 : w37.cell? ⟨gb298, 0, none⟩ = some (.int .i64 x299000_25) := (blk_cell BK298.out 0).trans rfl
                              have hfs38 := blk_frozen BK298.out 0
                              have hs39 : w37.cell? ⟨gb298, 1, none⟩ = some (.int .i64 x299001_25) := (blk_cell BK298.out 1).trans rfl
                              have hfs39 := blk_frozen BK298.out 1
                              refine skip_ (w1 := ?_) (by rfl) rfl ?_ ?_
                              rotate_left
                              · go_simp
                                rfl
                              refine hK.out _ _ ?_
                              clear hK K
                              refine done_ (by kernel_rfl) ?_
                              go_upto_if 87 with (fail)
                              go_cut [] (fun wc => ∃ (kq : Nat) (x299000_33 : Int) (x299001_33 : Int), Aside0 (slotmeshlaw32_KeyringStep.j5 kq l1 l2 t294 x9_1 x11_1 t301 x299000_33 x299001_33 = some r) ∧ Aside0 (kq ≤ kj25) ∧ Aside0 (wc.heap[gb298]? = some (.cells #[.int .i64 x299000_33, .int .i64 x299001_33] 23 (0, 0))) ∧ Aside0 (Below w.heap.size w wc))
                              case first =>
                                have H := HC34.out
                                clear HC34
                                by_cases c40 : x13_15 > (wrap64 (x9_1 + (Int.tmod (wrap64 (rd l1 x11_1)) 2000)))
                                · rw [if_pos c40] at H
                                  have c40b0 : decide ((wrap64 (x9_1 + (Int.tmod (wrap64 (rd l1 x11_1)) 2000))) < x13_15) = true := decide_eq_true c40
                                  clear c40
                                  (first | rw [c40b0] | (simp only [i64_w, i32_w]; rw [c40b0]) | skip)
                                  replace H := Option.bind_eq_some_iff.mp H
                                  obtain ⟨⟨t310, t311⟩, A410, H⟩ := H
                                  replace H : (slotmeshlaw32_KeyringStep.j5 kj25 l1 l2 t294 x9_1 x11_1 t301 t310 t311) = some r := H
                                  have A41 := Aside0.mk A410
                                  clear A410
                                  have H' := Aside0.mk H
                                  clear H
                                  have hcz42_0 : w37.cell? ⟨gb298, 0, none⟩ = some (.int .i64 x299000_25) := (blk_cell BK298.out 0).trans rfl
                                  have hcz42_1 : w37.cell? ⟨gb298, 1, none⟩ = some (.int .i64 x299001_25) := (blk_cell BK298.out 1).trans rfl
                                  have hfz42_0 := blk_frozen BK298.out 0
                                  have hfz42_1 := blk_frozen BK298.out 1
                                  go_wp2_with (first | ((with_reducible refine gate_callee (f := 19) rfl ?_); refine goesL_ (some 90) rfl rfl Try.func19 (by kernel_rfl) rfl #[.agg #[.int .i64 t308, .int .i64 t309], .int .i64 x13_15] rfl (by (try simp only [List.map_toArray, List.map_cons, List.map_nil]); first | done | rfl | (simp only [List.length_drop, List.length_take]; rfl)) ?_; (with_reducible refine (keyring_Age.calls kj25 t308 t309 x13_15 t310 t311 _ A41.out).mono ?_); rintro e w43 ⟨rfl, hb⟩; refine ⟨_, rfl, ?_⟩; have n0_ := Aside0.mk (blk_below (g := gb298) (o := .cells #[.int .i64 t308, .int .i64 t309] 23 (0, 0)) (by (with_reducible repeat (first | refine blk_drewN ?_ _ | refine blk_drew ?_ | refine blk_alloc ?_ _)); refine blk_put (cs := #[.int .i64 t308, .int .i64 x299001_25]) ?_ 1 _ rfl; (with_reducible repeat (first | refine blk_drewN ?_ _ | refine blk_drew ?_ | refine blk_alloc ?_ _)); refine blk_put (cs := #[.int .i64 x299000_25, .int .i64 x299001_25]) ?_ 0 _ rfl; (with_reducible repeat (first | refine blk_drewN ?_ _ | refine blk_drew ?_ | refine blk_alloc ?_ _)); exact BK298.out) hb); have n1_ := Aside0.mk (below_step (by repeat (first | (with_reducible first | exact HB.out | apply below_alloc | apply pw_below_drewN | apply below_drew1 | refine below_set ?_ GE298.out) | exact HB.out)) hb); clear BK298; clear HB; have BK298 := n0_; have HB := n1_; clear n0_ n1_; (try clear hb); (try clear hb2); (try clear hk); (try clear hi); have hcz44_0 : w43.cell? ⟨gb298, 0, none⟩ = some (.int .i64 t308) := (blk_cell BK298.out 0).trans rfl; have hcz44_1 : w43.cell? ⟨gb298, 1, none⟩ = some (.int .i64 t309) := (blk_cell BK298.out 1).trans rfl; have hfz44_0 := blk_frozen BK298.out 0; have hfz44_1 := blk_frozen BK298.out 1))
                                  go_meet
                                  case rel => exact ⟨_, (t310), (t311), H', ⟨by have := HK1.out; have := HJ10.out; have := HJ15.out; have := HJ18.out; have := HJ25.out; first | omega | exact Nat.le_refl _⟩, ⟨by (with_reducible repeat (first | refine blk_drewN ?_ _ | refine blk_drew ?_ | refine blk_alloc ?_ _)); refine blk_put (cs := #[.int .i64 t310, .int .i64 t309]) ?_ 1 _ rfl; (with_reducible repeat (first | refine blk_drewN ?_ _ | refine blk_drew ?_ | refine blk_alloc ?_ _)); refine blk_put (cs := #[.int .i64 t308, .int .i64 t309]) ?_ 0 _ rfl; (with_reducible repeat (first | refine blk_drewN ?_ _ | refine blk_drew ?_ | refine blk_alloc ?_ _)); exact BK298.out⟩, ⟨by repeat (first | (with_reducible first | exact HB.out | apply below_alloc | apply pw_below_drewN | apply below_drew1 | refine below_set ?_ GE298.out) | exact HB.out)⟩⟩
                                · rw [if_neg c40] at H
                                  have c40b0 : decide ((wrap64 (x9_1 + (Int.tmod (wrap64 (rd l1 x11_1)) 2000))) < x13_15) = false := decide_eq_false c40
                                  clear c40
                                  (first | rw [c40b0] | (simp only [i64_w, i32_w]; rw [c40b0]) | skip)
                                  have H' := Aside0.mk H
                                  clear H
                                  go_wp2
                                  go_meet
                                  case rel => exact ⟨_, (t308), (t309), H', ⟨by have := HK1.out; have := HJ10.out; have := HJ15.out; have := HJ18.out; have := HJ25.out; first | omega | exact Nat.le_refl _⟩, ⟨by (with_reducible repeat (first | refine blk_drewN ?_ _ | refine blk_drew ?_ | refine blk_alloc ?_ _)); refine blk_put (cs := #[.int .i64 t308, .int .i64 x299001_25]) ?_ 1 _ rfl; (with_reducible repeat (first | refine blk_drewN ?_ _ | refine blk_drew ?_ | refine blk_alloc ?_ _)); refine blk_put (cs := #[.int .i64 x299000_25, .int .i64 x299001_25]) ?_ 0 _ rfl; (with_reducible repeat (first | refine blk_drewN ?_ _ | refine blk_drew ?_ | refine blk_alloc ?_ _)); exact BK298.out⟩, ⟨by repeat (first | (with_reducible first | exact HB.out | apply below_alloc | apply pw_below_drewN | apply below_drew1 | refine below_set ?_ GE298.out) | exact HB.out)⟩⟩
                              case rest =>
                                clear HC34
                                try clear c1
                                try clear c2
                                try clear p2
                                try clear q2
                                try clear hx2
                                try clear p3
                                try clear q3
                                try clear hx3
                                try clear c4
                                try clear p6
                                try clear c9
                                try clear c10
                                try clear c11
                                try clear c12
                                try clear c12b0
                                try clear c13
                                try clear c14
                                try clear c14b0
                                try clear c15
                                try clear c15b0
                                try clear c17
                                try clear c17b0
                                try clear c19
                                try clear c21
                                try clear c21b0
                                try clear c21b1
                                try clear c24
                                try clear c25
                                try clear c27
                                try clear c27b0
                                try clear p29
                                try clear q29
                                try clear hx29
                                try clear p30
                                try clear q30
                                try clear hx30
                                try clear c40
                                try clear c40b0
                                try clear hcz10_0
                                try clear hcz10_1
                                try clear hcz23_0
                                try clear hcz23_1
                                try clear hcz29_0
                                try clear hcz29_1
                                try clear hcz31_0
                                try clear hcz31_1
                                try clear hcz42_0
                                try clear hcz42_1
                                try clear hcz44_0
                                try clear hcz44_1
                                try clear hfz10_0
                                try clear hfz10_1
                                try clear hfz23_0
                                try clear hfz23_1
                                try clear hfz29_0
                                try clear hfz29_1
                                try clear hfz31_0
                                try clear hfz31_1
                                try clear hfz42_0
                                try clear hfz42_1
                                try clear hfz44_0
                                try clear hfz44_1
                                try clear hx299_0
                                try clear hx300_0
                                try clear p2
                                try clear p29
                                try clear p299
                                try clear p3
                                try clear p30
                                try clear p300
                                try clear p6
                                try clear q2
                                try clear q29
                                try clear q299
                                try clear q3
                                try clear q30
                                try clear q300
                                obtain ⟨kq, x299000_33, x299001_33, HA, HJ33, BK298, HB⟩ := hcut
                                cases kq with
                                | zero => exact absurd HA.out (by simp [slotmeshlaw32_KeyringStep.j5])
                                | succ kj33 =>
                                  have H := HA.out
                                  clear HA
                                  simp only [slotmeshlaw32_KeyringStep.j5] at H
                                  replace H := Option.bind_eq_some_iff.mp H
                                  obtain ⟨t312, A450, H⟩ := H
                                  replace H : (if t312 = true then ((keyring_Knows.f kj33 x299000_33 x299001_33 (wrap64 (t301 + 1))).bind fun t313 => (if t313 = true then (slotmeshlaw32_KeyringStep.l0 kj33 l1 l2 t294 (wrap64 (x9_1 + 2000)) (wrap64 (x11_1 + 1)) x299000_33 x299001_33) else (some false))) else (some false)) = some r := H
                                  have A45 := Aside0.mk A450
                                  clear A450
                                  by_cases c46 : t312 = true
                                  · subst c46
                                    have H1 : ((keyring_Knows.f kj33 x299000_33 x299001_33 (wrap64 (t301 + 1))).bind fun t313 => (if t313 = true then (slotmeshlaw32_KeyringStep.l0 kj33 l1 l2 t294 (wrap64 (x9_1 + 2000)) (wrap64 (x11_1 + 1)) x299000_33 x299001_33) else (some false))) = some r := by rw [if_pos rfl] at H; exact H
                                    clear H
                                    have H := H1
                                    clear H1
                                    replace H := Option.bind_eq_some_iff.mp H
                                    obtain ⟨t313, A470, H⟩ := H
                                    replace H : (if t313 = true then (slotmeshlaw32_KeyringStep.l0 kj33 l1 l2 t294 (wrap64 (x9_1 + 2000)) (wrap64 (x11_1 + 1)) x299000_33 x299001_33) else (some false)) = some r := H
                                    have A47 := Aside0.mk A470
                                    clear A470
                                    by_cases c48 : t313 = true
                                    · subst c48
                                      have H1 : (slotmeshlaw32_KeyringStep.l0 kj33 l1 l2 t294 (wrap64 (x9_1 + 2000)) (wrap64 (x11_1 + 1)) x299000_33 x299001_33) = some r := by rw [if_pos rfl] at H; exact H
                                      clear H
                                      have H := H1
                                      clear H1
                                      have H' := Aside0.mk H
                                      clear H
                                      have hcz49_0 : wc.cell? ⟨gb298, 0, none⟩ = some (.int .i64 x299000_33) := (blk_cell BK298.out 0).trans rfl
                                      have hcz49_1 : wc.cell? ⟨gb298, 1, none⟩ = some (.int .i64 x299001_33) := (blk_cell BK298.out 1).trans rfl
                                      have hfz49_0 := blk_frozen BK298.out 0
                                      have hfz49_1 := blk_frozen BK298.out 1
                                      go_wp2_with (first | ((with_reducible refine gate_callee (f := 13) rfl ?_); refine goesL_ (some 93) rfl rfl Try.func13 (by kernel_rfl) rfl #[.agg #[.int .i64 x299000_33, .int .i64 x299001_33], .int .i64 t301] rfl (by (try simp only [List.map_toArray, List.map_cons, List.map_nil]); first | done | rfl | (simp only [List.length_drop, List.length_take]; rfl)) ?_; (with_reducible refine (keyring_Knows.calls kj33 x299000_33 x299001_33 t301 true _ A45.out).mono ?_); rintro e w50 ⟨rfl, hb⟩; refine ⟨_, rfl, ?_⟩; have n0_ := Aside0.mk (blk_below (g := gb298) (o := .cells #[.int .i64 x299000_33, .int .i64 x299001_33] 23 (0, 0)) (by (with_reducible repeat (first | refine blk_drewN ?_ _ | refine blk_drew ?_ | refine blk_alloc ?_ _)); exact BK298.out) hb); have n1_ := Aside0.mk (below_step (by repeat (first | (with_reducible first | exact HB.out | apply below_alloc | apply pw_below_drewN | apply below_drew1 | refine below_set ?_ GE298.out) | exact HB.out)) hb); clear BK298; clear HB; have BK298 := n0_; have HB := n1_; clear n0_ n1_; (try clear hb); (try clear hb2); (try clear hk); (try clear hi); have hcz51_0 : w50.cell? ⟨gb298, 0, none⟩ = some (.int .i64 x299000_33) := (blk_cell BK298.out 0).trans rfl; have hcz51_1 : w50.cell? ⟨gb298, 1, none⟩ = some (.int .i64 x299001_33) := (blk_cell BK298.out 1).trans rfl; have hfz51_0 := blk_frozen BK298.out 0; have hfz51_1 := blk_frozen BK298.out 1) | (go_at_call 13; (with_reducible refine (keyring_Knows.calls kj33 x299000_33 x299001_33 (wrap64 (t301 + 1)) true _ A47.out).mono ?_); rintro e w52 ⟨rfl, hb⟩; have n0_ := Aside0.mk (blk_below (g := gb298) (o := .cells #[.int .i64 x299000_33, .int .i64 x299001_33] 23 (0, 0)) (by (with_reducible repeat (first | refine blk_drewN ?_ _ | refine blk_drew ?_ | refine blk_alloc ?_ _)); exact BK298.out) hb); have n1_ := Aside0.mk (below_step (by repeat (first | (with_reducible first | exact HB.out | apply below_alloc | apply pw_below_drewN | apply below_drew1 | refine below_set ?_ GE298.out) | exact HB.out)) hb); clear BK298; clear HB; have BK298 := n0_; have HB := n1_; clear n0_ n1_; (try clear hb); (try clear hb2); (try clear hk); (try clear hi)))
                                      go_roundg kj33
                                      case measure => have := HK1.out; have := HJ10.out; have := HJ15.out; have := HJ18.out; have := HJ25.out; have := HJ33.out; omega
                                      case rel => exact ⟨(wrap64 (x9_1 + 2000)), (wrap64 (x11_1 + 1)), (x299000_33), (x299001_33), (by first | rfl | (simp; done) | (simp [*]; done)), (by first | rfl | (simp; done) | (simp [*]; done)), H', ⟨by have := HK1.out; have := HJ10.out; have := HJ15.out; have := HJ18.out; have := HJ25.out; have := HJ33.out; omega⟩, ⟨by (with_reducible repeat (first | refine blk_drewN ?_ _ | refine blk_drew ?_ | refine blk_alloc ?_ _)); exact BK298.out⟩, ⟨by repeat (first | (with_reducible first | exact HB.out | apply below_alloc | apply pw_below_drewN | apply below_drew1 | refine below_set ?_ GE298.out) | exact HB.out)⟩⟩
                                    · replace c48 := Bool.eq_false_iff.mpr c48
                                      subst c48
                                      have H1 : (some false) = some r := by rw [if_neg (show ¬ (false = true) by decide)] at H; exact H
                                      clear H
                                      have H := H1
                                      clear H1
                                      obtain rfl := Option.some.inj H
                                      have hcz53_0 : wc.cell? ⟨gb298, 0, none⟩ = some (.int .i64 x299000_33) := (blk_cell BK298.out 0).trans rfl
                                      have hcz53_1 : wc.cell? ⟨gb298, 1, none⟩ = some (.int .i64 x299001_33) := (blk_cell BK298.out 1).trans rfl
                                      have hfz53_0 := blk_frozen BK298.out 0
                                      have hfz53_1 := blk_frozen BK298.out 1
                                      go_wp2_with (first | ((with_reducible refine gate_callee (f := 13) rfl ?_); refine goesL_ (some 93) rfl rfl Try.func13 (by kernel_rfl) rfl #[.agg #[.int .i64 x299000_33, .int .i64 x299001_33], .int .i64 t301] rfl (by (try simp only [List.map_toArray, List.map_cons, List.map_nil]); first | done | rfl | (simp only [List.length_drop, List.length_take]; rfl)) ?_; (with_reducible refine (keyring_Knows.calls kj33 x299000_33 x299001_33 t301 true _ A45.out).mono ?_); rintro e w54 ⟨rfl, hb⟩; refine ⟨_, rfl, ?_⟩; have n0_ := Aside0.mk (blk_below (g := gb298) (o := .cells #[.int .i64 x299000_33, .int .i64 x299001_33] 23 (0, 0)) (by (with_reducible repeat (first | refine blk_drewN ?_ _ | refine blk_drew ?_ | refine blk_alloc ?_ _)); exact BK298.out) hb); have n1_ := Aside0.mk (below_step (by repeat (first | (with_reducible first | exact HB.out | apply below_alloc | apply pw_below_drewN | apply below_drew1 | refine below_set ?_ GE298.out) | exact HB.out)) hb); clear BK298; clear HB; have BK298 := n0_; have HB := n1_; clear n0_ n1_; (try clear hb); (try clear hb2); (try clear hk); (try clear hi); have hcz55_0 : w54.cell? ⟨gb298, 0, none⟩ = some (.int .i64 x299000_33) := (blk_cell BK298.out 0).trans rfl; have hcz55_1 : w54.cell? ⟨gb298, 1, none⟩ = some (.int .i64 x299001_33) := (blk_cell BK298.out 1).trans rfl; have hfz55_0 := blk_frozen BK298.out 0; have hfz55_1 := blk_frozen BK298.out 1) | (go_at_call 13; (with_reducible refine (keyring_Knows.calls kj33 x299000_33 x299001_33 (wrap64 (t301 + 1)) false _ A47.out).mono ?_); rintro e w56 ⟨rfl, hb⟩; have n0_ := Aside0.mk (blk_below (g := gb298) (o := .cells #[.int .i64 x299000_33, .int .i64 x299001_33] 23 (0, 0)) (by (with_reducible repeat (first | refine blk_drewN ?_ _ | refine blk_drew ?_ | refine blk_alloc ?_ _)); exact BK298.out) hb); have n1_ := Aside0.mk (below_step (by repeat (first | (with_reducible first | exact HB.out | apply below_alloc | apply pw_below_drewN | apply below_drew1 | refine below_set ?_ GE298.out) | exact HB.out)) hb); clear BK298; clear HB; have BK298 := n0_; have HB := n1_; clear n0_ n1_; (try clear hb); (try clear hb2); (try clear hk); (try clear hi)))
                                      go_ret
                                      exact ⟨by first | rfl | (simp [errW_none, errW_some] <;> rfl) | (simp [*, errW_none, errW_some] <;> rfl), by repeat (first | (with_reducible first | exact HB.out | apply below_alloc | apply pw_below_drewN | apply below_drew1 | refine below_set ?_ GE298.out) | exact HB.out)⟩
                                  · replace c46 := Bool.eq_false_iff.mpr c46
                                    subst c46
                                    have H1 : (some false) = some r := by rw [if_neg (show ¬ (false = true) by decide)] at H; exact H
                                    clear H
                                    have H := H1
                                    clear H1
                                    obtain rfl := Option.some.inj H
                                    have hcz57_0 : wc.cell? ⟨gb298, 0, none⟩ = some (.int .i64 x299000_33) := (blk_cell BK298.out 0).trans rfl
                                    have hcz57_1 : wc.cell? ⟨gb298, 1, none⟩ = some (.int .i64 x299001_33) := (blk_cell BK298.out 1).trans rfl
                                    have hfz57_0 := blk_frozen BK298.out 0
                                    have hfz57_1 := blk_frozen BK298.out 1
                                    go_wp2_with (first | ((with_reducible refine gate_callee (f := 13) rfl ?_); refine goesL_ (some 93) rfl rfl Try.func13 (by kernel_rfl) rfl #[.agg #[.int .i64 x299000_33, .int .i64 x299001_33], .int .i64 t301] rfl (by (try simp only [List.map_toArray, List.map_cons, List.map_nil]); first | done | rfl | (simp only [List.length_drop, List.length_take]; rfl)) ?_; (with_reducible refine (keyring_Knows.calls kj33 x299000_33 x299001_33 t301 false _ A45.out).mono ?_); rintro e w58 ⟨rfl, hb⟩; refine ⟨_, rfl, ?_⟩; have n0_ := Aside0.mk (blk_below (g := gb298) (o := .cells #[.int .i64 x299000_33, .int .i64 x299001_33] 23 (0, 0)) (by (with_reducible repeat (first | refine blk_drewN ?_ _ | refine blk_drew ?_ | refine blk_alloc ?_ _)); exact BK298.out) hb); have n1_ := Aside0.mk (below_step (by repeat (first | (with_reducible first | exact HB.out | apply below_alloc | apply pw_below_drewN | apply below_drew1 | refine below_set ?_ GE298.out) | exact HB.out)) hb); clear BK298; clear HB; have BK298 := n0_; have HB := n1_; clear n0_ n1_; (try clear hb); (try clear hb2); (try clear hk); (try clear hi)))
                                    go_ret
                                    exact ⟨by first | rfl | (simp [errW_none, errW_some] <;> rfl) | (simp [*, errW_none, errW_some] <;> rfl), by repeat (first | (with_reducible first | exact HB.out | apply below_alloc | apply pw_below_drewN | apply below_drew1 | refine below_set ?_ GE298.out) | exact HB.out)⟩
              · rw [if_neg c15] at H
                exact absurd H (by simp)
            · rw [if_neg c14] at H
              exact absurd H (by simp)
          · replace c13 := Bool.eq_false_iff.mpr c13
            subst c13
            have H1 : (some t294) = some r := by rw [if_neg (show ¬ (false = true) by decide)] at H; exact H
            clear H
            have H := H1
            clear H1
            obtain rfl := Option.some.inj H
            go_wp2
            go_ret
            exact ⟨by first | rfl | (simp [errW_none, errW_some] <;> rfl) | (simp [*, errW_none, errW_some] <;> rfl), by repeat (first | (with_reducible first | exact HB.out | apply below_alloc | apply pw_below_drewN | apply below_drew1 | refine below_set ?_ GE298.out) | exact HB.out)⟩

/-- THE ONE PURE STATEMENT of slotmeshlaw32_KeyringStep: yours. -/
def slotmeshlaw32_KeyringStep.Pure : Prop := ∀ (a0 : Int) (l1 : List Int) (l2 : List Int), (Lit.int .u32 a0).wf = true → l1.length ≤ maxLen → l1.length * 2 ≤ 140737488351232 → (∀ x ∈ l1, (Lit.int .u16 x).wf = true) → l2.length ≤ maxLen → l2.length * 2 ≤ 140737488351232 → (∀ x ∈ l2, (Lit.int .u16 x).wf = true) → ∃ k, slotmeshlaw32_KeyringStep.f k a0 l1 l2 = some true
theorem slotmeshlaw32_KeyringStep.walk (P : slotmeshlaw32_KeyringStep.Pure) (a0 : Int) (a1 : Option Addr) (len1 cap1 : Nat) (z1 : List Int) (a2 : Option Addr) (len2 cap2 : Nat) (z2 : List Int) (w : World) (w0 : (Lit.int .u32 a0).wf = true) (w1 : (a1 = none ∧ len1 = 0 ∧ cap1 = 0 ∧ z1 = []) ∨ ∃ x, a1 = some x ∧ len1 ≤ cap1 ∧ cap1 ≤ maxLen ∧ z1.length = cap1 ∧ (∀ i, i < z1.length → w.cell? (x.add i) = some (.int .u16 (z1.getD i 0))) ∧ ∀ n ∈ z1, (Lit.int .u16 n).wf = true) (y1 : len1 * 2 ≤ 140737488351232) (w2 : (a2 = none ∧ len2 = 0 ∧ cap2 = 0 ∧ z2 = []) ∨ ∃ x, a2 = some x ∧ len2 ≤ cap2 ∧ cap2 ≤ maxLen ∧ z2.length = cap2 ∧ (∀ i, i < z2.length → w.cell? (x.add i) = some (.int .u16 (z2.getD i 0))) ∧ ∀ n ∈ z2, (Lit.int .u16 n).wf = true) (y2 : len2 * 2 ≤ 140737488351232) :
    Calls Try.prog 9 #[.int .u32 a0, .slice a1 len1 cap1, .slice a2 len2 cap2] w fun e w' => e = .returned (.bool true) ∧ Below w.heap.size w w' := by
  obtain ⟨l1, rfl, hr1, hm1, hw1, hc1⟩ := ReadsInt.ofRowC w1
  obtain ⟨l2, rfl, hr2, hm2, hw2, hc2⟩ := ReadsInt.ofRowC w2
  obtain ⟨k, h⟩ := P a0 l1 l2 w0 hm1 y1 hw1 hm2 y2 hw2
  refine (slotmeshlaw32_KeyringStep.calls k a0 _ _ l1 _ _ l2 true w (Kd.C_of_reads (d := (0 : Int)) (h1 := fun _ => rfl) hr1) hc1 (Kd.C_of_reads (d := (0 : Int)) (h1 := fun _ => rfl) hr2) hc2 h).mono ?_
  rintro e w' ⟨rfl, hd⟩
  exact ⟨rfl, hd⟩


end Go.Proofs.Ytcdiifjdbchclaa.P
