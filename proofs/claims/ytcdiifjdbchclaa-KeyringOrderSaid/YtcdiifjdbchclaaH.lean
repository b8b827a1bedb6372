import Derived.Test.YtcdiifjdbchclaaC
namespace Go.Proofs.Ytcdiifjdbchclaa.P
open Go.RowKit Go.Proofs.YtcdiifjdbchclaaW.PrintWords Go.Proofs.YtcdiifjdbchclaaW.PrintLast Go.Proofs.YtcdiifjdbchclaaW.PrintMore
attribute [local go_sem] max2_int min2_int max_two min_two max_three min_three max_four min_four
set_option linter.unusedVariables false
set_option linter.unusedSimpArgs false
attribute [local go_sem high] eqA23

/-! closed forms of Age and Root -/
def ageV (a b n : Int) : Int × Int := if slotB n && validB a b && decide (a < n / 2000) then (if b ≤ n / 2000 then (0, 0) else (n / 2000, b)) else (a, b)
def rootV (n : Int) : Int × Int := if slotB n then (n / 2000, n / 2000 + 2) else (0, 0)
theorem slot_dom {n : Int} (h : slotB n = true) : 0 ≤ n / 2000 ∧ n / 2000 ≤ 500000 := by simp [slotB] at h; omega

theorem age_f (a b n : Int) : keyring_Age.f 5 a b n = some (ageV a b n) := by
  unfold keyring_Age.f ageV
  rw [epoch_f]
  cases h : slotB n
  · simp [keyring_Age.j0]
  · simp only [Option.bind_some, if_true, valid_f]
    cases h1 : validB a b
    · simp [keyring_Age.j0]
    · simp only [if_true, keyring_Age.j0]
      by_cases h2 : a < n / 2000
      · have h3 : ¬ a ≥ n / 2000 := by omega
        simp only [h2, h3, decide_false, decide_true, Bool.and_self, if_true, Bool.false_eq_true, if_false]
        split <;> rfl
      · have h3 : a ≥ n / 2000 := by omega
        simp [h2, h3]
theorem root_f (n : Int) : keyring_Root.f 5 n = some (rootV n) := by
  unfold keyring_Root.f rootV
  rw [epoch_f]
  cases h : slotB n
  · simp
  · have := slot_dom h
    have : wrap64 (n / 2000 + 2) = n / 2000 + 2 := w64 (by omega)
    simp [this]

theorem age_c (a b n : Int) (w : World) (r : Int × Int) (hr : ageV a b n = r) : Calls Try.prog 19 #[.agg #[.int .i64 a, .int .i64 b], .int .i64 n] w fun e w' => e = .returned (.agg #[.int .i64 r.1, .int .i64 r.2]) ∧ Below w.heap.size w w' :=
  keyring_Age.calls 5 a b n r.1 r.2 w (by rw [age_f, hr])
theorem root_c (n : Int) (w : World) (r : Int × Int) (hr : rootV n = r) : Calls Try.prog 15 #[.int .i64 n] w fun e w' => e = .returned (.agg #[.int .i64 r.1, .int .i64 r.2]) ∧ Below w.heap.size w w' :=
  keyring_Root.calls 5 n r.1 r.2 w (by rw [root_f, hr])
theorem ring_c (a b : Int) (w : World) : Calls Try.prog 24 #[.int .i64 a, .int .i64 b] w fun e w' => e = .returned (.agg #[.int .i64 a, .int .i64 b]) ∧ Below w.heap.size w w' :=
  slotmeshlaw32_ring.calls a b a b w rfl

set_option maxHeartbeats 4000000 in
set_option maxRecDepth 100000 in
theorem head_c (w : World) : Calls Try.prog 10 #[] w fun e w' => e = .returned (.bool true) ∧ Below w.heap.size w w' := by
  have HB0 := Aside0.mk (Below.refl w.heap.size w)
  go_enter Try.func10, Try.ntmps10
  go_wp2_with fail
  refine (epoch_c 1999 _ true (by decide)).mono ?_
  rintro e w1 ⟨rfl, hb⟩
  have HB1 := Aside0.mk (below_step HB0.out hb)
  clear HB0 hb
  go_wp2_with fail
  refine (epoch_c 2000 _ true (by decide)).mono ?_
  rintro e w2 ⟨rfl, hb⟩
  have HB2 := Aside0.mk (below_step HB1.out hb)
  clear HB1 hb
  go_wp2_with fail
  refine (epoch_c (-1) _ false (by decide)).mono ?_
  rintro e w3 ⟨rfl, hb⟩
  have HB3 := Aside0.mk (below_step HB2.out hb)
  clear HB2 hb
  go_wp2_with fail
  refine (root_c 2500 _ (1, 3) (by decide)).mono ?_
  rintro e w4 ⟨rfl, hb⟩
  have HB4 := Aside0.mk (below_step HB3.out hb)
  clear HB3 hb
  go_wp2_with fail
  refine (ring_c 1 3 _).mono ?_
  rintro e w5 ⟨rfl, hb⟩
  have HB5 := Aside0.mk (below_step HB4.out hb)
  clear HB4 hb
  go_wp2_with fail
  refine (root_c (-1) _ (0, 0) (by decide)).mono ?_
  rintro e w6 ⟨rfl, hb⟩
  have HB6 := Aside0.mk (below_step HB5.out hb)
  clear HB5 hb
  go_wp2_with fail
  refine (ring_c 0 0 _).mono ?_
  rintro e w7 ⟨rfl, hb⟩
  have HB7 := Aside0.mk (below_step HB6.out hb)
  clear HB6 hb
  go_wp2_with fail
  refine (ring_c 1 2 _).mono ?_
  rintro e w8 ⟨rfl, hb⟩
  have HB8 := Aside0.mk (below_step HB7.out hb)
  clear HB7 hb
  go_wp2_with fail
  refine (ring_c 1 3 _).mono ?_
  rintro e w9 ⟨rfl, hb⟩
  have HB9 := Aside0.mk (below_step HB8.out hb)
  clear HB8 hb
  go_wp2_with fail
  refine (learn_c 1 2 1 3 2500 _ (1, 3) (by decide)).mono ?_
  rintro e w10 ⟨rfl, hb⟩
  have HB10 := Aside0.mk (below_step HB9.out hb)
  clear HB9 hb
  go_wp2_with fail
  refine (ring_c 1 3 _).mono ?_
  rintro e w11 ⟨rfl, hb⟩
  have HB11 := Aside0.mk (below_step HB10.out hb)
  clear HB10 hb
  go_wp2_with fail
  refine (ring_c 1 2 _).mono ?_
  rintro e w12 ⟨rfl, hb⟩
  have HB12 := Aside0.mk (below_step HB11.out hb)
  clear HB11 hb
  go_wp2_with fail
  refine (ring_c 2 3 _).mono ?_
  rintro e w13 ⟨rfl, hb⟩
  have HB13 := Aside0.mk (below_step HB12.out hb)
  clear HB12 hb
  go_wp2_with fail
  refine (learn_c 1 2 2 3 2500 _ (1, 2) (by decide)).mono ?_
  rintro e w14 ⟨rfl, hb⟩
  have HB14 := Aside0.mk (below_step HB13.out hb)
  clear HB13 hb
  go_wp2_with fail
  refine (ring_c 1 2 _).mono ?_
  rintro e w15 ⟨rfl, hb⟩
  have HB15 := Aside0.mk (below_step HB14.out hb)
  clear HB14 hb
  go_wp2_with fail
  refine (ring_c 0 3 _).mono ?_
  rintro e w16 ⟨rfl, hb⟩
  have HB16 := Aside0.mk (below_step HB15.out hb)
  clear HB15 hb
  go_wp2_with fail
  refine (age_c 0 3 2500 _ (1, 3) (by decide)).mono ?_
  rintro e w17 ⟨rfl, hb⟩
  have HB17 := Aside0.mk (below_step HB16.out hb)
  clear HB16 hb
  go_wp2_with fail
  refine (ring_c 1 3 _).mono ?_
  rintro e w18 ⟨rfl, hb⟩
  have HB18 := Aside0.mk (below_step HB17.out hb)
  clear HB17 hb
  go_wp2_with fail
  refine (ring_c 0 1 _).mono ?_
  rintro e w19 ⟨rfl, hb⟩
  have HB19 := Aside0.mk (below_step HB18.out hb)
  clear HB18 hb
  go_wp2_with fail
  refine (age_c 0 1 2500 _ (0, 0) (by decide)).mono ?_
  rintro e w20 ⟨rfl, hb⟩
  have HB20 := Aside0.mk (below_step HB19.out hb)
  clear HB19 hb
  go_wp2_with fail
  refine (ring_c 0 0 _).mono ?_
  rintro e w21 ⟨rfl, hb⟩
  have HB21 := Aside0.mk (below_step HB20.out hb)
  clear HB20 hb
  go_wp2_with fail
  refine (ring_c 1 3 _).mono ?_
  rintro e w22 ⟨rfl, hb⟩
  have HB22 := Aside0.mk (below_step HB21.out hb)
  clear HB21 hb
  go_wp2_with fail
  refine (knows_c 1 3 2 true _ (by decide)).mono ?_
  rintro e w23 ⟨rfl, hb⟩
  have HB23 := Aside0.mk (below_step HB22.out hb)
  clear HB22 hb
  go_wp2_with fail
  refine (ring_c 1 3 _).mono ?_
  rintro e w24 ⟨rfl, hb⟩
  have HB24 := Aside0.mk (below_step HB23.out hb)
  clear HB23 hb
  go_wp2_with fail
  refine (knows_c 1 3 3 false _ (by decide)).mono ?_
  rintro e w25 ⟨rfl, hb⟩
  have HB25 := Aside0.mk (below_step HB24.out hb)
  clear HB24 hb
  go_wp2_with fail
  refine (ring_c 0 0 _).mono ?_
  rintro e w26 ⟨rfl, hb⟩
  have HB26 := Aside0.mk (below_step HB25.out hb)
  clear HB25 hb
  go_wp2_with fail
  refine (knows_c 0 0 0 false _ (by decide)).mono ?_
  rintro e w27 ⟨rfl, hb⟩
  have HB27 := Aside0.mk (below_step HB26.out hb)
  clear HB26 hb
  go_wp2_with fail
  go_ret
  exact ⟨rfl, HB27.out⟩

/-! ### slotmeshlaw32_head: function 10 -/
def slotmeshlaw32_head.f (k : Nat) : Option Bool := some true
theorem slotmeshlaw32_head.mono : ∀ k, LeO (slotmeshlaw32_head.f k) (slotmeshlaw32_head.f (k + 1)) := fun _ => LeO.refl _
theorem slotmeshlaw32_head.calls (k : Nat) (r : Bool) (w : World) (h : slotmeshlaw32_head.f k = some r) :
    Calls Try.prog 10 #[] w fun e w' => e = .returned (.bool r) ∧ Below w.heap.size w w' := by
  obtain rfl := Option.some.inj h
  exact head_c w
end Go.Proofs.Ytcdiifjdbchclaa.P
