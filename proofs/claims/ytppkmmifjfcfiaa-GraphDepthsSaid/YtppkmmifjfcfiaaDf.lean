/- graph.Depths as a plain function, and its contract. -/
import Derived.Test.YtppkmmifjfcfiaaDp
import Derived.Test.YtppkmmifjfcfiaaIv
namespace Go.Proofs.Ytppkmmifjfcfiaa.P
open Go.RowKit Go.Proofs.YtppkmmifjfcfiaaW.PrintWords Go.Proofs.YtppkmmifjfcfiaaW.PrintLast Go.Proofs.YtppkmmifjfcfiaaW.PrintMore
open Go.Proofs.Ytppkmmifjfcfiaa.V
set_option linter.unusedVariables false
set_option linter.unusedSimpArgs false

open Classical in
/-- The distances from a node. -/
noncomputable def distL (h : List (List Bool)) (r : Nat) : List Int := if x : ∃ out, IsDist h r out then Classical.choose x else []
theorem distL_eq {h : List (List Bool)} {r : Nat} {out : List Int} (v : Valid h) (hd : IsDist h r out) : distL h r = out := by
  have hx : ∃ out, IsDist h r out := ⟨out, hd⟩
  unfold distL
  rw [dif_pos hx]
  exact (Classical.choose_spec hx).unique v hd
open Classical in
noncomputable def depthsV (h : List (List Bool)) (r : Int) : List Int × Int := if Valid h ∧ 0 ≤ r ∧ r < (h.length : Int) then (distL h r.toNat, 0) else ([], 1)

set_option maxHeartbeats 1000000 in
set_option maxRecDepth 100000 in
theorem depths_no1 (A0 : Option Addr) (c0 : Nat) (hears : List (List Bool)) (r : Int) (w : World) (hr0 : Kd.C (Kd.slice 4 Kd.bool) w A0 hears.length hears) (hc0 : hears.length ≤ c0) (K : Nat) (hv : graph_isValid.f K hears = some false) :
    Calls Try.prog 17 #[.slice A0 hears.length c0, .int .i64 r] w fun e w' => e = .returned (.tuple #[.slice none 0 0, .int .i64 1]) ∧ Below w.heap.size w w' := by
  have HR0 := Aside0.mk hr0
  have HC0 := Aside0.mk hc0
  have HV := Aside0.mk hv
  have HB := Aside0.mk (Below.refl w.heap.size w)
  clear hr0 hc0 hv
  go_enter Try.func17, Try.ntmps17
  go_wp2_with fail
  refine (graph_isValid.calls K A0 c0 hears false _ HR0.out HC0.out HV.out).mono ?_
  rintro _ w1 ⟨rfl, hd⟩
  have HB1 := Aside0.mk (below_step HB.out (Drawn0.below hd))
  clear HB hd
  go_wp2_with fail
  go_ret2
  exact ⟨rfl, HB1.out⟩
set_option maxHeartbeats 1000000 in
set_option maxRecDepth 100000 in
theorem depths_no2 (A0 : Option Addr) (c0 : Nat) (hears : List (List Bool)) (r : Int) (w : World) (hr0 : Kd.C (Kd.slice 4 Kd.bool) w A0 hears.length hears) (hc0 : hears.length ≤ c0) (K : Nat) (hv : graph_isValid.f K hears = some true) (hr : (decide (0 ≤ r) && decide (r < (hears.length : Int))) = false) :
    Calls Try.prog 17 #[.slice A0 hears.length c0, .int .i64 r] w fun e w' => e = .returned (.tuple #[.slice none 0 0, .int .i64 1]) ∧ Below w.heap.size w w' := by
  have HR0 := Aside0.mk hr0
  have HC0 := Aside0.mk hc0
  have HV := Aside0.mk hv
  have HR := Aside0.mk hr
  have HB := Aside0.mk (Below.refl w.heap.size w)
  clear hr0 hc0 hv hr
  go_enter Try.func17, Try.ntmps17
  go_wp2_with fail
  refine (graph_isValid.calls K A0 c0 hears true _ HR0.out HC0.out HV.out).mono ?_
  rintro _ w1 ⟨rfl, hd⟩
  have HB1 := Aside0.mk (below_step HB.out (Drawn0.below hd))
  clear HB hd
  go_wp2_with fail
  refine (isIndex_c _ _ false _ HR.out).mono ?_
  rintro _ w2 ⟨rfl, hd⟩
  have HB2 := Aside0.mk (below_step HB1.out (Drawn0.below hd))
  clear HB1 hd
  go_wp2_with fail
  go_ret2
  exact ⟨rfl, HB2.out⟩

/-! ### graph_Depths: function 17 -/
noncomputable def graph_Depths.f (k : Nat) (l0 : List (List Bool)) (a1 : Int) : Option (List Int × Int) := some (depthsV l0 a1)
theorem graph_Depths.mono : ∀ a0 a1 k, LeO (graph_Depths.f k a0 a1) (graph_Depths.f (k + 1) a0 a1) := fun _ _ _ => LeO.refl _
theorem graph_Depths.calls (k : Nat) (A0 : Option Addr) (c0 : Nat) (l0 : List (List Bool)) (a1 : Int) (r1 : List Int) (r2 : Int) (w : World) (hr0 : Kd.C (Kd.slice 4 Kd.bool) w A0 l0.length l0) (hc0 : l0.length ≤ c0) (h : graph_Depths.f k l0 a1 = some (r1, r2)) :
    Calls Try.prog 17 #[.slice A0 l0.length c0, .int .i64 a1] w fun e w' => ∃ v0_ : Value, e = .returned (.tuple #[v0_, .int .i64 r2]) ∧ Kd.R (Kd.int .i64) 3 w' w.heap.size (fun _ => True) v0_ r1 ∧ Below w.heap.size w w' := by
  have hm := Kd.C_max hr0
  obtain ⟨K, b, hK, hb⟩ := isValid_f (h := l0) (by omega)
  have he : depthsV l0 a1 = (r1, r2) := Option.some.inj h
  clear h
  unfold depthsV at he
  cases b with
  | false =>
    have hv : ¬ Valid l0 := fun v => by have := hb.2 v; cases this
    rw [if_neg (fun x => hv x.1)] at he
    obtain ⟨rfl, rfl⟩ := Prod.mk.inj he
    exact (depths_no1 A0 c0 l0 a1 w hr0 hc0 K hK).mono fun e w' ⟨h1, h2⟩ => ⟨_, h1, Kd.R_nil _ _ _ _ _, h2⟩
  | true =>
    have hv : Valid l0 := hb.1 rfl
    by_cases hr : 0 ≤ a1 ∧ a1 < (l0.length : Int)
    · rw [if_pos ⟨hv, hr⟩] at he
      obtain ⟨rfl, rfl⟩ := Prod.mk.inj he
      obtain ⟨r, rfl⟩ := Int.eq_ofNat_of_zero_le hr.1
      refine (depths_yes A0 c0 l0 r w hr0 hc0 K hK hv (by omega)).mono fun e w' ⟨v, out, h1, h2, h3, h4⟩ => ?_
      rw [Int.toNat_natCast, distL_eq hv h4]
      exact ⟨v, h1, h2, h3⟩
    · rw [if_neg (fun x => hr x.2)] at he
      obtain ⟨rfl, rfl⟩ := Prod.mk.inj he
      refine (depths_no2 A0 c0 l0 a1 w hr0 hc0 K hK ?_).mono fun e w' ⟨h1, h2⟩ => ⟨_, h1, Kd.R_nil _ _ _ _ _, h2⟩
      simp
      omega
end Go.Proofs.Ytppkmmifjfcfiaa.P
