/- graph.Islands as a plain function, and its contract. -/
import Derived.Test.YtppkmmifjfcfiaaIs
namespace Go.Proofs.Ytppkmmifjfcfiaa.P
open Go.RowKit Go.Proofs.YtppkmmifjfcfiaaW.PrintWords Go.Proofs.YtppkmmifjfcfiaaW.PrintLast Go.Proofs.YtppkmmifjfcfiaaW.PrintMore
open Go.Proofs.Ytppkmmifjfcfiaa.V
set_option linter.unusedVariables false
set_option linter.unusedSimpArgs false

open Classical in
/-- For each node the least node of its island. -/
noncomputable def islL (h : List (List Bool)) : List Int := if x : ∃ out, IsIsl h out then Classical.choose x else []
theorem islL_eq {h : List (List Bool)} {out : List Int} (hd : IsIsl h out) : islL h = out := by
  have hx : ∃ out, IsIsl h out := ⟨out, hd⟩
  unfold islL
  rw [dif_pos hx]
  exact (Classical.choose_spec hx).unique hd
open Classical in
noncomputable def islandsV (h : List (List Bool)) : List Int × Int := if Valid h then (islL h, 0) else ([], 1)

set_option maxHeartbeats 1000000 in
set_option maxRecDepth 100000 in
theorem islands_no (A0 : Option Addr) (c0 : Nat) (hears : List (List Bool)) (w : World) (hr0 : Kd.C (Kd.slice 4 Kd.bool) w A0 hears.length hears) (hc0 : hears.length ≤ c0) (K : Nat) (hv : graph_isValid.f K hears = some false) :
    Calls Try.prog 20 #[.slice A0 hears.length c0] w fun e w' => e = .returned (.tuple #[.slice none 0 0, .int .i64 1]) ∧ Below w.heap.size w w' := by
  have HR0 := Aside0.mk hr0
  have HC0 := Aside0.mk hc0
  have HV := Aside0.mk hv
  have HB0 := Aside0.mk ((Below.refl w.heap.size w).alloc (Nat.le_refl _) (.cells #[.slice A0 hears.length c0] 29))
  clear hr0 hc0 hv
  go_enter Try.func20, Try.ntmps20
  go_wp2_with fail
  refine (graph_isValid.calls K A0 c0 hears false _ (Kd.C_alloc HR0.out _) HC0.out HV.out).mono ?_
  rintro _ w1 ⟨rfl, hd⟩
  have HB1 := Aside0.mk (below_step HB0.out (Drawn0.below hd))
  clear HB0 hd
  go_wp2_with fail
  go_ret2
  exact ⟨rfl, HB1.out⟩

set_option maxHeartbeats 4000000 in
set_option maxRecDepth 100000 in
theorem islands_zero (A0 : Option Addr) (c0 : Nat) (w : World) (hr0 : Kd.C (Kd.slice 4 Kd.bool) w A0 ([] : List (List Bool)).length []) (K : Nat) (hv : graph_isValid.f K [] = some true) :
    Calls Try.prog 20 #[.slice A0 0 c0] w fun e w' => ∃ v, e = .returned (.tuple #[v, .int .i64 0]) ∧ Kd.R (Kd.int .i64) 3 w' w.heap.size (fun _ => True) v [] ∧ Below w.heap.size w w' := by
  have HR0 := Aside0.mk hr0
  have HV := Aside0.mk hv
  clear hr0 hv
  have HX0 := Aside0.mk (blk_new w (.cells #[.slice A0 0 c0] 29))
  have HB0 := Aside0.mk ((Below.refl w.heap.size w).alloc (Nat.le_refl _) (.cells #[.slice A0 0 c0] 29))
  go_enter Try.func20, Try.ntmps20
  go_wp2_with fail
  refine (graph_isValid.calls K A0 c0 [] true _ (Kd.C_alloc HR0.out _) (Nat.zero_le _) HV.out).mono ?_
  rintro _ w1 ⟨rfl, hd⟩
  have HB1 := Aside0.mk (below_step HB0.out (Drawn0.below hd))
  have HX1 := Aside0.mk (blk_below HX0.out (Drawn0.below hd))
  clear HB0 HX0 hd
  have hxh := cell1 HX1.out
  go_wp2_with ((with_reducible refine gate_dst (N := 13) rfl ?_); refine Kd.R_make (Kd.int .i64) _ 3 rfl (N := 13) rfl 22 _ _ rfl 0 rfl rfl Try.underlying22 (.int .i64 0) 8 info3 rfl (by decide) (by omega) 0 (ok := fun _ => True) (okp := fun _ => True) rfl (fun _ hk => hk) trivial (by omega) (by omega) (Below.refl _ _) (Nat.le_refl _) ?_; intro v6 w3 ho hb hg_ hnew_; clear hg_ hnew_; have HO2 := Aside0.mk (Kd.R_lower ho (below_size HB1.out)); have HB3 := Aside0.mk (below_step HB1.out hb); obtain ⟨A6, c6, e6⟩ := Kd.R_slice ho; clear HB1 HX1 hxh hb ho; (simp only [List.length_replicate, Int.toNat_zero] at e6); subst e6; (simp only [Int.toNat_zero, List.replicate_zero] at HO2))
  have HII := Aside0.mk (⟨Kd.R_alloc HO2.out (.cells #[.slice A6 0 c6] 22), HB3.out.alloc HB3.out.size (.cells #[.slice A6 0 c6] 22), blk_new w3 (.cells #[.slice A6 0 c6] 22)⟩ : _ ∧ _ ∧ _)
  clear HO2 HB3
  generalize w3.heap.size = bo at *
  go_loopw [16] (fun v16 wr => v16 = .int .i64 0 ∧ Aside0 (Kd.R (Kd.int .i64) 3 wr w.heap.size (fun _ => True) (.slice A6 0 c6) [] ∧ Below w.heap.size w wr ∧ wr.heap[bo]? = some (.cells #[.slice A6 0 c6] 22 (0, 0)))) (fun v16 _ => 0)
  case atStart => exact ⟨rfl, HII⟩
  case round =>
    obtain ⟨rfl, HIk⟩ := hrel
    clear HII
    have hxo : (wr.alloc (.cells #[.func (.func 29) #[] #[.pointer (some ⟨bo, 0, none⟩), .pointer (some ⟨w.heap.size, 0, none⟩), .pointer (some ⟨wr.heap.size, 0, none⟩)]] 46)).cell? ⟨bo, 0, none⟩ = some (.slice A6 0 c6) := cell1 (blk_alloc HIk.out.2.2 _)
    have HIJ : Kd.R (Kd.int .i64) 3 (wr.alloc (.cells #[.func (.func 29) #[] #[.pointer (some ⟨bo, 0, none⟩), .pointer (some ⟨w.heap.size, 0, none⟩), .pointer (some ⟨wr.heap.size, 0, none⟩)]] 46)) w.heap.size (fun _ => True) (.slice A6 0 c6) [] ∧ Below w.heap.size w (wr.alloc (.cells #[.func (.func 29) #[] #[.pointer (some ⟨bo, 0, none⟩), .pointer (some ⟨w.heap.size, 0, none⟩), .pointer (some ⟨wr.heap.size, 0, none⟩)]] 46)) := ⟨Kd.R_alloc HIk.out.1 _, HIk.out.2.1.alloc HIk.out.2.1.size _⟩
    have HIL := Aside0.mk HIJ
    clear HIJ HIk
    go_wp2
    generalize wr.alloc (.cells #[.func (.func 29) #[] #[.pointer (some ⟨bo, 0, none⟩), .pointer (some ⟨w.heap.size, 0, none⟩), .pointer (some ⟨wr.heap.size, 0, none⟩)]] 46) = w7 at *
    go_loopw [26] (fun v26 wq => v26 = .int .i64 0 ∧ wq.cell? ⟨bo, 0, none⟩ = some (.slice A6 0 c6) ∧ Aside0 (Kd.R (Kd.int .i64) 3 wq w.heap.size (fun _ => True) (.slice A6 0 c6) [] ∧ Below w.heap.size w wq)) (fun v26 _ => 0)
    case atStart => exact ⟨rfl, hxo, HIL⟩
    case round =>
      obtain ⟨rfl, hxo2, HIM⟩ := hrel
      clear HIL hxo
      go_wp2
      go_ret2
      exact ⟨_, rfl, HIM.out.1, HIM.out.2⟩

theorem isl_empty : IsIsl [] [] := ⟨rfl, fun j hj => absurd hj (by simp), fun j k hj => absurd hj (by simp)⟩
/-! ### graph_Islands: function 20 -/
noncomputable def graph_Islands.f (k : Nat) (l0 : List (List Bool)) : Option (List Int × Int) := some (islandsV l0)
theorem graph_Islands.mono : ∀ a0 k, LeO (graph_Islands.f k a0) (graph_Islands.f (k + 1) a0) := fun _ _ => LeO.refl _
theorem graph_Islands.calls (k : Nat) (A0 : Option Addr) (c0 : Nat) (l0 : List (List Bool)) (r1 : List Int) (r2 : Int) (w : World) (hr0 : Kd.C (Kd.slice 4 Kd.bool) w A0 l0.length l0) (hc0 : l0.length ≤ c0) (h : graph_Islands.f k l0 = some (r1, r2)) :
    Calls Try.prog 20 #[.slice A0 l0.length c0] w fun e w' => ∃ v0_ : Value, e = .returned (.tuple #[v0_, .int .i64 r2]) ∧ Kd.R (Kd.int .i64) 3 w' w.heap.size (fun _ => True) v0_ r1 ∧ Below w.heap.size w w' := by
  have hm := Kd.C_max hr0
  obtain ⟨K, b, hK, hb⟩ := isValid_f (h := l0) (by omega)
  have he : islandsV l0 = (r1, r2) := Option.some.inj h
  clear h
  unfold islandsV at he
  cases b with
  | false =>
    have hv : ¬ Valid l0 := fun v => by have := hb.2 v; cases this
    rw [if_neg hv] at he
    obtain ⟨rfl, rfl⟩ := Prod.mk.inj he
    exact (islands_no A0 c0 l0 w hr0 hc0 K hK).mono fun e w' ⟨h1, h2⟩ => ⟨_, h1, Kd.R_nil _ _ _ _ _, h2⟩
  | true =>
    have hv : Valid l0 := hb.1 rfl
    rw [if_pos hv] at he
    obtain ⟨rfl, rfl⟩ := Prod.mk.inj he
    by_cases hpos : 0 < l0.length
    · refine (islands_yes A0 c0 l0 w hr0 hc0 K hK hv hpos).mono fun e w' ⟨v, out, h1, h2, h3, h4⟩ => ?_
      rw [islL_eq h4]
      exact ⟨v, h1, h2, h3⟩
    · obtain rfl : l0 = [] := by cases l0 with
        | nil => rfl
        | cons => simp at hpos
      rw [islL_eq isl_empty]
      exact islands_zero A0 c0 w hr0 K hK
end Go.Proofs.Ytppkmmifjfcfiaa.P
