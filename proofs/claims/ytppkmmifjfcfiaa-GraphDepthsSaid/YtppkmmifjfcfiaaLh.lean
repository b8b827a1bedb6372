/- GraphDepths' contract: for every table and root the law returns true and nothing older changes. -/
import Derived.Test.YtppkmmifjfcfiaaHf
import Derived.Test.YtppkmmifjfcfiaaCg
namespace Go.Proofs.Ytppkmmifjfcfiaa.P
open Go.RowKit Go.Proofs.YtppkmmifjfcfiaaW.PrintWords Go.Proofs.YtppkmmifjfcfiaaW.PrintLast Go.Proofs.YtppkmmifjfcfiaaW.PrintMore
open Go.Proofs.Ytppkmmifjfcfiaa.V
attribute [local go_sem] max2_int min2_int max_two min_two max_three min_three max_four min_four
set_option linter.unusedVariables false
set_option linter.unusedSimpArgs false

/-- A neighbour below m is nearer by one. -/
def NearTo (h : List (List Bool)) (d : List Int) (i m : Nat) : Prop := ∃ k, k < m ∧ cell h i k = true ∧ ov d k = ov d i - 1 ∧ 0 ≤ ov d k
theorem NearTo.zero {h : List (List Bool)} {d : List Int} {i : Nat} : false = true ↔ NearTo h d i 0 := ⟨fun x => (by cases x), fun ⟨k, hk, _⟩ => by omega⟩
theorem NearTo.keep {h : List (List Bool)} {d : List Int} {i m : Nat} {x : Bool} (hx : x = true ↔ NearTo h d i m) (hn : ¬ (cell h i m = true ∧ ov d m = ov d i - 1 ∧ 0 ≤ ov d m)) : x = true ↔ NearTo h d i (m + 1) := by
  rw [hx]
  constructor
  · rintro ⟨k, h1, h2⟩; exact ⟨k, by omega, h2⟩
  · rintro ⟨k, h1, h2⟩
    by_cases g : k = m
    · subst g; exact absurd h2 hn
    · exact ⟨k, by omega, h2⟩
theorem NearTo.stay {h : List (List Bool)} {d : List Int} {i m : Nat} (hx : true = true ↔ NearTo h d i m) : true = true ↔ NearTo h d i (m + 1) := by
  obtain ⟨k, h1, h2⟩ := hx.1 rfl
  exact ⟨fun _ => ⟨k, by omega, h2⟩, fun _ => rfl⟩
theorem NearTo.put {h : List (List Bool)} {d : List Int} {i m : Nat} (hn : cell h i m = true ∧ ov d m = ov d i - 1 ∧ 0 ≤ ov d m) : true = true ↔ NearTo h d i (m + 1) :=
  ⟨fun _ => ⟨m, by omega, hn⟩, fun _ => rfl⟩

set_option maxHeartbeats 8000000 in
set_option maxRecDepth 100000 in
theorem gdepths_c (A0 : Option Addr) (c0 : Nat) (l0 : List (List Bool)) (a1 : Int) (w : World) (hr0 : Kd.C (Kd.slice 4 Kd.bool) w A0 l0.length l0) (hc0 : l0.length ≤ c0) :
    Calls Try.prog 8 #[.slice A0 l0.length c0, .int .i64 a1] w fun e w' => e = .returned (.bool true) ∧ Below w.heap.size w w' := by
  obtain ⟨k3, hk3⟩ := head_ev.get
  obtain ⟨t220, hb4, _⟩ := few_ev l0 []
  obtain ⟨k4, hk4⟩ := hb4.get
  obtain ⟨t221, hb5, hv⟩ := RValid_ev l0
  obtain ⟨k5, hk5⟩ := hb5.get
  clear hb4 hb5
  have A3 := Aside0.mk hk3
  have A4 := Aside0.mk hk4
  have A5 := Aside0.mk hk5
  have HV := Aside0.mk hv
  have HR0 := Aside0.mk hr0
  have HC0 := Aside0.mk hc0
  clear hk3 hk4 hk5 hv hr0 hc0
  have HB := Aside0.mk (Below.refl w.heap.size w)
  go_enter Try.func8, Try.ntmps8
  go_upto_region 4 with (first | (go_at_call 10; (with_reducible refine (slotmeshlaw22_head.calls k3  true _ A3.out).mono ?_); rintro e w7 ⟨rfl, hb⟩; have n0_ := Aside0.mk (below_step (by repeat (first | (with_reducible first | exact HB.out | apply below_alloc | apply pw_below_drewN | apply below_drew1) | exact HB.out)) hb); clear HB; have HB := n0_; clear n0_; (try clear hb); (try clear hb2); (try clear hk); (try clear hi)) | (go_at_call 15; (refine (slotmeshlaw22_few.calls k4 _ _ l0 _ _ ([] : List Int) t220 _ ?side1 ?side2 ?side3 ?side4 A4.out).mono ?_); (case side1 => repeat (first | exact (Kd.C_below HR0.out HB.out) | (with_reducible refine Kd.C_alloc ?_ _) | (with_reducible refine Kd.C_drewN ?_ _) | (with_reducible refine Kd.C_drew ?_))); (case side2 => exact HC0.out); (case side3 => exact Kd.C_nil _ _); (case side4 => exact Nat.le_refl _); rintro e w' ⟨rfl, ⟨nd, rfl⟩⟩; (try first | exact ⟨rfl, _, World.drewN_drewN _ _ _⟩ | exact ⟨rfl, _, Eq.trans (World.drewN_drewN _ _ _) (congrArg (World.drewN _) (Nat.add_assoc _ _ _))⟩)) | (go_at_call 16; (with_reducible refine (slotmeshref22_Valid.calls k5 _ _ l0 t221 _ ?side1 ?side2 A5.out).mono ?_); (case side1 => repeat (first | exact (Kd.C_below HR0.out (by repeat (first | (with_reducible first | exact HB.out | apply below_alloc | apply pw_below_drewN | apply below_drew1) | exact HB.out))) | (with_reducible refine Kd.C_alloc ?_ _) | (with_reducible refine Kd.C_drewN ?_ _) | (with_reducible refine Kd.C_drew ?_))); (case side2 => exact HC0.out); rintro e w' ⟨rfl, ⟨nd, rfl⟩⟩; (try first | exact ⟨rfl, _, World.drewN_drewN _ _ _⟩ | exact ⟨rfl, _, Eq.trans (World.drewN_drewN _ _ _) (congrArg (World.drewN _) (Nat.add_assoc _ _ _))⟩)))
  repeat (go_quiet (first | (go_at_call 10; (with_reducible refine (slotmeshlaw22_head.calls k3  true _ A3.out).mono ?_); rintro e w7 ⟨rfl, hb⟩; have n0_ := Aside0.mk (below_step (by repeat (first | (with_reducible first | exact HB.out | apply below_alloc | apply pw_below_drewN | apply below_drew1) | exact HB.out)) hb); clear HB; have HB := n0_; clear n0_; (try clear hb); (try clear hb2); (try clear hk); (try clear hi)) | (go_at_call 15; (refine (slotmeshlaw22_few.calls k4 _ _ l0 _ _ ([] : List Int) t220 _ ?side1 ?side2 ?side3 ?side4 A4.out).mono ?_); (case side1 => repeat (first | exact (Kd.C_below HR0.out HB.out) | (with_reducible refine Kd.C_alloc ?_ _) | (with_reducible refine Kd.C_drewN ?_ _) | (with_reducible refine Kd.C_drew ?_))); (case side2 => exact HC0.out); (case side3 => exact Kd.C_nil _ _); (case side4 => exact Nat.le_refl _); rintro e w' ⟨rfl, ⟨nd, rfl⟩⟩; (try first | exact ⟨rfl, _, World.drewN_drewN _ _ _⟩ | exact ⟨rfl, _, Eq.trans (World.drewN_drewN _ _ _) (congrArg (World.drewN _) (Nat.add_assoc _ _ _))⟩)) | (go_at_call 16; (with_reducible refine (slotmeshref22_Valid.calls k5 _ _ l0 t221 _ ?side1 ?side2 A5.out).mono ?_); (case side1 => repeat (first | exact (Kd.C_below HR0.out (by repeat (first | (with_reducible first | exact HB.out | apply below_alloc | apply pw_below_drewN | apply below_drew1) | exact HB.out))) | (with_reducible refine Kd.C_alloc ?_ _) | (with_reducible refine Kd.C_drewN ?_ _) | (with_reducible refine Kd.C_drew ?_))); (case side2 => exact HC0.out); rintro e w' ⟨rfl, ⟨nd, rfl⟩⟩; (try first | exact ⟨rfl, _, World.drewN_drewN _ _ _⟩ | exact ⟨rfl, _, Eq.trans (World.drewN_drewN _ _ _) (congrArg (World.drewN _) (Nat.add_assoc _ _ _))⟩))); go_upto_region 4 with (first | (go_at_call 10; (with_reducible refine (slotmeshlaw22_head.calls k3  true _ A3.out).mono ?_); rintro e w7 ⟨rfl, hb⟩; have n0_ := Aside0.mk (below_step (by repeat (first | (with_reducible first | exact HB.out | apply below_alloc | apply pw_below_drewN | apply below_drew1) | exact HB.out)) hb); clear HB; have HB := n0_; clear n0_; (try clear hb); (try clear hb2); (try clear hk); (try clear hi)) | (go_at_call 15; (refine (slotmeshlaw22_few.calls k4 _ _ l0 _ _ ([] : List Int) t220 _ ?side1 ?side2 ?side3 ?side4 A4.out).mono ?_); (case side1 => repeat (first | exact (Kd.C_below HR0.out HB.out) | (with_reducible refine Kd.C_alloc ?_ _) | (with_reducible refine Kd.C_drewN ?_ _) | (with_reducible refine Kd.C_drew ?_))); (case side2 => exact HC0.out); (case side3 => exact Kd.C_nil _ _); (case side4 => exact Nat.le_refl _); rintro e w' ⟨rfl, ⟨nd, rfl⟩⟩; (try first | exact ⟨rfl, _, World.drewN_drewN _ _ _⟩ | exact ⟨rfl, _, Eq.trans (World.drewN_drewN _ _ _) (congrArg (World.drewN _) (Nat.add_assoc _ _ _))⟩)) | (go_at_call 16; (with_reducible refine (slotmeshref22_Valid.calls k5 _ _ l0 t221 _ ?side1 ?side2 A5.out).mono ?_); (case side1 => repeat (first | exact (Kd.C_below HR0.out (by repeat (first | (with_reducible first | exact HB.out | apply below_alloc | apply pw_below_drewN | apply below_drew1) | exact HB.out))) | (with_reducible refine Kd.C_alloc ?_ _) | (with_reducible refine Kd.C_drewN ?_ _) | (with_reducible refine Kd.C_drew ?_))); (case side2 => exact HC0.out); rintro e w' ⟨rfl, ⟨nd, rfl⟩⟩; (try first | exact ⟨rfl, _, World.drewN_drewN _ _ _⟩ | exact ⟨rfl, _, Eq.trans (World.drewN_drewN _ _ _) (congrArg (World.drewN _) (Nat.add_assoc _ _ _))⟩))))
  (try simp only [Act.put, List.setIfInBounds_toArray, List.set_cons_zero, List.set_cons_succ])
  go_cut [33] (fun v33 wc => ∃ (x : Bool), v33 = .bool x ∧ Aside0 (x = true ∨ (x = false ∧ Valid l0 ∧ 0 ≤ a1 ∧ a1 < (l0.length : Int))) ∧ Aside0 (Below w.heap.size w wc))
  case first =>
    cases t220 with
    | false =>
      go_wp2
      repeat (go_quiet (fail); try go_wp2)
      go_meet
      case rel => exact ⟨true, (by first | rfl | (simp; done) | (simp [*]; done)), ⟨.inl rfl⟩, ⟨by repeat (first | (with_reducible first | exact HB.out | apply below_alloc | apply pw_below_drewN | apply below_drew1) | exact HB.out)⟩⟩
    | true =>
      cases t221 with
      | false =>
        go_wp2
        repeat (go_quiet (fail); try go_wp2)
        go_meet
        case rel => exact ⟨true, (by first | rfl | (simp; done) | (simp [*]; done)), ⟨.inl rfl⟩, ⟨by repeat (first | (with_reducible first | exact HB.out | apply below_alloc | apply pw_below_drewN | apply below_drew1) | exact HB.out)⟩⟩
      | true =>
        have HVV := Aside0.mk (HV.out.1 rfl)
        by_cases c10 : a1 < 0
        · have c10b0 : decide (a1 < 0) = true := decide_eq_true c10
          clear c10
          go_wp2
          repeat (go_quiet (fail); try go_wp2)
          go_meet
          case rel => exact ⟨true, (by first | rfl | (simp; done) | (simp [*]; done)), ⟨.inl rfl⟩, ⟨by repeat (first | (with_reducible first | exact HB.out | apply below_alloc | apply pw_below_drewN | apply below_drew1) | exact HB.out)⟩⟩
        · have c10b0 : decide (a1 < 0) = false := decide_eq_false c10
          have HA1 := Aside0.mk c10
          clear c10
          go_wp2
          repeat (go_quiet (fail); try go_wp2)
          go_meet
          case rel => exact ⟨decide (a1 ≥ (l0.length : Int)), (by first | rfl | (simp; done) | (simp [*]; done)), ⟨by
            by_cases g : a1 ≥ (l0.length : Int)
            · exact .inl (decide_eq_true g)
            · exact .inr ⟨decide_eq_false g, HVV.out, by have := HA1.out; omega, by omega⟩⟩, ⟨by repeat (first | (with_reducible first | exact HB.out | apply below_alloc | apply pw_below_drewN | apply below_drew1) | exact HB.out)⟩⟩
  case rest =>
    clear HV
    obtain ⟨x, rfl, HX, HB⟩ := hcut
    cases x with
    | true =>
      go_wp2
      repeat (go_quiet (fail); try go_wp2)
      go_ret
      exact ⟨rfl, by repeat (first | (with_reducible first | exact HB.out | apply below_alloc | apply pw_below_drewN | apply below_drew1) | exact HB.out)⟩
    | false =>
      obtain ⟨v, h0, h1⟩ : Valid l0 ∧ 0 ≤ a1 ∧ a1 < (l0.length : Int) := by
        rcases HX.out with g | g
        · cases g
        · exact g.2
      clear HX
      obtain ⟨a, rfl⟩ := Int.eq_ofNat_of_zero_le h0
      have ha : a < l0.length := by omega
      have D := dist_exists v ha
      have hd2 : graph_Depths.f 0 l0 (a : Int) = some (distL l0 a, 0) := congrArg some (by unfold depthsV; rw [if_pos ⟨v, h0, h1⟩, Int.toNat_natCast])
      obtain ⟨d, hd⟩ : ∃ d, distL l0 a = d := ⟨_, rfl⟩
      rw [hd] at D hd2
      have h60 := v.len
      have HLN := Aside0.mk (show d.length = l0.length from D.len)
      have A12 := Aside0.mk hd2
      have HVV := Aside0.mk v
      have HD := Aside0.mk D
      clear v D hd2 hd h0 h1
      go_upto_region 7 with (first | (go_at_call 17; (with_reducible refine (graph_Depths.calls 0 _ _ l0 (a : Int) d 0 _ ?side1 ?side2 A12.out).mono ?_); (case side1 => repeat (first | exact (Kd.C_below HR0.out HB.out) | (with_reducible refine Kd.C_alloc ?_ _) | (with_reducible refine Kd.C_drewN ?_ _) | (with_reducible refine Kd.C_drew ?_))); (case side2 => exact HC0.out); rintro e w14 ⟨v224, rfl, ho0, hb⟩; have n0_ := Aside0.mk (Kd.R_lower ho0 (below_size (by repeat (first | (with_reducible first | exact HB.out | apply below_alloc | apply pw_below_drewN | apply below_drew1) | exact HB.out)))); have n1_ := Aside0.mk (below_step (by repeat (first | (with_reducible first | exact HB.out | apply below_alloc | apply pw_below_drewN | apply below_drew1) | exact HB.out)) hb); clear HB; have HO225 := n0_; have HB := n1_; clear n0_ n1_; (try clear hb); (try clear hb2); (try clear hk); (try clear hi); (try clear ho0)))
      repeat (go_quiet (first | (go_at_call 17; (with_reducible refine (graph_Depths.calls 0 _ _ l0 (a : Int) d 0 _ ?side1 ?side2 A12.out).mono ?_); (case side1 => repeat (first | exact (Kd.C_below HR0.out HB.out) | (with_reducible refine Kd.C_alloc ?_ _) | (with_reducible refine Kd.C_drewN ?_ _) | (with_reducible refine Kd.C_drew ?_))); (case side2 => exact HC0.out); rintro e w14 ⟨v224, rfl, ho0, hb⟩; have n0_ := Aside0.mk (Kd.R_lower ho0 (below_size (by repeat (first | (with_reducible first | exact HB.out | apply below_alloc | apply pw_below_drewN | apply below_drew1) | exact HB.out)))); have n1_ := Aside0.mk (below_step (by repeat (first | (with_reducible first | exact HB.out | apply below_alloc | apply pw_below_drewN | apply below_drew1) | exact HB.out)) hb); clear HB; have HO225 := n0_; have HB := n1_; clear n0_ n1_; (try clear hb); (try clear hb2); (try clear hk); (try clear hi); (try clear ho0))); go_upto_region 7 with (first | (go_at_call 17; (with_reducible refine (graph_Depths.calls 0 _ _ l0 (a : Int) d 0 _ ?side1 ?side2 A12.out).mono ?_); (case side1 => repeat (first | exact (Kd.C_below HR0.out HB.out) | (with_reducible refine Kd.C_alloc ?_ _) | (with_reducible refine Kd.C_drewN ?_ _) | (with_reducible refine Kd.C_drew ?_))); (case side2 => exact HC0.out); rintro e w14 ⟨v224, rfl, ho0, hb⟩; have n0_ := Aside0.mk (Kd.R_lower ho0 (below_size (by repeat (first | (with_reducible first | exact HB.out | apply below_alloc | apply pw_below_drewN | apply below_drew1) | exact HB.out)))); have n1_ := Aside0.mk (below_step (by repeat (first | (with_reducible first | exact HB.out | apply below_alloc | apply pw_below_drewN | apply below_drew1) | exact HB.out)) hb); clear HB; have HO225 := n0_; have HB := n1_; clear n0_ n1_; (try clear hb); (try clear hb2); (try clear hk); (try clear hi); (try clear ho0))))
      (try simp only [Act.put, List.setIfInBounds_toArray, List.set_cons_zero, List.set_cons_succ])
      go_cut [49] (fun v49 wc => v49 = .bool false ∧ Aside0 (Kd.R (Kd.int .i64) 3 wc w.heap.size (fun _ => True) v224 d) ∧ Aside0 (Below w.heap.size w wc))
      case first =>
        have e49 : ((d.length : Int) != (l0.length : Int)) = false := by rw [HLN.out]; simp
        obtain ⟨Ao16, co16, eo16⟩ := Kd.R_slice HO225.out
        subst eo16
        go_wp2
        repeat (go_quiet (fail); try go_wp2)
        go_meet
        case rel => exact ⟨(by first | rfl | (simp; done) | (simp [*]; done)), ⟨by (with_reducible repeat (first | apply Kd.R_alloc | apply Kd.R_drewN | apply Kd.R_drew)); exact HO225.out⟩, ⟨by repeat (first | (with_reducible first | exact HB.out | apply below_alloc | apply pw_below_drewN | apply below_drew1) | exact HB.out)⟩⟩
      case rest =>
        obtain ⟨rfl, HO_8, HB⟩ := hcut
        go_wp2
        repeat (go_quiet (fail); try go_wp2)
        go_loopg [5, 10] l0.length (fun g v5 v10 w' => ∃ (i : Nat), v5 = .bool true ∧ v10 = .int .i64 (i : Int) ∧ Aside0 (i + g = l0.length) ∧ Aside0 (Kd.R (Kd.int .i64) 3 w' w.heap.size (fun _ => True) v224 d) ∧ Aside0 (Below w.heap.size w w'))
        case atStart => exact ⟨0, rfl, rfl, ⟨by omega⟩, ⟨by (with_reducible repeat (first | apply Kd.R_alloc | apply Kd.R_drewN | apply Kd.R_drew)); exact HO_8.out⟩, ⟨by repeat (first | (with_reducible first | exact HB.out | apply below_alloc | apply pw_below_drewN | apply below_drew1) | exact HB.out)⟩⟩
        case round =>
          clear HO_8 HB
          obtain ⟨i, rfl, rfl, HI, HO_8, HB⟩ := hrel
          obtain ⟨Ao19, co19, eo19⟩ := Kd.R_slice HO_8.out
          subst eo19
          cases gk with
          | zero =>
            have c18b0 : ¬ ((i : Int) < (d.length : Int)) := (by have := HI.out; have := HLN.out; omega)
            go_wp2
            repeat (go_quiet (fail); try go_wp2)
            go_ret
            exact ⟨rfl, by repeat (first | (with_reducible first | exact HB.out | apply below_alloc | apply pw_below_drewN | apply below_drew1) | exact HB.out)⟩
          | succ g =>
            have hi : i < l0.length := by have := HI.out; omega
            have c18b0 : (i : Int) < (d.length : Int) := (by have := HLN.out; omega)
            go_wp2
            repeat (go_quiet (fail); try go_wp2)
            go_loopg [5, 11, 12] l0.length (fun g2 v5 v11 v12 w' => ∃ (x : Bool) (m : Nat), v5 = .bool true ∧ v11 = .bool x ∧ v12 = .int .i64 (m : Int) ∧ Aside0 (m + g2 = l0.length) ∧ Aside0 (x = true ↔ NearTo l0 d i m) ∧ Aside0 (Kd.R (Kd.int .i64) 3 w' w.heap.size (fun _ => True) (.slice Ao19 d.length co19) d) ∧ Aside0 (Below w.heap.size w w'))
            case atStart => exact ⟨false, 0, rfl, rfl, rfl, ⟨by omega⟩, ⟨NearTo.zero⟩, ⟨by (with_reducible repeat (first | apply Kd.R_alloc | apply Kd.R_drewN | apply Kd.R_drew)); exact HO_8.out⟩, ⟨by repeat (first | (with_reducible first | exact HB.out | apply below_alloc | apply pw_below_drewN | apply below_drew1) | exact HB.out)⟩⟩
            case round =>
              clear HO_8 HB c18b0
              obtain ⟨x, m, rfl, rfl, rfl, HM, HN, HO_8, HB⟩ := hrel
              have c22b0 : (i : Int) < (l0.length : Int) := by omega
              have c29b0 : (i : Int) < (d.length : Int) := (by have := HLN.out; omega)
              obtain ⟨ad228, e228, hx228_0⟩ := Kd.at_int (Kd.R_reads' HO_8.out).2.2 (i : Int) (by omega) (by have := HLN.out; omega)
              cases e228
              have q228 : (i : Int) < (d.length : Int) := by have := HLN.out; omega
              obtain ⟨da, hda⟩ : ∃ x, rd d (i : Int) = x := ⟨_, rfl⟩
              have HDA := Aside0.mk (show ov d i = da from hda)
              have lda := HD.out.lo i hi
              have uda := HD.out.lt hi
              rw [HDA.out] at lda uda
              rw [hda] at hx228_0
              clear hda
              simp only [Int.toNat_natCast] at hx228_0
              cases gk with
              | zero =>
                have c20b0 : ¬ ((m : Int) < (d.length : Int)) := (by have := HM.out; have := HLN.out; omega)
                have c61b0 : decide ((-1) ≤ da) = true := decide_eq_true lda
                have HDL := Aside0.mk (And.intro lda uda)
                by_cases c63 : da ≤ 0
                · have c63b0 : decide (da ≤ 0) = true := decide_eq_true c63
                  by_cases c62 : i = a
                  · have e0 : da = 0 := by have := (HD.out.root i hi).2 c62; rw [HDA.out] at this; exact this
                    subst e0 c62
                    clear c63
                    clear lda uda
                    go_wp2
                    repeat (go_quiet (fail); try go_wp2)
                    go_roundg g
                    case measure => omega
                    case rel => exact ⟨i + 1, (by first | rfl | (simp; done) | (simp [*]; done)), (by first | rfl | (simp; done) | exact nxt60 (by omega)), ⟨by have := HI.out; omega⟩, ⟨by (with_reducible repeat (first | apply Kd.R_alloc | apply Kd.R_drewN | apply Kd.R_drew)); exact HO_8.out⟩, ⟨by repeat (first | (with_reducible first | exact HB.out | apply below_alloc | apply pw_below_drewN | apply below_drew1) | exact HB.out)⟩⟩
                  · have e0 : ¬ da = 0 := fun q => c62 ((HD.out.root i hi).1 (by rw [HDA.out]; exact q))
                    have z1 : (da == 0) = false := beq_eq_false_iff_ne.mpr e0
                    have z2 : ((i : Int) == (a : Int)) = false := beq_eq_false_iff_ne.mpr (by omega)
                    clear e0 c62 c63
                    clear lda uda
                    go_wp2
                    repeat (go_quiet (fail); try go_wp2)
                    go_roundg g
                    case measure => omega
                    case rel => exact ⟨i + 1, (by first | rfl | (simp; done) | (simp [*]; done)), (by first | rfl | (simp; done) | exact nxt60 (by omega)), ⟨by have := HI.out; omega⟩, ⟨by (with_reducible repeat (first | apply Kd.R_alloc | apply Kd.R_drewN | apply Kd.R_drew)); exact HO_8.out⟩, ⟨by repeat (first | (with_reducible first | exact HB.out | apply below_alloc | apply pw_below_drewN | apply below_drew1) | exact HB.out)⟩⟩
                · have c63b0 : decide (da ≤ 0) = false := decide_eq_false c63
                  have e0 : ¬ da = 0 := by omega
                  have c62 : ¬ i = a := fun q => by have := (HD.out.root i hi).2 q; rw [HDA.out] at this; omega
                  have hxt : x = true := by
                    obtain ⟨k, h1, h2, h3⟩ := HD.out.near i hi (by rw [HDA.out]; omega)
                    rw [HDA.out] at h3
                    exact HN.out.2 ⟨k, by have := HM.out; omega, h2, by rw [HDA.out]; exact h3, by omega⟩
                  subst hxt
                  have z1 : (da == 0) = false := beq_eq_false_iff_ne.mpr e0
                  have z2 : ((i : Int) == (a : Int)) = false := beq_eq_false_iff_ne.mpr (by omega)
                  clear e0 c62 c63
                  clear lda uda
                  go_wp2
                  repeat (go_quiet (fail); try go_wp2)
                  go_roundg g
                  case measure => omega
                  case rel => exact ⟨i + 1, (by first | rfl | (simp; done) | (simp [*]; done)), (by first | rfl | (simp; done) | exact nxt60 (by omega)), ⟨by have := HI.out; omega⟩, ⟨by (with_reducible repeat (first | apply Kd.R_alloc | apply Kd.R_drewN | apply Kd.R_drew)); exact HO_8.out⟩, ⟨by repeat (first | (with_reducible first | exact HB.out | apply below_alloc | apply pw_below_drewN | apply below_drew1) | exact HB.out)⟩⟩
              | succ g2 =>
                have hm : m < l0.length := by have := HM.out; omega
                have c20b0 : (m : Int) < (d.length : Int) := (by have := HLN.out; omega)
                have hrl : ((rd_L2 l0 (i : Int)).length : Int) = (l0.length : Int) := congrArg Int.ofNat (HVV.out.row i hi)
                obtain ⟨ad226, A226_0, c226_0, e226, hx226_0, hl226_0, hi226_0⟩ := at_L2 HR0.out (i : Int) (by omega) (by omega)
                cases e226
                replace hx226_0 := (HB.out.cell (World.block_lt_of_cell? w _ hx226_0)).trans hx226_0
                have HC226_0 := Aside0.mk hl226_0
                clear hl226_0
                obtain ⟨ad227, e227, hx227_0⟩ := Kd.at_bool hi226_0 (m : Int) (by omega) (by omega)
                cases e227
                replace hx227_0 := (HB.out.cell (World.block_lt_of_cell? w _ hx227_0)).trans hx227_0
                clear hi226_0
                obtain ⟨ad229, e229, hx229_0⟩ := Kd.at_int (Kd.R_reads' HO_8.out).2.2 (m : Int) (by omega) (by have := HLN.out; omega)
                obtain rfl : ad228 = ad229 := (by injection e229)
                clear e229
                have q226 : (i : Int) < (l0.length : Int) := by omega
                have q227 : (m : Int) < ((rd_L2 l0 (i : Int)).length : Int) := by omega
                have q229 : (m : Int) < (d.length : Int) := by have := HLN.out; omega
                obtain ⟨db, hdb⟩ : ∃ x, rd d (m : Int) = x := ⟨_, rfl⟩
                have HDB := Aside0.mk (show ov d m = db from hdb)
                have ldb := HD.out.lo m hm
                have udb := HD.out.lt hm
                rw [HDB.out] at ldb udb
                rw [hdb] at hx229_0
                clear hdb hrl
                simp only [Int.toNat_natCast] at hx229_0
                obtain ⟨ce, hce⟩ : ∃ x, rdOf false (rd_L2 l0 (i : Int)) (m : Int) = x := ⟨_, rfl⟩
                have HCE := Aside0.mk (show cell l0 i m = ce from hce)
                rw [hce] at hx227_0
                clear hce
                simp only [Int.toNat_natCast] at hx227_0 hx226_0
                cases ce with
                | false =>
                  clear lda uda ldb udb
                  go_wp2
                  repeat (go_quiet (fail); try go_wp2)
                  go_roundg g2
                  case measure => omega
                  case rel => exact ⟨x, m + 1, (by first | rfl | (simp; done) | (simp [*]; done)), (by first | rfl | (simp; done) | (simp [*]; done)), (by first | rfl | (simp; done) | exact nxt60 (by omega)), ⟨by have := HM.out; omega⟩, ⟨NearTo.keep HN.out (fun q => by have := HCE.out; rw [q.1] at this; cases this)⟩, ⟨by (with_reducible repeat (first | apply Kd.R_alloc | apply Kd.R_drewN | apply Kd.R_drew)); exact HO_8.out⟩, ⟨by repeat (first | (with_reducible first | exact HB.out | apply below_alloc | apply pw_below_drewN | apply below_drew1) | exact HB.out)⟩⟩
                | true =>
                  by_cases c30 : da < 0
                  · have db0 : db < 0 := by
                      refine Int.not_le.mp fun q => ?_
                      have := (HD.out.adj m i hm hi (by rw [HVV.out.sym m i hm hi]; exact HCE.out) (by rw [HDB.out]; exact q)).1
                      rw [HDA.out] at this
                      omega
                    have c30b0 : decide (da < 0) = true := decide_eq_true c30
                    have c31b0 : decide (db < 0) = true := decide_eq_true db0
                    have NN := Aside0.mk (show ¬ (cell l0 i m = true ∧ ov d m = ov d i - 1 ∧ 0 ≤ ov d m) from fun q => by have := q.2.2; rw [HDB.out] at this; omega)
                    have ew : wrap64 (da - 1) = da - 1 := w64' (by omega)
                    have z1 : (db == da - 1) = false := beq_eq_false_iff_ne.mpr (by omega)
                    have z2 : decide (0 ≤ db) = false := decide_eq_false (by omega)
                    clear c30 db0
                    cases x with
                    | true =>
                      clear lda uda ldb udb
                      go_wp2
                      repeat (go_quiet (fail); try go_wp2)
                      go_roundg g2
                      case measure => omega
                      case rel => exact ⟨true, m + 1, (by first | rfl | (simp; done) | (simp [*]; done)), (by first | rfl | (simp; done) | (simp [*]; done)), (by first | rfl | (simp; done) | exact nxt60 (by omega)), ⟨by have := HM.out; omega⟩, ⟨NearTo.stay (by simpa using HN.out)⟩, ⟨by (with_reducible repeat (first | apply Kd.R_alloc | apply Kd.R_drewN | apply Kd.R_drew)); exact HO_8.out⟩, ⟨by repeat (first | (with_reducible first | exact HB.out | apply below_alloc | apply pw_below_drewN | apply below_drew1) | exact HB.out)⟩⟩
                    | false =>
                      clear lda uda ldb udb
                      go_wp2
                      repeat (go_quiet (fail); try go_wp2)
                      go_roundg g2
                      case measure => omega
                      case rel => exact ⟨false, m + 1, (by first | rfl | (simp; done) | (simp [*]; done)), (by first | rfl | (simp; done) | (simp [*]; done)), (by first | rfl | (simp; done) | exact nxt60 (by omega)), ⟨by have := HM.out; omega⟩, ⟨NearTo.keep HN.out NN.out⟩, ⟨by (with_reducible repeat (first | apply Kd.R_alloc | apply Kd.R_drewN | apply Kd.R_drew)); exact HO_8.out⟩, ⟨by repeat (first | (with_reducible first | exact HB.out | apply below_alloc | apply pw_below_drewN | apply below_drew1) | exact HB.out)⟩⟩
                  · have q1 := HD.out.adj i m hi hm HCE.out (by rw [HDA.out]; omega)
                    have q2 := HD.out.adj m i hm hi (by rw [HVV.out.sym m i hm hi]; exact HCE.out) q1.1
                    rw [HDA.out, HDB.out] at q1 q2
                    have c30b0 : decide (da < 0) = false := decide_eq_false c30
                    have c31b0 : decide (db < 0) = false := decide_eq_false (by omega)
                    have c32b0 : decide (0 ≤ da) = true := decide_eq_true (by omega)
                    have c33b0 : decide (0 ≤ db) = true := decide_eq_true (by omega)
                    have w1 : wrap64 (da - db) = da - db := w64' (by omega)
                    have w2 : wrap64 (db - da) = db - da := w64' (by omega)
                    have ew : wrap64 (da - 1) = da - 1 := w64' (by omega)
                    have c34b0 : decide (da - db ≤ 1) = true := decide_eq_true (by omega)
                    have c35b0 : decide (db - da ≤ 1) = true := decide_eq_true (by omega)
                    have QQ := Aside0.mk q1
                    clear q1 q2
                    cases x with
                    | true =>
                      clear c30
                      clear lda uda ldb udb
                      go_wp2
                      repeat (go_quiet (fail); try go_wp2)
                      go_roundg g2
                      case measure => omega
                      case rel => exact ⟨true, m + 1, (by first | rfl | (simp; done) | (simp [*]; done)), (by first | rfl | (simp; done) | (simp [*]; done)), (by first | rfl | (simp; done) | exact nxt60 (by omega)), ⟨by have := HM.out; omega⟩, ⟨NearTo.stay (by simpa using HN.out)⟩, ⟨by (with_reducible repeat (first | apply Kd.R_alloc | apply Kd.R_drewN | apply Kd.R_drew)); exact HO_8.out⟩, ⟨by repeat (first | (with_reducible first | exact HB.out | apply below_alloc | apply pw_below_drewN | apply below_drew1) | exact HB.out)⟩⟩
                    | false =>
                      by_cases ce : db = da - 1
                      · have z1 : (db == da - 1) = true := beq_iff_eq.mpr ce
                        have NN := Aside0.mk (show cell l0 i m = true ∧ ov d m = ov d i - 1 ∧ 0 ≤ ov d m from ⟨HCE.out, by rw [HDB.out, HDA.out]; exact ce, by rw [HDB.out]; exact QQ.out.1⟩)
                        clear ce c30
                        clear lda uda ldb udb
                        go_wp2
                        repeat (go_quiet (fail); try go_wp2)
                        go_roundg g2
                        case measure => omega
                        case rel => exact ⟨true, m + 1, (by first | rfl | (simp; done) | (simp [*]; done)), (by first | rfl | (simp; done) | (simp [*]; done)), (by first | rfl | (simp; done) | exact nxt60 (by omega)), ⟨by have := HM.out; omega⟩, ⟨NearTo.put NN.out⟩, ⟨by (with_reducible repeat (first | apply Kd.R_alloc | apply Kd.R_drewN | apply Kd.R_drew)); exact HO_8.out⟩, ⟨by repeat (first | (with_reducible first | exact HB.out | apply below_alloc | apply pw_below_drewN | apply below_drew1) | exact HB.out)⟩⟩
                      · have z1 : (db == da - 1) = false := beq_eq_false_iff_ne.mpr ce
                        have NN := Aside0.mk (show ¬ (cell l0 i m = true ∧ ov d m = ov d i - 1 ∧ 0 ≤ ov d m) from fun q => ce (by have := q.2.1; rw [HDB.out, HDA.out] at this; exact this))
                        clear ce c30
                        clear lda uda ldb udb
                        go_wp2
                        repeat (go_quiet (fail); try go_wp2)
                        go_roundg g2
                        case measure => omega
                        case rel => exact ⟨false, m + 1, (by first | rfl | (simp; done) | (simp [*]; done)), (by first | rfl | (simp; done) | (simp [*]; done)), (by first | rfl | (simp; done) | exact nxt60 (by omega)), ⟨by have := HM.out; omega⟩, ⟨NearTo.keep HN.out NN.out⟩, ⟨by (with_reducible repeat (first | apply Kd.R_alloc | apply Kd.R_drewN | apply Kd.R_drew)); exact HO_8.out⟩, ⟨by repeat (first | (with_reducible first | exact HB.out | apply below_alloc | apply pw_below_drewN | apply below_drew1) | exact HB.out)⟩⟩
theorem graphDepths_any (W : World) (A0 : Option Addr) (c0 : Nat) (l0 : List (List Bool)) (hr0 : Kd.C (Kd.slice 4 Kd.bool) W A0 l0.length l0) (hc0 : l0.length ≤ c0) (a1 : Int) (w1 : (Lit.int .i64 a1).wf = true) :
    Calls Try.prog 8 #[.slice A0 l0.length c0, .int .i64 a1] W fun e w' => e = .returned (.bool true) ∧ Below W.heap.size W w' := gdepths_c A0 c0 l0 a1 W hr0 hc0
end Go.Proofs.Ytppkmmifjfcfiaa.P
