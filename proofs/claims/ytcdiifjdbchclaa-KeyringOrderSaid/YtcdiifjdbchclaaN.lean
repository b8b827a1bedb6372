/- KeyringLearning's contract: for all rings, slot numbers and epochs the law returns true and changes nothing older. -/
import Derived.Test.YtcdiifjdbchclaaM
namespace Go.Proofs.Ytcdiifjdbchclaa.P
open Go.RowKit Go.Proofs.YtcdiifjdbchclaaW.PrintWords Go.Proofs.YtcdiifjdbchclaaW.PrintLast Go.Proofs.YtcdiifjdbchclaaW.PrintMore
open Go.BigFrame
attribute [local go_sem] max2_int min2_int max_two min_two max_three min_three max_four min_four
set_option linter.unusedVariables false
set_option linter.unusedSimpArgs false
attribute [local go_sem high] eqA23

theorem MW.alloc {w w1 : World} {a b c d : Int} (h : MW w w1 a b c d) (o : Obj) : MW w (w1.alloc o) a b c d := h.step ((Below.refl _ w1).alloc (Nat.le_refl _) o)
theorem MW.drew1 {w w1 : World} {a b c d : Int} (h : MW w w1 a b c d) : MW w w1.drew a b c d := h.step (Below.refl _ w1).drew
theorem MW.lt {w w1 : World} {a b c d : Int} (h : MW w w1 a b c d) : w.heap.size + 1 < w1.heap.size := blk_lt h.t
theorem MW.set {w w1 : World} {a b c d : Int} {g j : Nat} {v : Value} (h : MW w w1 a b c d) (hg : w.heap.size + 1 < g) : MW w (w1.setCell ⟨g, j, none⟩ v) a b c d :=
  ⟨blk_far h.r (p := ⟨g, j, none⟩) (by simp; omega) v, blk_far h.t (p := ⟨g, j, none⟩) (by simp; omega) v, h.b.setCell (by simp; omega) v⟩
structure MX (w w' : World) (a b c d : Int) (g : Nat) (l1 l2 : Int) : Prop where
  m : MW w w' a b c d
  x : w'.heap[g]? = some (.cells #[.int .i64 l1, .int .i64 l2] 23 (0, 0))
theorem MW.toS {w w1 : World} {a b c d : Int} (h : MW w w1 a b c d) : w1.cell? ⟨w.heap.size, 0, none⟩ = some (.int .i64 a) ∧ w1.cell? ⟨w.heap.size, 1, none⟩ = some (.int .i64 b) ∧ w1.cell? ⟨w.heap.size + 1, 0, none⟩ = some (.int .i64 c) ∧ w1.cell? ⟨w.heap.size + 1, 1, none⟩ = some (.int .i64 d) :=
  let ⟨r0, r1, _, _⟩ := cells2 h.r; let ⟨t0, t1, _, _⟩ := cells2 h.t; ⟨r0, r1, t0, t1⟩

theorem learn_knows (a b c d s e : Int) (hs : slotB s = true) : knowsB (learnV a b c d s).1 (learnV a b c d s).2 e = (knowsB a b e || (knowsB a b (s / 2000) && (knowsB c d (s / 2000) && !knowsB c d (s / 2000 + 2))) && knowsB c d e) := by
  have hq := slot_dom hs
  unfold learnV
  simp only [hs, Bool.true_and]
  generalize s / 2000 = q at *
  cases h1 : knowsB a b q
  · simp
  · cases h2 : knowsB c d q
    · simp
    · have g1 : validB a b = true ∧ a ≤ q ∧ q < b := by simpa [knowsB, and_assoc] using h1
      have g2 : validB c d = true ∧ c ≤ q ∧ q < d := by simpa [knowsB, and_assoc] using h2
      have g3 : knowsB c d (q + 2) = decide (q + 2 < d) := by simp [knowsB, g2.1]; omega
      rw [g3]
      obtain ⟨g1, g4, g5⟩ := g1
      obtain ⟨g2, g6, g7⟩ := g2
      have v1 := g1
      have v2 := g2
      simp [validB] at g1 g2
      by_cases h3 : d ≤ q + 2
      · have h4 : ¬ (q + 2 < d) := by omega
        have m1 : mn a c = a ∧ a ≤ c ∨ mn a c = c ∧ c ≤ a := by unfold mn; omega
        have m2 : mx b d = b ∧ d ≤ b ∨ mx b d = d ∧ b ≤ d := by unfold mx; omega
        have v3 : validB (mn a c) (mx b d) = true := by simp [validB]; omega
        rw [Bool.eq_iff_iff]
        simp [h3, h4, knowsB, v1, v2, v3]
        omega
      · have h4 : q + 2 < d := by omega
        simp [h3, h4]
theorem learn_far (a b c d s e : Int) (hs : slotB s = true) (he : s / 2000 + 1 < e) : knowsB (learnV a b c d s).1 (learnV a b c d s).2 e = knowsB a b e := by
  rw [learn_knows a b c d s e hs]
  have hq := slot_dom hs
  generalize s / 2000 = q at *
  cases h2 : knowsB c d q
  · simp
  · cases h3 : knowsB c d (q + 2)
    · have : knowsB c d e = false := by
        simp [knowsB] at h2 h3 ⊢
        intro v
        have := h3 v
        omega
      simp [this]
    · simp

set_option maxHeartbeats 4000000 in
set_option maxRecDepth 100000 in
theorem learning_c (a b c d n e : Int) (w : World) (hn : 0 ≤ n ∧ n < 4294967296) : Calls Try.prog 6 #[.agg #[.int .i64 a, .int .i64 b], .agg #[.int .i64 c, .int .i64 d], .int .u32 n, .int .i64 e] w fun e w' => e = .returned (.bool true) ∧ Below w.heap.size w w' := by
  have SL := fun w => slot_c n w hn
  have hs : 0 ≤ n % 999996000 ∧ n % 999996000 < 999996000 := by omega
  generalize n % 999996000 = s at *
  have b1 : slotB s = true := by simp [slotB]; omega
  have hE : epochV s = (s / 2000, 0) := by simp [epochV, b1]
  have hq : 0 ≤ s / 2000 ∧ s / 2000 ≤ 500000 := slot_dom b1
  obtain ⟨le, hl⟩ : ∃ x, learnV a b c d s = x := ⟨_, rfl⟩
  obtain ⟨l1, l2⟩ := le
  have X1 := learn_knows a b c d s e b1
  have X2 := learn_far a b c d s e b1
  rw [hl] at X1 X2
  have HL := Aside0.mk hl
  have HE := Aside0.mk hE
  have HS := Aside0.mk SL
  clear hl hE SL b1 hs
  generalize s / 2000 = q at *
  obtain ⟨q1, q2⟩ := hq
  obtain ⟨kx, hkx⟩ : ∃ x, knowsB l1 l2 e = x := ⟨_, rfl⟩
  obtain ⟨kr, hkr⟩ : ∃ x, knowsB a b e = x := ⟨_, rfl⟩
  obtain ⟨kt, hkt⟩ : ∃ x, knowsB c d e = x := ⟨_, rfl⟩
  obtain ⟨k1, hk1⟩ : ∃ x, knowsB a b q = x := ⟨_, rfl⟩
  obtain ⟨k2, hk2⟩ : ∃ x, knowsB c d q = x := ⟨_, rfl⟩
  obtain ⟨k3, hk3⟩ : ∃ x, knowsB c d (q + 2) = x := ⟨_, rfl⟩
  simp only [hkx, hkr, hkt, hk1, hk2, hk3] at X1 X2
  have KX := Aside0.mk hkx
  have KR := Aside0.mk hkr
  have KT := Aside0.mk hkt
  have K1 := Aside0.mk hk1
  have K2 := Aside0.mk hk2
  have K3 := Aside0.mk hk3
  have XX1 := Aside0.mk X1
  have XX2 := Aside0.mk X2
  clear hkx hkr hkt hk1 hk2 hk3 X1 X2
  have HW := Aside0.mk (MW.start w a b c d)
  go_enter Try.func6, Try.ntmps6
  go_wp2_with fail
  refine (head_c _).mono ?_
  rintro _ w1 ⟨rfl, hb⟩
  have HW1 := Aside0.mk (HW.out.step hb)
  clear HW hb
  go_wp2_with fail
  refine (HS.out _).mono ?_
  rintro _ w2 ⟨rfl, hb⟩
  have HW2 := Aside0.mk (HW1.out.step (Drawn0.below hb))
  clear HW1 hb
  go_wp2_with fail
  refine (epoch_g s _ _ HE.out).mono ?_
  rintro _ w3 ⟨rfl, hb⟩
  have HW3 := Aside0.mk (HW2.out.step hb)
  clear HW2 hb
  go_wp2_with fail
  obtain ⟨r0, r1, f0, f1⟩ := cells2 HW3.out.r
  obtain ⟨t0, t1, g0, g1⟩ := cells2 HW3.out.t
  have HK3 := HW3.out.b.size
  go_cut [12] (fun v12 w' => ∃ g, v12 = .pointer (some ⟨g, 0, none⟩) ∧ w'.heap[g]? = some (.cells #[.int .i64 l1, .int .i64 l2] 23 (0, 0)) ∧ MW w w' a b c d)
  case first =>
    have HD := HW3.out
    clear HW3
    go_region_held3 (fun w' => w'.cell? ⟨w.heap.size, 0, none⟩ = some (.int .i64 a) ∧ w'.cell? ⟨w.heap.size, 1, none⟩ = some (.int .i64 b) ∧ w'.cell? ⟨w.heap.size + 1, 0, none⟩ = some (.int .i64 c) ∧ w'.cell? ⟨w.heap.size + 1, 1, none⟩ = some (.int .i64 d))
      ((refine MW.toS ?_; first | assumption | exact MW.drew1 HD | exact MW.alloc HM5 _ | exact MW.alloc HM4 _ | exact MW.drew1 (MW.alloc HD _) | (refine MW.set (MW.set ?_ ?_) ?_ <;> first | assumption | exact MW.lt HM4 | exact MW.lt HD)))
      (first
        | (go_at_call 21; refine (HS.out _).mono ?_; rintro _ w4 ⟨rfl, hb⟩; replace hb := Drawn0.below hb; (first | (have HM4 := MW.step (MW.drew1 HD) hb) | (have HM4 := MW.step (MW.drew1 (MW.alloc HD _)) hb)); (first | (have HN4 : w4.heap[w3.heap.size]? = some (.cells #[.int .i64 0, .int .i64 0] 23 (0, 0)) := blk_below (blk_drew (blk_new _ _)) hb) | skip))
        | (go_at_call 17; refine (learn_c a b c d s _ _ HL.out).mono ?_; rintro _ w5 ⟨rfl, hb5⟩; (first | (have HM5 := MW.step HM4 hb5) | (have HM5 := MW.step (MW.alloc HM4 _) hb5)); (first | (have HN5 : w5.heap[w3.heap.size]? = some (.cells #[.int .i64 0, .int .i64 0] 23 (0, 0)) := blk_below HN4 hb5; obtain ⟨n0, n1, m0, m1⟩ := cells2 HN5) | (have HN5 : w5.heap[w4.heap.size]? = some (.cells #[.int .i64 0, .int .i64 0] 23 (0, 0)) := blk_below (blk_new _ _) hb5; obtain ⟨n0, n1, m0, m1⟩ := cells2 HN5) | skip)))
    · go_wp2_with fail
      go_meet
      case rel => exact ⟨_, rfl, blk_new _ _, MW.alloc HM5 _⟩
    · go_wp2_with fail
      go_meet
      case rel => exact ⟨_, rfl, blk_put (blk_put HN5 0 _ rfl) 1 _ rfl, MW.set (MW.set HM5 (MW.lt HM4)) (MW.lt HM4)⟩
    · go_wp2_with fail
      go_meet
      case rel => exact ⟨_, rfl, blk_put (blk_put HN5 0 _ rfl) 1 _ rfl, MW.set (MW.set HM5 (MW.lt HD)) (MW.lt HD)⟩
  case rest =>
    clear HW3
    obtain ⟨g, rfl, hg, hM⟩ := hcut
    have HG := Aside0.mk hg
    have HM := Aside0.mk hM
    clear hg hM r0 r1 f0 f1 t0 t1 g0 g1 HK3
    go_upto_region 4 with (fail)
    go_cut [13] (fun v13 w' => v13 = .bool (k1 && (k2 && !k3)) ∧ w'.heap[g]? = some (.cells #[.int .i64 l1, .int .i64 l2] 23 (0, 0)) ∧ MW w w' a b c d)
    case first =>
      obtain ⟨r0, r1, f0, f1⟩ := cells2 HM.out.r
      obtain ⟨t0, t1, g0, g1⟩ := cells2 HM.out.t
      go_wp2_with fail
      refine (knows_c a b q k1 _ K1.out).mono ?_
      rintro _ w4 ⟨rfl, hb⟩
      clear r0 r1 f0 f1 t0 t1 g0 g1
      have HG4 := Aside0.mk (blk_below HG.out hb)
      have HM4 := Aside0.mk (HM.out.step hb)
      clear HG HM hb
      obtain ⟨r0, r1, f0, f1⟩ := cells2 HM4.out.r
      obtain ⟨t0, t1, g0, g1⟩ := cells2 HM4.out.t
      cases k1
      · go_wp2_with fail
        go_meet
        case rel => exact ⟨rfl, HG4.out, HM4.out⟩
      · go_wp2_with fail
        refine (knows_c c d q k2 _ K2.out).mono ?_
        rintro _ w5 ⟨rfl, hb⟩
        clear r0 r1 f0 f1 t0 t1 g0 g1
        have HG5 := Aside0.mk (blk_below HG4.out hb)
        have HM5 := Aside0.mk (HM4.out.step hb)
        clear HG4 HM4 hb
        obtain ⟨r0, r1, f0, f1⟩ := cells2 HM5.out.r
        obtain ⟨t0, t1, g0, g1⟩ := cells2 HM5.out.t
        cases k2
        · go_wp2_with fail
          go_meet
          case rel => exact ⟨rfl, HG5.out, HM5.out⟩
        · go_wp2_with fail
          refine (knows_c c d (q + 2) k3 _ K3.out).mono ?_
          rintro _ w6 ⟨rfl, hb⟩
          clear r0 r1 f0 f1 t0 t1 g0 g1
          have HG6 := Aside0.mk (blk_below HG5.out hb)
          have HM6 := Aside0.mk (HM5.out.step hb)
          clear HG5 HM5 hb
          go_wp2_with fail
          go_meet
          case rel => exact ⟨rfl, HG6.out, HM6.out⟩
    case rest =>
      clear HG HM
      obtain ⟨rfl, hg, hM⟩ := hcut
      have HM := Aside0.mk (⟨hM, hg⟩ : MX w wc a b c d g l1 l2)
      clear hg hM
      have XX3 := XX1.out
      clear XX1
      generalize (k1 && (k2 && !k3)) = L at *
      have S : ∀ {f : FuncId} {args : Array Value} {v : Value}, (∀ w, Calls Try.prog f args w fun e w' => e = .returned v ∧ Below w.heap.size w w') → ∀ w', MX w w' a b c d g l1 l2 → Calls Try.prog f args w' fun e w'' => e = .returned v ∧ MX w w'' a b c d g l1 l2 :=
        fun h w' hw => (h w').mono fun e w'' k => ⟨k.1, hw.m.step k.2, blk_below hw.x k.2⟩
      have HD := (⟨HM.out.m.drew, HM.out.x⟩ : MX w { wc with drawn := wc.drawn + 1 } a b c d g l1 l2)
      have HDD := Aside0.mk HD
      clear HD HM
      have HX : ¬ (e ≤ q + 1) → kx = kr := fun h => XX2.out (by omega)
      clear XX2
      by_cases he : e ≤ q + 1
      case' pos => have hle : decide (e ≤ q + 1) = true := decide_eq_true he
      case' neg =>
        have hle : decide (e ≤ q + 1) = false := decide_eq_false he
        have hxr := HX he
      all_goals
        clear he HX
        rcases kr with _ | _
        rcases L with _ | _
      all_goals (simp only [Bool.false_or, Bool.true_or, Bool.false_and, Bool.true_and] at XX3; (try subst hxr); (try subst XX3))
      all_goals
        go_wp2_with fail
        refine region_quiet_lit (C := fun w' => MX w w' a b c d g l1 l2) HDD.out (by kernel_rfl) (by kernel_rfl) ?_
        repeat (first
          | go_big_quiet_skip
          | (go_big_quiet_want; first
            | (with_reducible refine quiet_load2 (i := 4) (fun w hw => hw.m.r) rfl ?_; simp only [Act.put, List.setIfInBounds_toArray, List.set_cons_zero, List.set_cons_succ]; go_big_quiet_on)
            | (with_reducible refine quiet_load2 (i := 5) (fun w hw => hw.m.t) rfl ?_; simp only [Act.put, List.setIfInBounds_toArray, List.set_cons_zero, List.set_cons_succ]; go_big_quiet_on)
            | (with_reducible refine quiet_load2 (i := 12) (fun w hw => hw.x) rfl ?_; simp only [Act.put, List.setIfInBounds_toArray, List.set_cons_zero, List.set_cons_succ]; go_big_quiet_on)
            | (go_big_quiet_op; first
              | go_big_quiet_on
              | (refine ⟨_, ⟨fun _ _ => rfl, ?_⟩⟩; go_big_quiet_on)
              | ((with_reducible refine ⟨_, ⟨S (fun w => knows_c l1 l2 e _ w KX.out), ?_⟩⟩); go_big_quiet_on)
              | ((with_reducible refine ⟨_, ⟨S (fun w => knows_c a b e _ w KR.out), ?_⟩⟩); go_big_quiet_on)
              | ((with_reducible refine ⟨_, ⟨S (fun w => knows_c c d e _ w KT.out), ?_⟩⟩); go_big_quiet_on))))
        refine wpQuiet_nil ?_
        intro w9 HW9
        go_wp2
        go_ret
        exact ⟨rfl, HW9.m.b⟩
theorem keyringLearning_any (a b c d n e : Int) (w : World) (wa : (Lit.int .i64 a).wf = true) (wb : (Lit.int .i64 b).wf = true) (wc : (Lit.int .i64 c).wf = true) (wd : (Lit.int .i64 d).wf = true) (wn : (Lit.int .u32 n).wf = true) (we : (Lit.int .i64 e).wf = true) :
    Calls Try.prog 6 #[.agg #[.int .i64 a, .int .i64 b], .agg #[.int .i64 c, .int .i64 d], .int .u32 n, .int .i64 e] w fun e w' => e = .returned (.bool true) ∧ Below w.heap.size w w' := learning_c a b c d n e w (wf_u32 wn)
end Go.Proofs.Ytcdiifjdbchclaa.P
