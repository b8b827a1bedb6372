/- near: a ring that knows the epoch of a slot. -/
import Derived.Test.YtcdiifjdbchclaaN
namespace Go.Proofs.Ytcdiifjdbchclaa.P
open Go.RowKit Go.Proofs.YtcdiifjdbchclaaW.PrintWords Go.Proofs.YtcdiifjdbchclaaW.PrintLast Go.Proofs.YtcdiifjdbchclaaW.PrintMore
attribute [local go_sem] max2_int min2_int max_two min_two max_three min_three max_four min_four
set_option linter.unusedVariables false
set_option linter.unusedSimpArgs false

/-- What near returns, as the code reckons it. -/
def nearA (n b : Int) : Int := wrap64 (wrap64 (n.tdiv 2000) - (wrap64 b).tmod 4)
def nearF (n b : Int) : Int := if 0 < nearA n b then nearA n b else 0
def nearN (n : Int) (x : Bool) : Int := if x then wrap64 (wrap64 (wrap64 (n.tdiv 2000) + 1) + 1) else wrap64 (wrap64 (n.tdiv 2000) + 1)

set_option maxHeartbeats 4000000 in
set_option maxRecDepth 100000 in
theorem near_c (n b : Int) (x : Bool) (w : World) : Calls Try.prog 22 #[.int .i64 n, .int .u8 b, .bool x] w fun e w' => e = .returned (.agg #[.int .i64 (nearF n b), .int .i64 (nearN n x)]) ∧ Below w.heap.size w w' := by
  have HX0 := Aside0.mk (blk_new w (.cells #[.int .i64 0, .int .i64 0] 23))
  have HB0 := Aside0.mk ((Below.refl w.heap.size w).alloc (Nat.le_refl _) (.cells #[.int .i64 0, .int .i64 0] 23))
  unfold nearF nearA nearN
  rcases Bool.eq_false_or_eq_true x with hx | hx
  · subst hx
    by_cases hp : 0 < wrap64 (wrap64 (n.tdiv 2000) - (wrap64 b).tmod 4)
    · rw [if_pos hp]
      go_enter Try.func22, Try.ntmps22
      go_wp2_with fail
      refine (ring_c _ _ _).mono ?_
      rintro _ w1 ⟨rfl, hb⟩
      have HX1 := Aside0.mk (blk_below HX0.out hb)
      have HB1 := Aside0.mk (below_step HB0.out hb)
      clear HX0 HB0 hb
      have hs := blk_lt HX1.out
      have hs2 : w.heap.size ≤ w1.heap.size := Nat.le_of_lt hs
      obtain ⟨c0, c1, f0, f1⟩ := cells2 HX1.out
      go_wp2_with fail
      exact bodyPost_ret (v := .agg #[.int .i64 _, .int .i64 _]) (by simp [results, Try.results22, go_sem, *]) rfl ⟨rfl, ((HB1.out.setCell (Nat.le_refl _) _).setCell (Nat.le_refl _) _).alloc (by simpa using hs2) _⟩
    · rw [if_neg hp]
      go_enter Try.func22, Try.ntmps22
      go_wp2_with fail
      refine (ring_c _ _ _).mono ?_
      rintro _ w1 ⟨rfl, hb⟩
      have HX1 := Aside0.mk (blk_below HX0.out hb)
      have HB1 := Aside0.mk (below_step HB0.out hb)
      clear HX0 HB0 hb
      have hs := blk_lt HX1.out
      have hs2 : w.heap.size ≤ w1.heap.size := Nat.le_of_lt hs
      obtain ⟨c0, c1, f0, f1⟩ := cells2 HX1.out
      go_wp2_with fail
      exact bodyPost_ret (v := .agg #[.int .i64 _, .int .i64 _]) (by simp [results, Try.results22, go_sem, *]) rfl ⟨rfl, ((HB1.out.setCell (Nat.le_refl _) _).setCell (Nat.le_refl _) _).alloc (by simpa using hs2) _⟩
  · subst hx
    by_cases hp : 0 < wrap64 (wrap64 (n.tdiv 2000) - (wrap64 b).tmod 4)
    · rw [if_pos hp]
      go_enter Try.func22, Try.ntmps22
      go_wp2_with fail
      refine (ring_c _ _ _).mono ?_
      rintro _ w1 ⟨rfl, hb⟩
      have HX1 := Aside0.mk (blk_below HX0.out hb)
      have HB1 := Aside0.mk (below_step HB0.out hb)
      clear HX0 HB0 hb
      have hs := blk_lt HX1.out
      have hs2 : w.heap.size ≤ w1.heap.size := Nat.le_of_lt hs
      obtain ⟨c0, c1, f0, f1⟩ := cells2 HX1.out
      go_wp2_with fail
      exact bodyPost_ret (v := .agg #[.int .i64 _, .int .i64 _]) (by simp [results, Try.results22, go_sem, *]) rfl ⟨rfl, ((HB1.out.setCell (Nat.le_refl _) _).setCell (Nat.le_refl _) _).alloc (by simpa using hs2) _⟩
    · rw [if_neg hp]
      go_enter Try.func22, Try.ntmps22
      go_wp2_with fail
      refine (ring_c _ _ _).mono ?_
      rintro _ w1 ⟨rfl, hb⟩
      have HX1 := Aside0.mk (blk_below HX0.out hb)
      have HB1 := Aside0.mk (below_step HB0.out hb)
      clear HX0 HB0 hb
      have hs := blk_lt HX1.out
      have hs2 : w.heap.size ≤ w1.heap.size := Nat.le_of_lt hs
      obtain ⟨c0, c1, f0, f1⟩ := cells2 HX1.out
      go_wp2_with fail
      exact bodyPost_ret (v := .agg #[.int .i64 _, .int .i64 _]) (by simp [results, Try.results22, go_sem, *]) rfl ⟨rfl, ((HB1.out.setCell (Nat.le_refl _) _).setCell (Nat.le_refl _) _).alloc (by simpa using hs2) _⟩
end Go.Proofs.Ytcdiifjdbchclaa.P
