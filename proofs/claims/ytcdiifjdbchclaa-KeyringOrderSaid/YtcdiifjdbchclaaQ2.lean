/- KeyringOrder's contract. -/
import Derived.Test.YtcdiifjdbchclaaQ
import Derived.Laws.EntriesVeiled
namespace Go.Proofs.Ytcdiifjdbchclaa.P
open Go.RowKit Go.Proofs.YtcdiifjdbchclaaW.PrintWords Go.Proofs.YtcdiifjdbchclaaW.PrintLast Go.Proofs.YtcdiifjdbchclaaW.PrintMore
attribute [local go_sem] max2_int min2_int max_two min_two max_three min_three max_four min_four
set_option linter.unusedVariables false
set_option linter.unusedSimpArgs false

set_option maxHeartbeats 4000000 in
set_option maxRecDepth 100000 in
theorem told_c (a b c d n : Int) (g : Nat) (w : World) (hg : w.heap[g]? = some (.cells #[.int .i64 n] 3 (0, 0))) :
    Calls Try.prog 23 #[.agg #[.int .i64 a, .int .i64 b], .agg #[.int .i64 c, .int .i64 d], .pointer (some ⟨g, 0, none⟩)] w fun e w' => e = .returned (.agg #[.int .i64 (learnV a b c d n).1, .int .i64 (learnV a b c d n).2]) ∧ Below w.heap.size w w' := by
  have hc : (((w.alloc (.cells #[.int .i64 a, .int .i64 b] 23)).alloc (.cells #[.int .i64 c, .int .i64 d] 23)).alloc (.cells #[.int .i64 0, .int .i64 0] 23)).cell? ⟨g, 0, none⟩ = some (.int .i64 n) := (blk_cell (blk_alloc (blk_alloc (blk_alloc hg _) _) _) 0).trans rfl
  have HW := Aside0.mk (LW.start w a b c d)
  obtain ⟨l, hl⟩ : ∃ l, learnV a b c d n = l := ⟨_, rfl⟩
  rw [hl]
  have HL := Aside0.mk hl
  clear hg hl
  go_enter Try.func23, Try.ntmps23
  go_wp2_with fail
  refine (learn_c a b c d n _ l HL.out).mono ?_
  rintro _ w1 ⟨rfl, hb⟩
  have HW1 := Aside0.mk (HW.out.step hb)
  clear HW hb
  obtain ⟨o0, o1, p0, p1⟩ := cells2 HW1.out.o
  clear hc
  go_wp2_with fail
  have hB := HW1.out.b
  exact bodyPost_ret (v := .agg #[.int .i64 _, .int .i64 _]) (by simp [results, Try.results23, go_sem, *]) rfl ⟨rfl, ((hB.setCell (by simp; omega) _).setCell (by simp; omega) _)⟩
end Go.Proofs.Ytcdiifjdbchclaa.P
