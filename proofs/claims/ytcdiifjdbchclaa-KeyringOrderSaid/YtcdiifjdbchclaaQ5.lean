/- KeyringOrder's contract. -/
import Derived.Test.YtcdiifjdbchclaaQ3
namespace Go.Proofs.Ytcdiifjdbchclaa.P
open Go.RowKit Go.Proofs.YtcdiifjdbchclaaW.PrintWords Go.Proofs.YtcdiifjdbchclaaW.PrintLast Go.Proofs.YtcdiifjdbchclaaW.PrintMore
open Go.BigFrame
attribute [local go_sem] max2_int min2_int max_two min_two max_three min_three max_four min_four
set_option linter.unusedVariables false
set_option linter.unusedSimpArgs false
attribute [local go_sem high] eqA23

/-- The frame, with the slots that the region sets read from V. -/
def act3 (c : OP) (V : Nat → Value) : Act := { tmps := #[.int .u32 c.n, .agg #[.int .u8 c.b0, .int .u8 c.b1, .int .u8 c.b2], .agg #[.bool c.x0, .bool c.x1, .bool c.x2], undef, ptrV c.h 0, ptrV (c.h + 1) 0, .bool false, .bool true, ptrV c.g 0, V 9, V 10, V 11, undef, undef, .bool true, .int .u32 c.n, .int .i64 c.s, V 17, V 18, V 19, V 20, V 21, V 22, V 23, V 24, V 25, V 26, V 27, V 28, V 29, V 30, V 31, V 32, V 33, V 34, undef, undef, undef, undef, undef, undef, undef, undef, undef, undef, undef, undef, undef, undef, undef, undef, undef, undef, undef, undef, undef, undef, undef, undef, undef, undef, undef, undef, undef, undef, undef, undef, undef, undef, undef, undef, undef, undef, undef, undef, undef, undef, undef, undef, undef, undef, undef, undef, undef, undef, undef, undef], defers := [] }
/-- Each operation waits for earlier ones alone. -/
def ordB (ops : Array Oper) : Bool := (List.range ops.size).all fun i => match ops[i]? with
  | some o => o.after.all fun e => decide (e.on < i)
  | none => true
theorem ordB_spec {ops : Array Oper} (h : ordB ops = true) : ∀ (i : Nat) (o : Oper), ops[i]? = some o → ∀ e ∈ o.after, e.on < i := by
  intro i o hi e he
  unfold ordB at h
  rw [List.all_eq_true] at h
  have hlt : i < ops.size := (Array.getElem?_eq_some_iff.mp hi).1
  have := h i (List.mem_range.mpr hlt)
  rw [hi] at this
  simp only [] at this
  rw [Array.all_eq_true_iff_forall_mem] at this
  exact of_decide_eq_true (this e he)
theorem wp_val {P : Program} {o : Oper} {a : Act} {w w' : World} {K : Act → World → Prop} {Q : Exit → Act → World → Prop} {v : Value} (h : (execOp a.eval o).run P w = .ok (.value v) w') (hk : K (a.put o.dst v) w') : o.wp P a w K Q := by
  unfold Oper.wp; rw [h]; exact hk
theorem wp_call {P : Program} {o : Oper} {a : Act} {w : World} {K : Act → World → Prop} {Q : Exit → Act → World → Prop} {f : FuncId} {args : Array Value} {v : Value} (h : (execOp a.eval o).run P w = .ok (.enter f args) w)
    (hc : Calls P f args w fun e w' => e = .returned v ∧ Below w.heap.size w w') (hk : ∀ w', Below w.heap.size w w' → K (a.put o.dst v) w') : o.wp P a w K Q := by
  unfold Oper.wp; rw [h, Oper.upon_enter]
  refine hc.mono ?_
  rintro _ w' ⟨rfl, hb⟩
  exact hk w' hb
theorem wp_skip {P : Program} {o : Oper} {a : Act} {w w' : World} {K : Act → World → Prop} {Q : Exit → Act → World → Prop} (h : (execOp a.eval o).run P w = .ok .skip w') (hk : K a w') (hd : o.dst = none := by rfl) : o.wp P a w K Q := by
  unfold Oper.wp; rw [h, Oper.upon_skip, hd]; exact hk
def I3 (c : OP) (w0 : World) (B : Nat) (L : Nat → Bool) (a : Act) (w : World) : Prop := ∃ V, a = act3 c V ∧ R3 c w0 B L V w

/-- What is kept while the closure is called. -/
structure OC (w w' : World) (g s k0 k1 k2 k3 : Nat) (si p00 p01 p10 p11 p20 p21 ab0 ab1 : Int) : Prop where
  n : w'.heap[g]? = some (.cells #[.int .i64 si] 3 (0, 0))
  a : w'.heap[k0]? = some (.cells #[.int .i64 p00, .int .i64 p01] 23 (0, 0))
  b : w'.heap[k1]? = some (.cells #[.int .i64 p10, .int .i64 p11] 23 (0, 0))
  c : w'.heap[k2]? = some (.cells #[.int .i64 p20, .int .i64 p21] 23 (0, 0))
  d : w'.heap[k3]? = some (.cells #[.int .i64 ab0, .int .i64 ab1] 23 (0, 0))
  w : Below w.heap.size w w'
theorem OC.step {w w1 w2 : World} {g s k0 k1 k2 k3 : Nat} {si p00 p01 p10 p11 p20 p21 ab0 ab1 : Int} (h : OC w w1 g s k0 k1 k2 k3 si p00 p01 p10 p11 p20 p21 ab0 ab1) (k : Below w1.heap.size w1 w2) : OC w w2 g s k0 k1 k2 k3 si p00 p01 p10 p11 p20 p21 ab0 ab1 :=
  ⟨blk_below h.n k, blk_below h.a k, blk_below h.b k, blk_below h.c k, blk_below h.d k, below_step h.w k⟩
theorem OC.start {w w3 w4 : World} {b0 b1 b2 : Int} {x0 x1 x2 : Bool} {g k0 k1 k2 : Nat} {si p00 p01 p10 p11 p20 p21 : Int} (hA : AW w w3 b0 b1 b2 x0 x1 x2) (hN : w3.heap[g]? = some (.cells #[.int .i64 si] 3 (0, 0)))
    (h0 : w3.heap[k0]? = some (.cells #[.int .i64 p00, .int .i64 p01] 23 (0, 0))) (h1 : w3.heap[k1]? = some (.cells #[.int .i64 p10, .int .i64 p11] 23 (0, 0))) (h2 : w3.heap[k2]? = some (.cells #[.int .i64 p20, .int .i64 p21] 23 (0, 0)))
    (k : Below w3.heap.size w3 w4) (ab0 ab1 : Int) : OC w (w4.alloc (.cells #[.int .i64 ab0, .int .i64 ab1] 23)) g 0 k0 k1 k2 w4.heap.size si p00 p01 p10 p11 p20 p21 ab0 ab1 := by
  have q : Below w4.heap.size w4 (w4.alloc (.cells #[.int .i64 ab0, .int .i64 ab1] 23)) := (Below.refl _ w4).alloc (Nat.le_refl _) _
  exact ⟨blk_below (blk_below hN k) q, blk_below (blk_below h0 k) q, blk_below (blk_below h1 k) q, blk_below (blk_below h2 k) q, blk_new w4 _, below_step (below_step hA.b k) q⟩
/-- A ring that knows the epoch q, and at most the next one after it. -/
def RG (q a b : Int) : Prop := 0 ≤ a ∧ a ≤ q ∧ q + 1 ≤ b ∧ b ≤ q + 2
theorem near_rg (s b : Int) (x : Bool) (hs : 0 ≤ s ∧ s < 999996000) (hb : 0 ≤ b ∧ b < 256) : RG (s / 2000) (nearF s b) (nearN s x) := by
  have e1 : s.tdiv 2000 = s / 2000 := Int.tdiv_eq_ediv_of_nonneg hs.1
  have e2 : wrap64 b = b := w64 (by omega)
  have e3 : b.tmod 4 = b % 4 := Int.tmod_eq_emod_of_nonneg hb.1
  have e4 : wrap64 (s / 2000) = s / 2000 := w64 (by omega)
  have e5 : nearA s b = s / 2000 - b % 4 := by unfold nearA; rw [e1, e2, e3, e4]; exact w64 (by omega)
  have e6 : wrap64 (s / 2000 + 1) = s / 2000 + 1 := w64 (by omega)
  have e7 : wrap64 (s / 2000 + 1 + 1) = s / 2000 + 1 + 1 := w64 (by omega)
  unfold RG nearF nearN
  rw [e5, e1, e4, e6, e7]
  cases x
  · split <;> (simp only [Bool.false_eq_true, if_false]; omega)
  · split <;> (simp only [if_true]; omega)
theorem learn_rg {s a b c d : Int} (hs : 0 ≤ s ∧ s < 999996000) (h1 : RG (s / 2000) a b) (h2 : RG (s / 2000) c d) : learnV a b c d s = (mn a c, mx b d) := by
  unfold RG at h1 h2
  unfold learnV
  have v1 : knowsB a b (s / 2000) = true := by simp [knowsB, validB]; omega
  have v2 : knowsB c d (s / 2000) = true := by simp [knowsB, validB]; omega
  have v3 : slotB s = true := by simp [slotB]; omega
  rw [v1, v2, v3]
  rw [if_pos (by simp; omega)]
theorem rg_join {q a b c d : Int} (h1 : RG q a b) (h2 : RG q c d) : RG q (mn a c) (mx b d) := by
  unfold RG at *
  unfold mn mx
  repeat' split
  all_goals omega
theorem mn_comm (a b : Int) : mn a b = mn b a := by
  unfold mn
  (repeat' split) <;> omega
theorem mx_comm (a b : Int) : mx a b = mx b a := by
  unfold mx
  (repeat' split) <;> omega
theorem mn_alg (a b c : Int) : mn (mn a b) b = mn a b ∧ mn (mn a b) a = mn a b ∧ mn (mn a b) c = mn (mn a c) b ∧ mn a a = a := by
  unfold mn
  refine ⟨?_, ?_, ?_, ?_⟩ <;> (repeat' split) <;> omega
theorem mx_alg (a b c : Int) : mx (mx a b) b = mx a b ∧ mx (mx a b) a = mx a b ∧ mx (mx a b) c = mx (mx a c) b ∧ mx a a = a := by
  unfold mx
  refine ⟨?_, ?_, ?_, ?_⟩ <;> (repeat' split) <;> omega
/-- Learning among rings near a slot. -/
theorem order_facts (s b0 b1 b2 : Int) (x0 x1 x2 : Bool) (hs : 0 ≤ s ∧ s < 999996000) (h0 : 0 ≤ b0 ∧ b0 < 256) (h1 : 0 ≤ b1 ∧ b1 < 256) (h2 : 0 ≤ b2 ∧ b2 < 256) : ∃ c d : Int,
    learnV (nearF s b0) (nearN s x0) (nearF s b1) (nearN s x1) s = (c, d) ∧
    learnV (nearF s b1) (nearN s x1) (nearF s b0) (nearN s x0) s = (c, d) ∧
    learnV c d (nearF s b1) (nearN s x1) s = (c, d) ∧
    learnV c d (nearF s b0) (nearN s x0) s = (c, d) ∧
    learnV c d (nearF s b2) (nearN s x2) s = learnV (learnV (nearF s b0) (nearN s x0) (nearF s b2) (nearN s x2) s).1 (learnV (nearF s b0) (nearN s x0) (nearF s b2) (nearN s x2) s).2 (nearF s b1) (nearN s x1) s ∧
    learnV (nearF s b0) (nearN s x0) (nearF s b0) (nearN s x0) s = ((nearF s b0), (nearN s x0)) := by
  have r0 := near_rg s b0 x0 hs h0
  have r1 := near_rg s b1 x1 hs h1
  have r2 := near_rg s b2 x2 hs h2
  generalize nearF s b0 = p00 at *
  generalize nearN s x0 = p01 at *
  generalize nearF s b1 = p10 at *
  generalize nearN s x1 = p11 at *
  generalize nearF s b2 = p20 at *
  generalize nearN s x2 = p21 at *
  have j01 := rg_join r0 r1
  have j02 := rg_join r0 r2
  obtain ⟨m1, m2, m3, m4⟩ := mn_alg p00 p10 p20
  obtain ⟨n1, n2, n3, n4⟩ := mx_alg p01 p11 p21
  refine ⟨mn p00 p10, mx p01 p11, learn_rg hs r0 r1, ?_, ?_, ?_, ?_, ?_⟩
  · rw [learn_rg hs r1 r0, mn_comm p10, mx_comm p11]
  · rw [learn_rg hs j01 r1, m1, n1]
  · rw [learn_rg hs j01 r0, m2, n2]
  · rw [learn_rg hs r0 r2, learn_rg hs j01 r2, learn_rg hs j02 r1, m3, n3]
  · rw [learn_rg hs r0 r0, m4, n4]

set_option maxHeartbeats 4000000 in
set_option maxRecDepth 100000 in
theorem order_c (n : Int) (b0 b1 b2 : Int) (x0 x1 x2 : Bool) (w : World) (hn : 0 ≤ n ∧ n < 4294967296) (hb0 : 0 ≤ b0 ∧ b0 < 256) (hb1 : 0 ≤ b1 ∧ b1 < 256) (hb2 : 0 ≤ b2 ∧ b2 < 256) : Calls Try.prog 7 #[.int .u32 n, .agg #[.int .u8 b0, .int .u8 b1, .int .u8 b2], .agg #[.bool x0, .bool x1, .bool x2]] w fun e w' => e = .returned (.bool true) ∧ Below w.heap.size w w' := by
  have HS := Aside0.mk hn
  have HB0 := Aside0.mk hb0
  have HB1 := Aside0.mk hb1
  have HB2 := Aside0.mk hb2
  clear hb0 hb1 hb2
  have HW := Aside0.mk (AW.start w b0 b1 b2 x0 x1 x2)
  clear hn
  go_enter Try.func7, Try.ntmps7
  go_wp2_with fail
  refine (head_c _).mono ?_
  rintro _ w1 ⟨rfl, hb⟩
  have HW1 := Aside0.mk (HW.out.step hb)
  clear HW hb
  go_wp2_with fail
  refine (slot_c n _ HS.out).mono ?_
  rintro _ w2 ⟨rfl, hb⟩
  have HW2 := Aside0.mk (HW1.out.step (Drawn0.below hb))
  clear HW1 hb
  have hsl : 0 ≤ n % 999996000 ∧ n % 999996000 < 999996000 := by have := HS.out; omega
  generalize n % 999996000 = s at *
  have HSL := Aside0.mk hsl
  clear hsl
  go_wp2_with fail
  have hgB := blk_lt HW2.out.t
  refine wp_region_inv (I3 ⟨n, s, b0, b1, b2, x0, x1, x2, w.heap.size, w2.heap.size⟩ w (w2.heap.size + 1)) (by kernel_rfl) (ordB_spec (by kernel_rfl)) ?_ ?_ ?_
  · intro L hL
    refine ⟨fun _ => undef, rfl, ?_⟩
    have hA := HW2.out.alloc (.cells #[.int .i64 s] 3)
    have hN := blk_new w2 (.cells #[.int .i64 s] 3)
    exact ⟨hA.step (Below.refl _ _).drew, hN, rfl, hgB, by show w2.heap.size < w2.heap.size + 1; omega, by simp, fun i hi hl => absurd hl (by rw [hL i (by show i < 24; omega)]; simp), fun j hj hl => absurd hl (by rw [hL (18 + j) (by show 18 + j < 24; omega)]; simp),
      fun j j' k k' hj hj' _ hl => absurd hl (by rw [hL (18 + j) (by show 18 + j < 24; omega)]; simp), fun j hj hl => absurd hl (by rw [hL (21 + j) (by show 21 + j < 24; omega)]; simp)⟩
  · generalize (⟨n, s, b0, b1, b2, x0, x1, x2, w.heap.size, w2.heap.size⟩ : OP) = c
    generalize w2.heap.size + 1 = B
    rintro L a w' ⟨V, rfl, R⟩ i o hi hL haft
    obtain ⟨hlt, rfl⟩ := Array.getElem?_eq_some_iff.mp hi
    have hi24 : i < 24 := hlt
    have cases24 : i = 0 ∨ i = 1 ∨ i = 2 ∨ i = 3 ∨ i = 4 ∨ i = 5 ∨ i = 6 ∨ i = 7 ∨ i = 8 ∨ i = 9 ∨ i = 10 ∨ i = 11 ∨ i = 12 ∨ i = 13 ∨ i = 14 ∨ i = 15 ∨ i = 16 ∨ i = 17 ∨ i = 18 ∨ i = 19 ∨ i = 20 ∨ i = 21 ∨ i = 22 ∨ i = 23 := by omega
    rcases cases24 with rfl | rfl | rfl | rfl | rfl | rfl | rfl | rfl | rfl | rfl | rfl | rfl | rfl | rfl | rfl | rfl | rfl | rfl | rfl | rfl | rfl | rfl | rfl | rfl
    · -- operation 0
      have hc : w'.cell? ⟨c.g, 0, none⟩ = some (.int .i64 c.s) := (blk_cell R.nb 0).trans rfl
      refine wpOp_of_list (by rfl) (by rfl) (wp_val (v := c.e 0) (w' := w') ?_ ⟨upd V 17 (c.e 0), ?_, R.val_step (i := 0) (by omega) (Below.refl _ _) _ rfl⟩)
      · simp [execOp, act3, Act.eval, go_sem, ptrV, OP.e, hc]
      · simp [act3, Act.put, upd]
    · -- operation 1
      refine wpOp_of_list (by rfl) (by rfl) (wp_val (v := c.e 1) (w' := w') ?_ ⟨upd V 18 (c.e 1), ?_, R.val_step (i := 1) (by omega) (Below.refl _ _) _ rfl⟩)
      · simp [execOp, act3, Act.eval, go_sem, ptrV, OP.e, Try.underlying39, Try.underlying40]
      · simp [act3, Act.put, upd]
    · -- operation 2
      have l1 : L 1 = true := haft { on := 1, ground := .data } (by simp) rfl
      have v1 := R.val 1 (by omega) l1
      have hc : w'.cell? ⟨c.h, 0, none⟩ = some (.int .u8 c.b0) := by
        have := blk_cell R.aw.a 0
        rw [← R.hh] at this
        exact this.trans rfl
      refine wpOp_of_list (by rfl) (by rfl) (wp_val (v := c.e 2) (w' := w') ?_ ⟨upd V 19 (c.e 2), ?_, R.val_step (i := 2) (by omega) (Below.refl _ _) _ rfl⟩)
      · simp only [OP.e, ptrV] at v1
        simp [execOp, act3, Act.eval, go_sem, ptrV, OP.e, v1, hc]
      · simp [act3, Act.put, upd]
    · -- operation 3
      refine wpOp_of_list (by rfl) (by rfl) (wp_val (v := c.e 3) (w' := w') ?_ ⟨upd V 20 (c.e 3), ?_, R.val_step (i := 3) (by omega) (Below.refl _ _) _ rfl⟩)
      · simp [execOp, act3, Act.eval, go_sem, ptrV, OP.e, Try.underlying39, Try.underlying40]
      · simp [act3, Act.put, upd]
    · -- operation 4
      have l3 : L 3 = true := haft { on := 3, ground := .data } (by simp) rfl
      have v3 := R.val 3 (by omega) l3
      have hc : w'.cell? ⟨c.h + 1, 0, none⟩ = some (.bool c.x0) := by
        have := blk_cell R.aw.t 0
        rw [← R.hh] at this
        exact this.trans rfl
      refine wpOp_of_list (by rfl) (by rfl) (wp_val (v := c.e 4) (w' := w') ?_ ⟨upd V 21 (c.e 4), ?_, R.val_step (i := 4) (by omega) (Below.refl _ _) _ rfl⟩)
      · simp only [OP.e, ptrV] at v3
        simp [execOp, act3, Act.eval, go_sem, ptrV, OP.e, v3, hc]
      · simp [act3, Act.put, upd]
    · -- operation 5
      have l0 : L 0 = true := haft { on := 0, ground := .data } (by simp) rfl
      have v0 := R.val 0 (by omega) l0
      have l2 : L 2 = true := haft { on := 2, ground := .data } (by simp) rfl
      have v2 := R.val 2 (by omega) l2
      have l4 : L 4 = true := haft { on := 4, ground := .data } (by simp) rfl
      have v4 := R.val 4 (by omega) l4
      simp only [OP.e] at v0 v2 v4
      refine wpOp_of_list (by rfl) (by rfl) (wp_call (v := c.e 5) (f := 22) (args := #[.int .i64 c.s, .int .u8 c.b0, .bool c.x0]) ?_ (near_c c.s c.b0 c.x0 w') fun w'' hb => ⟨upd V 22 (c.e 5), ?_, R.val_step (i := 5) (by omega) hb _ rfl⟩)
      · simp [execOp, act3, Act.eval, go_sem, v0, v2, v4]
      · simp [act3, Act.put, upd]
    · -- operation 6
      have hc : w'.cell? ⟨c.g, 0, none⟩ = some (.int .i64 c.s) := (blk_cell R.nb 0).trans rfl
      refine wpOp_of_list (by rfl) (by rfl) (wp_val (v := c.e 6) (w' := w') ?_ ⟨upd V 23 (c.e 6), ?_, R.val_step (i := 6) (by omega) (Below.refl _ _) _ rfl⟩)
      · simp [execOp, act3, Act.eval, go_sem, ptrV, OP.e, hc]
      · simp [act3, Act.put, upd]
    · -- operation 7
      refine wpOp_of_list (by rfl) (by rfl) (wp_val (v := c.e 7) (w' := w') ?_ ⟨upd V 24 (c.e 7), ?_, R.val_step (i := 7) (by omega) (Below.refl _ _) _ rfl⟩)
      · simp [execOp, act3, Act.eval, go_sem, ptrV, OP.e, Try.underlying39, Try.underlying40]
      · simp [act3, Act.put, upd]
    · -- operation 8
      have l7 : L 7 = true := haft { on := 7, ground := .data } (by simp) rfl
      have v7 := R.val 7 (by omega) l7
      have hc : w'.cell? ⟨c.h, 1, none⟩ = some (.int .u8 c.b1) := by
        have := blk_cell R.aw.a 1
        rw [← R.hh] at this
        exact this.trans rfl
      refine wpOp_of_list (by rfl) (by rfl) (wp_val (v := c.e 8) (w' := w') ?_ ⟨upd V 25 (c.e 8), ?_, R.val_step (i := 8) (by omega) (Below.refl _ _) _ rfl⟩)
      · simp only [OP.e, ptrV] at v7
        simp [execOp, act3, Act.eval, go_sem, ptrV, OP.e, v7, hc]
      · simp [act3, Act.put, upd]
    · -- operation 9
      refine wpOp_of_list (by rfl) (by rfl) (wp_val (v := c.e 9) (w' := w') ?_ ⟨upd V 26 (c.e 9), ?_, R.val_step (i := 9) (by omega) (Below.refl _ _) _ rfl⟩)
      · simp [execOp, act3, Act.eval, go_sem, ptrV, OP.e, Try.underlying39, Try.underlying40]
      · simp [act3, Act.put, upd]
    · -- operation 10
      have l9 : L 9 = true := haft { on := 9, ground := .data } (by simp) rfl
      have v9 := R.val 9 (by omega) l9
      have hc : w'.cell? ⟨c.h + 1, 1, none⟩ = some (.bool c.x1) := by
        have := blk_cell R.aw.t 1
        rw [← R.hh] at this
        exact this.trans rfl
      refine wpOp_of_list (by rfl) (by rfl) (wp_val (v := c.e 10) (w' := w') ?_ ⟨upd V 27 (c.e 10), ?_, R.val_step (i := 10) (by omega) (Below.refl _ _) _ rfl⟩)
      · simp only [OP.e, ptrV] at v9
        simp [execOp, act3, Act.eval, go_sem, ptrV, OP.e, v9, hc]
      · simp [act3, Act.put, upd]
    · -- operation 11
      have l6 : L 6 = true := haft { on := 6, ground := .data } (by simp) rfl
      have v6 := R.val 6 (by omega) l6
      have l8 : L 8 = true := haft { on := 8, ground := .data } (by simp) rfl
      have v8 := R.val 8 (by omega) l8
      have l10 : L 10 = true := haft { on := 10, ground := .data } (by simp) rfl
      have v10 := R.val 10 (by omega) l10
      simp only [OP.e] at v6 v8 v10
      refine wpOp_of_list (by rfl) (by rfl) (wp_call (v := c.e 11) (f := 22) (args := #[.int .i64 c.s, .int .u8 c.b1, .bool c.x1]) ?_ (near_c c.s c.b1 c.x1 w') fun w'' hb => ⟨upd V 28 (c.e 11), ?_, R.val_step (i := 11) (by omega) hb _ rfl⟩)
      · simp [execOp, act3, Act.eval, go_sem, v6, v8, v10]
      · simp [act3, Act.put, upd]
    · -- operation 12
      have hc : w'.cell? ⟨c.g, 0, none⟩ = some (.int .i64 c.s) := (blk_cell R.nb 0).trans rfl
      refine wpOp_of_list (by rfl) (by rfl) (wp_val (v := c.e 12) (w' := w') ?_ ⟨upd V 29 (c.e 12), ?_, R.val_step (i := 12) (by omega) (Below.refl _ _) _ rfl⟩)
      · simp [execOp, act3, Act.eval, go_sem, ptrV, OP.e, hc]
      · simp [act3, Act.put, upd]
    · -- operation 13
      refine wpOp_of_list (by rfl) (by rfl) (wp_val (v := c.e 13) (w' := w') ?_ ⟨upd V 30 (c.e 13), ?_, R.val_step (i := 13) (by omega) (Below.refl _ _) _ rfl⟩)
      · simp [execOp, act3, Act.eval, go_sem, ptrV, OP.e, Try.underlying39, Try.underlying40]
      · simp [act3, Act.put, upd]
    · -- operation 14
      have l13 : L 13 = true := haft { on := 13, ground := .data } (by simp) rfl
      have v13 := R.val 13 (by omega) l13
      have hc : w'.cell? ⟨c.h, 2, none⟩ = some (.int .u8 c.b2) := by
        have := blk_cell R.aw.a 2
        rw [← R.hh] at this
        exact this.trans rfl
      refine wpOp_of_list (by rfl) (by rfl) (wp_val (v := c.e 14) (w' := w') ?_ ⟨upd V 31 (c.e 14), ?_, R.val_step (i := 14) (by omega) (Below.refl _ _) _ rfl⟩)
      · simp only [OP.e, ptrV] at v13
        simp [execOp, act3, Act.eval, go_sem, ptrV, OP.e, v13, hc]
      · simp [act3, Act.put, upd]
    · -- operation 15
      refine wpOp_of_list (by rfl) (by rfl) (wp_val (v := c.e 15) (w' := w') ?_ ⟨upd V 32 (c.e 15), ?_, R.val_step (i := 15) (by omega) (Below.refl _ _) _ rfl⟩)
      · simp [execOp, act3, Act.eval, go_sem, ptrV, OP.e, Try.underlying39, Try.underlying40]
      · simp [act3, Act.put, upd]
    · -- operation 16
      have l15 : L 15 = true := haft { on := 15, ground := .data } (by simp) rfl
      have v15 := R.val 15 (by omega) l15
      have hc : w'.cell? ⟨c.h + 1, 2, none⟩ = some (.bool c.x2) := by
        have := blk_cell R.aw.t 2
        rw [← R.hh] at this
        exact this.trans rfl
      refine wpOp_of_list (by rfl) (by rfl) (wp_val (v := c.e 16) (w' := w') ?_ ⟨upd V 33 (c.e 16), ?_, R.val_step (i := 16) (by omega) (Below.refl _ _) _ rfl⟩)
      · simp only [OP.e, ptrV] at v15
        simp [execOp, act3, Act.eval, go_sem, ptrV, OP.e, v15, hc]
      · simp [act3, Act.put, upd]
    · -- operation 17
      have l12 : L 12 = true := haft { on := 12, ground := .data } (by simp) rfl
      have v12 := R.val 12 (by omega) l12
      have l14 : L 14 = true := haft { on := 14, ground := .data } (by simp) rfl
      have v14 := R.val 14 (by omega) l14
      have l16 : L 16 = true := haft { on := 16, ground := .data } (by simp) rfl
      have v16 := R.val 16 (by omega) l16
      simp only [OP.e] at v12 v14 v16
      refine wpOp_of_list (by rfl) (by rfl) (wp_call (v := c.e 17) (f := 22) (args := #[.int .i64 c.s, .int .u8 c.b2, .bool c.x2]) ?_ (near_c c.s c.b2 c.x2 w') fun w'' hb => ⟨upd V 34 (c.e 17), ?_, R.val_step (i := 17) (by omega) hb _ rfl⟩)
      · simp [execOp, act3, Act.eval, go_sem, v12, v14, v16]
      · simp [act3, Act.put, upd]
    · -- operation 18
      refine wpOp_of_list (by rfl) (by rfl) (wp_val (v := ptrV w'.heap.size 0) (w' := w'.alloc (ringC (0, 0))) ?_ ⟨upd V 9 (ptrV w'.heap.size 0), ?_, R.alloc_step (j := 0) (by omega) hL⟩)
      · simp [execOp, act3, Act.eval, go_sem, ptrV, ringC]
      · simp [act3, Act.put, upd]
    · -- operation 19
      refine wpOp_of_list (by rfl) (by rfl) (wp_val (v := ptrV w'.heap.size 0) (w' := w'.alloc (ringC (0, 0))) ?_ ⟨upd V 10 (ptrV w'.heap.size 0), ?_, R.alloc_step (j := 1) (by omega) hL⟩)
      · simp [execOp, act3, Act.eval, go_sem, ptrV, ringC]
      · simp [act3, Act.put, upd]
    · -- operation 20
      refine wpOp_of_list (by rfl) (by rfl) (wp_val (v := ptrV w'.heap.size 0) (w' := w'.alloc (ringC (0, 0))) ?_ ⟨upd V 11 (ptrV w'.heap.size 0), ?_, R.alloc_step (j := 2) (by omega) hL⟩)
      · simp [execOp, act3, Act.eval, go_sem, ptrV, ringC]
      · simp [act3, Act.put, upd]
    · -- operation 21
      have l5 : L 5 = true := haft { on := 5, ground := .data } (by simp) rfl
      have v5 := R.val 5 (by omega) l5
      have l18 : L 18 = true := haft { on := 18, ground := .data } (by simp) rfl
      obtain ⟨k, hk, hkB, hkh⟩ := R.blk 0 (by omega) l18
      have hk' : V 9 = ptrV k 0 := hk
      obtain ⟨z0, z1, f0, f1⟩ := cells2 hkh
      simp only [OP.e, ringV] at v5
      refine wpOp_of_list (by rfl) (by rfl) ?_
      have HK : I3 c w B (fun m => m == 21 || L m) (act3 c V) ((w'.setCell ⟨k, 0, none⟩ (.int .i64 (c.p 0).1)).setCell ⟨k, 1, none⟩ (.int .i64 (c.p 0).2)) := ⟨V, rfl, R.store_step (j := 0) (by omega) l18 hk'⟩
      generalize I3 c w B (fun m => m == 21 || L m) = KK at HK ⊢
      unfold ptrV at hk'
      refine wp_skip ?_ HK
      simp [execOp, act3, Act.eval, go_sem, v5, hk', z0, z1, f0, f1]
    · -- operation 22
      have l11 : L 11 = true := haft { on := 11, ground := .data } (by simp) rfl
      have v11 := R.val 11 (by omega) l11
      have l19 : L 19 = true := haft { on := 19, ground := .data } (by simp) rfl
      obtain ⟨k, hk, hkB, hkh⟩ := R.blk 1 (by omega) l19
      have hk' : V 10 = ptrV k 0 := hk
      obtain ⟨z0, z1, f0, f1⟩ := cells2 hkh
      simp only [OP.e, ringV] at v11
      refine wpOp_of_list (by rfl) (by rfl) ?_
      have HK : I3 c w B (fun m => m == 22 || L m) (act3 c V) ((w'.setCell ⟨k, 0, none⟩ (.int .i64 (c.p 1).1)).setCell ⟨k, 1, none⟩ (.int .i64 (c.p 1).2)) := ⟨V, rfl, R.store_step (j := 1) (by omega) l19 hk'⟩
      generalize I3 c w B (fun m => m == 22 || L m) = KK at HK ⊢
      unfold ptrV at hk'
      refine wp_skip ?_ HK
      simp [execOp, act3, Act.eval, go_sem, v11, hk', z0, z1, f0, f1]
    · -- operation 23
      have l17 : L 17 = true := haft { on := 17, ground := .data } (by simp) rfl
      have v17 := R.val 17 (by omega) l17
      have l20 : L 20 = true := haft { on := 20, ground := .data } (by simp) rfl
      obtain ⟨k, hk, hkB, hkh⟩ := R.blk 2 (by omega) l20
      have hk' : V 11 = ptrV k 0 := hk
      obtain ⟨z0, z1, f0, f1⟩ := cells2 hkh
      simp only [OP.e, ringV] at v17
      refine wpOp_of_list (by rfl) (by rfl) ?_
      have HK : I3 c w B (fun m => m == 23 || L m) (act3 c V) ((w'.setCell ⟨k, 0, none⟩ (.int .i64 (c.p 2).1)).setCell ⟨k, 1, none⟩ (.int .i64 (c.p 2).2)) := ⟨V, rfl, R.store_step (j := 2) (by omega) l20 hk'⟩
      generalize I3 c w B (fun m => m == 23 || L m) = KK at HK ⊢
      unfold ptrV at hk'
      refine wp_skip ?_ HK
      simp [execOp, act3, Act.eval, go_sem, v17, hk', z0, z1, f0, f1]
  · rintro L a w3 ⟨V, rfl, R⟩ hall
    have hL : ∀ i, i < 24 → L i = true := hall
    obtain ⟨k0, e0, q0, h0⟩ := R.blk 0 (by omega) (hL 18 (by omega))
    obtain ⟨k1, e1, q1, h1⟩ := R.blk 1 (by omega) (hL 19 (by omega))
    obtain ⟨k2, e2, q2, h2⟩ := R.blk 2 (by omega) (hL 20 (by omega))
    rw [if_pos (hL 21 (by omega))] at h0
    rw [if_pos (hL 22 (by omega))] at h1
    rw [if_pos (hL 23 (by omega))] at h2
    have HA := Aside0.mk R.aw
    have HN := Aside0.mk R.nb
    have H0 := Aside0.mk h0
    have H1 := Aside0.mk h1
    have H2 := Aside0.mk h2
    have e0' : V 9 = ptrV k0 0 := e0
    have e1' : V 10 = ptrV k1 0 := e1
    have e2' : V 11 = ptrV k2 0 := e2
    unfold act3
    rw [e0', e1', e2']
    clear R hall hL h0 h1 h2 e0 e1 e2 e0' e1' e2'
    generalize V 17 = u17
    generalize V 18 = u18
    generalize V 19 = u19
    generalize V 20 = u20
    generalize V 21 = u21
    generalize V 22 = u22
    generalize V 23 = u23
    generalize V 24 = u24
    generalize V 25 = u25
    generalize V 26 = u26
    generalize V 27 = u27
    generalize V 28 = u28
    generalize V 29 = u29
    generalize V 30 = u30
    generalize V 31 = u31
    generalize V 32 = u32
    generalize V 33 = u33
    generalize V 34 = u34
    simp only [ptrV]
    unfold ringC at H0 H1 H2
    have hp := order_facts s b0 b1 b2 x0 x1 x2 HSL.out HB0.out HB1.out HB2.out
    simp only [OP.p] at H0 H1 H2
    generalize nearF s b0 = p00 at *
    generalize nearN s x0 = p01 at *
    generalize nearF s b1 = p10 at *
    generalize nearN s x1 = p11 at *
    generalize nearF s b2 = p20 at *
    generalize nearN s x2 = p21 at *
    obtain ⟨ab0, ab1, hab, hba, habb, haba, hcc, haa⟩ := hp
    have HAB := Aside0.mk hab
    have HBA := Aside0.mk hba
    have HABB := Aside0.mk habb
    have HABA := Aside0.mk haba
    have HCC := Aside0.mk hcc
    have HAA := Aside0.mk haa
    clear hab hba habb haba hcc haa
    obtain ⟨c00, c01, f00, f01⟩ := cells2 H0.out
    obtain ⟨c10, c11, f10, f11⟩ := cells2 H1.out
    go_wp2_with fail
    refine (told_c p00 p01 p10 p11 s w2.heap.size _ HN.out).mono ?_
    rintro _ w4 ⟨rfl, hb⟩
    rw [HAB.out]
    have HO := Aside0.mk (OC.start HA.out HN.out H0.out H1.out H2.out hb ab0 ab1)
    clear c00 c01 f00 f01 c10 c11 f10 f11 HA HN H0 H1 H2 hb
    go_wp2_with fail
    obtain ⟨y, hy⟩ : ∃ y, learnV p00 p01 p20 p21 s = y := ⟨_, rfl⟩
    obtain ⟨y0, y1⟩ := y
    obtain ⟨z, hz⟩ : ∃ z, learnV ab0 ab1 p20 p21 s = z := ⟨_, rfl⟩
    obtain ⟨z0, z1⟩ := z
    have hyz := HCC.out
    rw [hz, hy] at hyz
    have HY := Aside0.mk hy
    have HZ := Aside0.mk hz
    have HYZ := Aside0.mk hyz.symm
    clear hy hz hyz
    have T : ∀ {x0 x1 y0 y1 r0 r1 : Int}, learnV x0 x1 y0 y1 s = (r0, r1) → ∀ w', OC w w' w2.heap.size 0 k0 k1 k2 w4.heap.size s p00 p01 p10 p11 p20 p21 ab0 ab1 →
        Calls Try.prog 23 #[.agg #[.int .i64 x0, .int .i64 x1], .agg #[.int .i64 y0, .int .i64 y1], .pointer (some ⟨w2.heap.size, 0, none⟩)] w' fun e w'' => e = .returned (.agg #[.int .i64 r0, .int .i64 r1]) ∧ OC w w'' w2.heap.size 0 k0 k1 k2 w4.heap.size s p00 p01 p10 p11 p20 p21 ab0 ab1 := fun hl w' hw =>
      (told_c _ _ _ _ s _ w' hw.n).mono fun e w'' k => ⟨by rw [k.1, hl], hw.step k.2⟩
    refine region_quiet_lit (C := fun w' => OC w w' w2.heap.size 0 k0 k1 k2 w4.heap.size s p00 p01 p10 p11 p20 p21 ab0 ab1) (HO.out.step (Below.refl _ _).drew) (by kernel_rfl) (by kernel_rfl) ?_
    repeat (first
      | go_big_quiet_skip
      | (go_big_quiet_want; first
        | (with_reducible refine quiet_load2 (i := 9) (fun w hw => hw.a) rfl ?_; simp only [Act.put, List.setIfInBounds_toArray, List.set_cons_zero, List.set_cons_succ]; go_big_quiet_on)
        | (with_reducible refine quiet_load2 (i := 10) (fun w hw => hw.b) rfl ?_; simp only [Act.put, List.setIfInBounds_toArray, List.set_cons_zero, List.set_cons_succ]; go_big_quiet_on)
        | (with_reducible refine quiet_load2 (i := 11) (fun w hw => hw.c) rfl ?_; simp only [Act.put, List.setIfInBounds_toArray, List.set_cons_zero, List.set_cons_succ]; go_big_quiet_on)
        | (with_reducible refine quiet_load2 (i := 13) (fun w hw => hw.d) rfl ?_; simp only [Act.put, List.setIfInBounds_toArray, List.set_cons_zero, List.set_cons_succ]; go_big_quiet_on)
        | (go_big_quiet_op; first
          | go_big_quiet_on
          | (refine ⟨_, ⟨fun _ _ => rfl, ?_⟩⟩; go_big_quiet_on)
          | (refine ⟨_, ⟨T HBA.out, ?_⟩⟩; go_big_quiet_on)
          | (refine ⟨_, ⟨T HABB.out, ?_⟩⟩; go_big_quiet_on)
          | (refine ⟨_, ⟨T HABA.out, ?_⟩⟩; go_big_quiet_on)
          | (refine ⟨_, ⟨T HZ.out, ?_⟩⟩; go_big_quiet_on)
          | (refine ⟨_, ⟨T HY.out, ?_⟩⟩; go_big_quiet_on)
          | (refine ⟨_, ⟨T HYZ.out, ?_⟩⟩; go_big_quiet_on)
          | (refine ⟨_, ⟨T HAA.out, ?_⟩⟩; go_big_quiet_on))))
    refine wpQuiet_nil ?_
    intro w5 HW5
    go_wp2
    go_ret
    exact ⟨rfl, HW5.w⟩
end Go.Proofs.Ytcdiifjdbchclaa.P
