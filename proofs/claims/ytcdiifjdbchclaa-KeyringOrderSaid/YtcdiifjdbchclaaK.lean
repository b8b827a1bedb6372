import Derived.Test.YtcdiifjdbchclaaPx2
namespace Go.Proofs.Ytcdiifjdbchclaa.P
open Go.RowKit Go.Proofs.YtcdiifjdbchclaaW.PrintWords Go.Proofs.YtcdiifjdbchclaaW.PrintLast Go.Proofs.YtcdiifjdbchclaaW.PrintMore
set_option linter.unusedVariables false
set_option linter.unusedSimpArgs false

/-! closed forms -/
def validB (a b : Int) : Bool := (a == 0 && b == 0) || (decide (0 ≤ a) && decide (a ≤ 500000) && decide (a < b) && decide (b ≤ 500002))
def knowsB (a b e : Int) : Bool := validB a b && decide (a ≤ e) && decide (e < b)
def slotB (n : Int) : Bool := decide (0 ≤ n) && decide (n ≤ 1000000000)

theorem w64 {x : Int} (h : -9223372036854775808 ≤ x ∧ x ≤ 9223372036854775807) : wrap64 x = x := by unfold wrap64; omega
theorem within3 (a b c : Int) : keyring_within.f 5 [a, b, c] = some (decide (a ≤ b) && decide (b ≤ c)) := by
  have h1 : wrap64 0 = 0 := w64 (by omega)
  have h2 : wrap64 2 = 2 := w64 (by omega)
  have h3 : wrap64 1 = 1 := w64 (by omega)
  have h4 : wrap64 3 = 3 := w64 (by omega)
  by_cases p : a ≤ b
  · by_cases q : b ≤ c
    · have p' : ¬ b < a := by omega
      have q' : ¬ c < b := by omega
      simp [keyring_within.f, keyring_within.l0, rd, h1, h2, h3, h4, p, q, p', q']
    · have p' : ¬ b < a := by omega
      have q' : c < b := by omega
      simp [keyring_within.f, keyring_within.l0, rd, h1, h2, h3, h4, p, q, p', q']
  · have p' : b < a := by omega
    simp [keyring_within.f, keyring_within.l0, rd, h1, h2, h3, h4, p, p']

theorem epoch_f (n : Int) : keyring_Epoch.f 5 n = some (if slotB n then (n / 2000, 0) else (0, 1)) := by
  unfold keyring_Epoch.f
  rw [within3]
  simp only [Option.bind_some]
  have e : (decide ((0:Int) ≤ n) && decide (n ≤ 1000000000)) = slotB n := rfl
  rw [e]
  cases h : slotB n
  · simp
  · simp [slotB] at h
    have : wrap64 (Int.tdiv n 2000) = n / 2000 := by
      rw [Int.tdiv_eq_ediv_of_nonneg h.1]; unfold wrap64; omega
    simp [this]

theorem valid_f (a b : Int) : keyring_ring_valid.f 5 a b = some (validB a b) := by
  unfold keyring_ring_valid.f keyring_ring_empty.f
  rw [within3, within3]
  by_cases h0 : a = 0
  · subst h0
    have : wrap64 1 = 1 := w64 (by omega)
    by_cases h1 : b = 0
    · subst h1; simp [validB]
    · simp [validB, h1, this]
      have : (1 ≤ b) = (0 < b) := by rw [eq_iff_iff]; omega
      simp [this]
      omega
  · simp only [h0, if_false, Option.bind_some, Bool.false_eq_true]
    by_cases h2 : 0 ≤ a ∧ a ≤ 500000
    · obtain ⟨p, q⟩ := h2
      have : wrap64 (a + 1) = a + 1 := by unfold wrap64; omega
      have e2 : (a + 1 ≤ b) = (a < b) := by rw [eq_iff_iff]; omega
      simp [validB, h0, p, q, this, e2]
    · have : (decide (0 ≤ a) && decide (a ≤ 500000)) = false := by
        simp; omega
      simp [validB, h0, this]

theorem knows_f (a b e : Int) : keyring_Knows.f 5 a b e = some (knowsB a b e) := by
  unfold keyring_Knows.f keyring_ring_knows.f
  rw [valid_f a b]
  simp only [Option.bind_some]
  cases h : validB a b
  · simp [knowsB, h]
  · simp only [if_true]
    rw [within3]
    have hb2 : 0 ≤ b ∧ b ≤ 500002 := by simp [validB] at h; omega
    have : wrap64 (b - 1) = b - 1 := by unfold wrap64; omega
    rw [this]
    have e2 : (e ≤ b - 1) = (e < b) := by rw [eq_iff_iff]; omega
    simp [knowsB, h, e2]

theorem slot_f (n : Int) : slotmeshref32_Slot.f n = some (slotB n) := by
  unfold slotmeshref32_Slot.f slotB
  by_cases h : 0 ≤ n
  · simp [h]
  · simp [h]

theorem repoch_f (n : Int) : slotmeshref32_Epoch.f n = some (if slotB n then (n / 2000, 0) else (0, 1)) := by
  unfold slotmeshref32_Epoch.f
  rw [slot_f]
  cases h : slotB n
  · simp
  · simp [slotB] at h
    have : wrap64 (Int.tdiv n 2000) = n / 2000 := by
      rw [Int.tdiv_eq_ediv_of_nonneg h.1]; unfold wrap64; omega
    simp [this]

theorem rvalid_f (a b : Int) : slotmeshref32_Valid.f a b = some (validB a b) := by
  unfold slotmeshref32_Valid.f validB
  by_cases h0 : a = 0
  · subst h0
    by_cases h1 : b = 0
    · subst h1; simp
    · by_cases h2 : 0 < b <;> simp [h1, h2]
  · by_cases h1 : 0 ≤ a <;> by_cases h2 : a ≤ 500000 <;> by_cases h3 : a < b <;> simp [h0, h1, h2, h3]

theorem rknows_f (a b e : Int) : slotmeshref32_Knows.f a b e = some (knowsB a b e) := by
  unfold slotmeshref32_Knows.f knowsB
  rw [rvalid_f]
  cases h : validB a b
  · simp
  · by_cases h1 : a ≤ e <;> simp [h1]


/-! contracts in closed form -/

theorem epoch_c (n : Int) (w : World) (b : Bool) (h : slotB n = b) : Calls Try.prog 11 #[.int .i64 n] w fun e w' => e = .returned (.tuple #[.int .i64 (if b then n / 2000 else 0), .int .i64 (if b then 0 else 1)]) ∧ Below w.heap.size w w' := by
  have hf := epoch_f n
  rw [h] at hf
  cases b
  · exact keyring_Epoch.calls 5 n 0 1 w (by simpa using hf)
  · exact keyring_Epoch.calls 5 n (n / 2000) 0 w (by simpa using hf)
theorem knows_c (a b e : Int) (r : Bool) (w : World) (h : knowsB a b e = r) : Calls Try.prog 13 #[.agg #[.int .i64 a, .int .i64 b], .int .i64 e] w fun e w' => e = .returned (.bool r) ∧ Below w.heap.size w w' :=
  keyring_Knows.calls 5 a b e r w (by rw [knows_f a b e, h])

theorem bcell {W w1 : World} (hb : Below W.heap.size W w1) : (∀ b o, b < W.heap.size → w1.cell? ⟨b, o, none⟩ = W.cell? ⟨b, o, none⟩) ∧ (∀ b o, b < W.heap.size → w1.frozen? ⟨b, o, none⟩ = W.frozen? ⟨b, o, none⟩) :=
  ⟨fun b o h => hb.cell (p := ⟨b, o, none⟩) h, fun b o h => hb.frozen (p := ⟨b, o, none⟩) h⟩


theorem bsize {W w1 : World} (hb : Below W.heap.size W w1) : W.heap.size ≤ w1.heap.size := hb.size

set_option maxHeartbeats 1000000 in
theorem learn_no1 (a b c d n : Int) (w : World) (h : slotB n = false) : Calls Try.prog 17 #[.agg #[.int .i64 a, .int .i64 b], .agg #[.int .i64 c, .int .i64 d], .int .i64 n] w fun e w' => e = .returned (.agg #[.int .i64 a, .int .i64 b]) ∧ Below w.heap.size w w' := by
  go_enter Try.func17, Try.ntmps17
  go_wp2_with fail
  refine (epoch_c n _ false h).mono ?_
  rintro e w1 ⟨rfl, hb1⟩
  obtain ⟨hc1, hf1⟩ := bcell hb1
  have hz1 := bsize hb1
  clear h
  go_wp2_with fail
  exact bodyPost_ret (v := .agg #[.int .i64 a, .int .i64 b]) (by simp [results, Try.results17, go_sem, hc1]) rfl ⟨rfl, ((below_step ((((Below.refl _ _).alloc (Nat.le_refl _) _).alloc (by simp) _).alloc (by simp; omega) _) hb1).setCell (by simp; omega) _).setCell (by simp; omega) _⟩


theorem cells2 {w : World} {g : Nat} {t : TypeId} {x y : Value} (h : w.heap[g]? = some (.cells #[x, y] t (0, 0))) :
    w.cell? ⟨g, 0, none⟩ = some x ∧ w.cell? ⟨g, 1, none⟩ = some y ∧ w.frozen? ⟨g, 0, none⟩ = false ∧ w.frozen? ⟨g, 1, none⟩ = false :=
  ⟨(blk_cell h 0).trans rfl, (blk_cell h 1).trans rfl, blk_frozen h 0, blk_frozen h 1⟩

/-- What is carried along Learn: the three blocks, and that nothing older has changed. -/
structure LW (w w' : World) (a b c d : Int) : Prop where
  r : w'.heap[w.heap.size]? = some (.cells #[.int .i64 a, .int .i64 b] 23 (0, 0))
  t : w'.heap[w.heap.size + 1]? = some (.cells #[.int .i64 c, .int .i64 d] 23 (0, 0))
  o : w'.heap[w.heap.size + 1 + 1]? = some (.cells #[.int .i64 0, .int .i64 0] 23 (0, 0))
  b : Below w.heap.size w w'
theorem LW.step {w w1 w2 : World} {a b c d : Int} (h : LW w w1 a b c d) (k : Below w1.heap.size w1 w2) : LW w w2 a b c d :=
  ⟨blk_below h.r k, blk_below h.t k, blk_below h.o k, below_step h.b k⟩
theorem LW.start (w : World) (a b c d : Int) : LW w (((w.alloc (.cells #[.int .i64 a, .int .i64 b] 23)).alloc (.cells #[.int .i64 c, .int .i64 d] 23)).alloc (.cells #[.int .i64 0, .int .i64 0] 23)) a b c d :=
  ⟨blk_alloc (blk_alloc (blk_new _ _) _) _, by have := blk_alloc (blk_new (w.alloc (.cells #[.int .i64 a, .int .i64 b] 23)) (.cells #[.int .i64 c, .int .i64 d] 23)) (.cells #[.int .i64 0, .int .i64 0] 23); simpa using this, by have := blk_new ((w.alloc (.cells #[.int .i64 a, .int .i64 b] 23)).alloc (.cells #[.int .i64 c, .int .i64 d] 23)) (.cells #[.int .i64 0, .int .i64 0] 23); simpa using this,
   (((Below.refl _ _).alloc (Nat.le_refl _) _).alloc (by simp) _).alloc (by simp; omega) _⟩

attribute [local go_sem] max2_int min2_int max_two min_two in
set_option maxHeartbeats 1000000 in
theorem learn_yes (a b c d n : Int) (w : World) (h : slotB n = true) (h1 : knowsB a b (n / 2000) = true) (h2 : knowsB c d (n / 2000) = true) (h3 : d ≤ n / 2000 + 2) : Calls Try.prog 17 #[.agg #[.int .i64 a, .int .i64 b], .agg #[.int .i64 c, .int .i64 d], .int .i64 n] w fun e w' => e = .returned (.agg #[.int .i64 (mn a c), .int .i64 (mx b d)]) ∧ Below w.heap.size w w' := by
  have hn : 0 ≤ n / 2000 ∧ n / 2000 ≤ 500000 := by simp [slotB] at h; omega
  obtain ⟨hn1, hn2⟩ := hn
  generalize hq : n / 2000 = q at *
  have HE := fun w => epoch_c n w true h
  simp only [hq, if_true] at HE
  have H1 := Aside0.mk h1
  have H2 := Aside0.mk h2
  have h3' : decide (d ≤ q + 2) = true := decide_eq_true h3
  clear h h1 h2 hq h3
  have HW := Aside0.mk (LW.start w a b c d)
  have hne : w.heap.size ≠ w.heap.size + 1 := by omega
  go_enter Try.func17, Try.ntmps17
  go_wp2_with fail
  refine (HE _).mono ?_
  rintro e w1 ⟨rfl, hb1⟩
  have HW1 := Aside0.mk (HW.out.step hb1)
  clear HW hb1
  obtain ⟨r0, r1, f0, f1⟩ := cells2 HW1.out.r
  obtain ⟨t0, t1, g0, g1⟩ := cells2 HW1.out.t
  go_wp2_with fail
  refine (knows_c a b q true _ H1.out).mono ?_
  clear r0 r1 f0 f1 t0 t1 g0 g1
  rintro e w2 ⟨rfl, hb1⟩
  have HW2 := Aside0.mk (HW1.out.step hb1)
  clear HW1 hb1
  obtain ⟨r0, r1, f0, f1⟩ := cells2 HW2.out.r
  obtain ⟨t0, t1, g0, g1⟩ := cells2 HW2.out.t
  go_wp2_with fail
  refine (knows_c c d q true _ H2.out).mono ?_
  clear r0 r1 f0 f1 t0 t1 g0 g1
  rintro e w3 ⟨rfl, hb1⟩
  have HW3 := Aside0.mk (HW2.out.step hb1)
  clear HW2 hb1
  obtain ⟨r0, r1, f0, f1⟩ := cells2 HW3.out.r
  obtain ⟨t0, t1, g0, g1⟩ := cells2 HW3.out.t
  obtain ⟨o0, o1, p0, p1⟩ := cells2 HW3.out.o
  go_wp2_with fail
  go_region
  go_wp2
  all_goals
    (first | (have em : mn a c = c := by unfold mn; omega) | (have em : mn a c = a := by unfold mn; omega))
    (first | (have ex : mx b d = d := by unfold mx; omega) | (have ex : mx b d = b := by unfold mx; omega))
    rw [em, ex]
    have hB := HW3.out.b
    exact bodyPost_ret (v := .agg #[.int .i64 _, .int .i64 _]) (by simp [results, Try.results17, go_sem, *]) rfl ⟨rfl, ((((hB.setCell (Nat.le_refl _) _).setCell (Nat.le_refl _) _).setCell (by simp; omega) _).setCell (by simp; omega) _).drew⟩

set_option maxHeartbeats 1000000 in
theorem learn_no2 (a b c d n : Int) (w : World) (h : slotB n = true) (h1 : knowsB a b (n / 2000) = false) : Calls Try.prog 17 #[.agg #[.int .i64 a, .int .i64 b], .agg #[.int .i64 c, .int .i64 d], .int .i64 n] w fun e w' => e = .returned (.agg #[.int .i64 a, .int .i64 b]) ∧ Below w.heap.size w w' := by
  have hn : 0 ≤ n / 2000 ∧ n / 2000 ≤ 500000 := by simp [slotB] at h; omega
  obtain ⟨hn1, hn2⟩ := hn
  generalize hq : n / 2000 = q at *
  have HE := fun w => epoch_c n w true h
  simp only [hq, if_true] at HE
  have H1 := Aside0.mk h1

  clear h h1 hq
  have HW := Aside0.mk (LW.start w a b c d)
  have hne : w.heap.size ≠ w.heap.size + 1 := by omega
  go_enter Try.func17, Try.ntmps17
  go_wp2_with fail
  refine (HE _).mono ?_
  rintro e w1 ⟨rfl, hb1⟩
  have HW1 := Aside0.mk (HW.out.step hb1)
  clear HW hb1
  obtain ⟨r0, r1, f0, f1⟩ := cells2 HW1.out.r
  obtain ⟨t0, t1, g0, g1⟩ := cells2 HW1.out.t
  go_wp2_with fail
  refine (knows_c a b q false _ H1.out).mono ?_
  clear r0 r1 f0 f1 t0 t1 g0 g1
  rintro e w2 ⟨rfl, hb1⟩
  have HW2 := Aside0.mk (HW1.out.step hb1)
  clear HW1 hb1
  obtain ⟨r0, r1, f0, f1⟩ := cells2 HW2.out.r
  obtain ⟨t0, t1, g0, g1⟩ := cells2 HW2.out.t
  obtain ⟨o0, o1, p0, p1⟩ := cells2 HW2.out.o
  go_wp2
  have hB := HW2.out.b
  exact bodyPost_ret (v := .agg #[.int .i64 _, .int .i64 _]) (by simp [results, Try.results17, go_sem, *]) rfl ⟨rfl, (hB.setCell (by simp; omega) _).setCell (by simp; omega) _⟩

set_option maxHeartbeats 1000000 in
theorem learn_no3 (a b c d n : Int) (w : World) (h : slotB n = true) (h1 : knowsB a b (n / 2000) = true) (h2 : knowsB c d (n / 2000) = false) : Calls Try.prog 17 #[.agg #[.int .i64 a, .int .i64 b], .agg #[.int .i64 c, .int .i64 d], .int .i64 n] w fun e w' => e = .returned (.agg #[.int .i64 a, .int .i64 b]) ∧ Below w.heap.size w w' := by
  have hn : 0 ≤ n / 2000 ∧ n / 2000 ≤ 500000 := by simp [slotB] at h; omega
  obtain ⟨hn1, hn2⟩ := hn
  generalize hq : n / 2000 = q at *
  have HE := fun w => epoch_c n w true h
  simp only [hq, if_true] at HE
  have H1 := Aside0.mk h1
  have H2 := Aside0.mk h2
  clear h2
  clear h h1 hq
  have HW := Aside0.mk (LW.start w a b c d)
  have hne : w.heap.size ≠ w.heap.size + 1 := by omega
  go_enter Try.func17, Try.ntmps17
  go_wp2_with fail
  refine (HE _).mono ?_
  rintro e w1 ⟨rfl, hb1⟩
  have HW1 := Aside0.mk (HW.out.step hb1)
  clear HW hb1
  obtain ⟨r0, r1, f0, f1⟩ := cells2 HW1.out.r
  obtain ⟨t0, t1, g0, g1⟩ := cells2 HW1.out.t
  go_wp2_with fail
  refine (knows_c a b q true _ H1.out).mono ?_
  clear r0 r1 f0 f1 t0 t1 g0 g1
  rintro e w2 ⟨rfl, hb1⟩
  have HW2 := Aside0.mk (HW1.out.step hb1)
  clear HW1 hb1
  obtain ⟨r0, r1, f0, f1⟩ := cells2 HW2.out.r
  obtain ⟨t0, t1, g0, g1⟩ := cells2 HW2.out.t
  go_wp2_with fail
  refine (knows_c c d q false _ H2.out).mono ?_
  clear r0 r1 f0 f1 t0 t1 g0 g1
  rintro e w3 ⟨rfl, hb1⟩
  have HW3 := Aside0.mk (HW2.out.step hb1)
  clear HW2 hb1
  obtain ⟨r0, r1, f0, f1⟩ := cells2 HW3.out.r
  obtain ⟨t0, t1, g0, g1⟩ := cells2 HW3.out.t
  obtain ⟨o0, o1, p0, p1⟩ := cells2 HW3.out.o
  go_wp2
  have hB := HW3.out.b
  exact bodyPost_ret (v := .agg #[.int .i64 _, .int .i64 _]) (by simp [results, Try.results17, go_sem, *]) rfl ⟨rfl, (hB.setCell (by simp; omega) _).setCell (by simp; omega) _⟩

set_option maxHeartbeats 1000000 in
theorem learn_no4 (a b c d n : Int) (w : World) (h : slotB n = true) (h1 : knowsB a b (n / 2000) = true) (h2 : knowsB c d (n / 2000) = true) (h3 : n / 2000 + 2 < d) : Calls Try.prog 17 #[.agg #[.int .i64 a, .int .i64 b], .agg #[.int .i64 c, .int .i64 d], .int .i64 n] w fun e w' => e = .returned (.agg #[.int .i64 a, .int .i64 b]) ∧ Below w.heap.size w w' := by
  have hn : 0 ≤ n / 2000 ∧ n / 2000 ≤ 500000 := by simp [slotB] at h; omega
  obtain ⟨hn1, hn2⟩ := hn
  generalize hq : n / 2000 = q at *
  have HE := fun w => epoch_c n w true h
  simp only [hq, if_true] at HE
  have H1 := Aside0.mk h1
  have H2 := Aside0.mk h2
  have h3' : decide (d ≤ q + 2) = false := decide_eq_false (by omega)
  clear h2 h3
  clear h h1 hq
  have HW := Aside0.mk (LW.start w a b c d)
  have hne : w.heap.size ≠ w.heap.size + 1 := by omega
  go_enter Try.func17, Try.ntmps17
  go_wp2_with fail
  refine (HE _).mono ?_
  rintro e w1 ⟨rfl, hb1⟩
  have HW1 := Aside0.mk (HW.out.step hb1)
  clear HW hb1
  obtain ⟨r0, r1, f0, f1⟩ := cells2 HW1.out.r
  obtain ⟨t0, t1, g0, g1⟩ := cells2 HW1.out.t
  go_wp2_with fail
  refine (knows_c a b q true _ H1.out).mono ?_
  clear r0 r1 f0 f1 t0 t1 g0 g1
  rintro e w2 ⟨rfl, hb1⟩
  have HW2 := Aside0.mk (HW1.out.step hb1)
  clear HW1 hb1
  obtain ⟨r0, r1, f0, f1⟩ := cells2 HW2.out.r
  obtain ⟨t0, t1, g0, g1⟩ := cells2 HW2.out.t
  go_wp2_with fail
  refine (knows_c c d q true _ H2.out).mono ?_
  clear r0 r1 f0 f1 t0 t1 g0 g1
  rintro e w3 ⟨rfl, hb1⟩
  have HW3 := Aside0.mk (HW2.out.step hb1)
  clear HW2 hb1
  obtain ⟨r0, r1, f0, f1⟩ := cells2 HW3.out.r
  obtain ⟨t0, t1, g0, g1⟩ := cells2 HW3.out.t
  obtain ⟨o0, o1, p0, p1⟩ := cells2 HW3.out.o
  go_wp2
  have hB := HW3.out.b
  exact bodyPost_ret (v := .agg #[.int .i64 _, .int .i64 _]) (by simp [results, Try.results17, go_sem, *]) rfl ⟨rfl, (hB.setCell (by simp; omega) _).setCell (by simp; omega) _⟩

def learnV (a b c d n : Int) : Int × Int := if slotB n && knowsB a b (n / 2000) && knowsB c d (n / 2000) && decide (d ≤ n / 2000 + 2) then (mn a c, mx b d) else (a, b)
theorem learn_c (a b c d n : Int) (w : World) (r : Int × Int) (hr : learnV a b c d n = r) : Calls Try.prog 17 #[.agg #[.int .i64 a, .int .i64 b], .agg #[.int .i64 c, .int .i64 d], .int .i64 n] w fun e w' => e = .returned (.agg #[.int .i64 r.1, .int .i64 r.2]) ∧ Below w.heap.size w w' := by
  subst hr
  unfold learnV
  cases h : slotB n
  · exact learn_no1 a b c d n w h
  · cases h1 : knowsB a b (n / 2000)
    · exact learn_no2 a b c d n w h h1
    · cases h2 : knowsB c d (n / 2000)
      · exact learn_no3 a b c d n w h h1 h2
      · by_cases h3 : d ≤ n / 2000 + 2
        · simpa [h3] using learn_yes a b c d n w h h1 h2 h3
        · simpa [h3] using learn_no4 a b c d n w h h1 h2 (by omega)

/-! ### keyring_Learn: function 17 -/
def keyring_Learn.f (a0_0 : Int) (a0_1 : Int) (a1_0 : Int) (a1_1 : Int) (a2 : Int) : Option (Int × Int) := some (learnV a0_0 a0_1 a1_0 a1_1 a2)
theorem keyring_Learn.calls (a0_0 : Int) (a0_1 : Int) (a1_0 : Int) (a1_1 : Int) (a2 : Int) (r1 : Int) (r2 : Int) (w : World) (h : keyring_Learn.f a0_0 a0_1 a1_0 a1_1 a2 = some (r1, r2)) :
    Calls Try.prog 17 #[.agg #[.int .i64 a0_0, .int .i64 a0_1], .agg #[.int .i64 a1_0, .int .i64 a1_1], .int .i64 a2] w fun e w' => e = .returned (.agg #[.int .i64 r1, .int .i64 r2]) ∧ Below w.heap.size w w' :=
  learn_c _ _ _ _ _ w (r1, r2) (Option.some.inj h)
end Go.Proofs.Ytcdiifjdbchclaa.P
