/- KeyringMatchesReference's contract: for all rings, slot numbers and epochs the law returns true and changes nothing older. -/
import Derived.Test.YtcdiifjdbchclaaH
import Derived.Test.YtcdiifjdbchclaaD
import Derived.Test.YtcdiifjdbchclaaU
namespace Go.Proofs.Ytcdiifjdbchclaa.P
open Go.RowKit Go.Proofs.YtcdiifjdbchclaaW.PrintWords Go.Proofs.YtcdiifjdbchclaaW.PrintLast Go.Proofs.YtcdiifjdbchclaaW.PrintMore
open Go.BigFrame
attribute [local go_sem] max2_int min2_int max_two min_two max_three min_three max_four min_four
set_option linter.unusedVariables false
set_option linter.unusedSimpArgs false
attribute [local go_sem high] eqA23

theorem region_quiet_lit {P : Program} {C : World → Prop} {id : Nat} {Q : Exit → Act → World → Prop} {a : Act} {w : World} {l : List Oper} (hC : C { w with drawn := w.drawn + 1 }) (hm : P.follows .mixedOrders = true) (hB : Region.lexB .any l.toArray = true)
    (h : wpQuiet P l.toArray C (fun a' => ∀ w', C w' → Q .normal a' w') l a) : (Code.region id l.toArray true).wp P Q a w :=
  wp_region_quiet (C := C) hm hB hC (by simpa using h)

theorem quiet_load2 {C : World → Prop} {dst : Option Tmp} {i : Tmp} {ty : TypeId} {pos : String} {after : Array Edge} {guard : Option (Nat × Bool)} {a : Act} {K : Act → Prop} {g : Nat} {x y : Value}
    (hC : ∀ w, C w → w.heap[g]? = some (.cells #[x, y] 23 (0, 0))) (hv : a.eval (.tmp i) = .pointer (some ⟨g, 0, none⟩)) 
    (hk : K (a.put dst (.agg #[x, y]))) : Oper.quiet Try.prog ⟨dst, .load 23 (.tmp i), ty, pos, after, guard⟩ a C K := by
  refine ⟨.agg #[x, y], fun w hw => ?_, hk⟩
  unfold Oper.quietAt execOp
  simp only [hv, Instr.loadAt, Instr.sureAddr, Sem.run_bind, Sem.run_pure, Result.andThen_ok, run_loadVar_row w g 23 23 #[x, y] (0, 0) _ (hC w hw) Try.underlying23 rfl (by kernel_rfl)]
  exact ⟨rfl, rfl⟩

/-! contracts of the reference, in closed form -/
def epochV (n : Int) : Int × Int := if slotB n then (n / 2000, 0) else (0, 1)
theorem epoch_g (n : Int) (w : World) (r : Int × Int) (h : epochV n = r) : Calls Try.prog 11 #[.int .i64 n] w fun e w' => e = .returned (.tuple #[.int .i64 r.1, .int .i64 r.2]) ∧ Below w.heap.size w w' :=
  keyring_Epoch.calls 5 n r.1 r.2 w (by rw [epoch_f]; exact congrArg some h)
theorem repoch_g (n : Int) (w : World) (r : Int × Int) (h : epochV n = r) : Calls Try.prog 12 #[.int .i64 n] w fun e w' => e = .returned (.tuple #[.int .i64 r.1, .int .i64 r.2]) ∧ Below w.heap.size w w' :=
  (slotmeshref32_Epoch.calls n r.1 r.2 w (by rw [repoch_f]; exact congrArg some h)).mono fun e w' ⟨h1, h2⟩ => ⟨h1, Drawn0.below h2⟩
theorem rknows_c (a b e : Int) (r : Bool) (w : World) (h : knowsB a b e = r) : Calls Try.prog 14 #[.agg #[.int .i64 a, .int .i64 b], .int .i64 e] w fun e w' => e = .returned (.bool r) ∧ Below w.heap.size w w' :=
  slotmeshref32_Knows.calls a b e r w (by rw [rknows_f, h])
theorem rroot_f (n : Int) : slotmeshref32_Root.f n = some (rootV n) := by
  unfold slotmeshref32_Root.f rootV
  rw [repoch_f]
  cases h : slotB n
  · simp
  · have := slot_dom h
    have : wrap64 (n / 2000 + 2) = n / 2000 + 2 := w64 (by omega)
    simp [this]
theorem rage_f (a b n : Int) : slotmeshref32_Age.f 5 a b n = some (ageV a b n) := by
  unfold slotmeshref32_Age.f ageV
  rw [repoch_f]
  cases h : slotB n
  · simp [slotmeshref32_Age.j0]
  · simp only [Option.bind_some, if_true, rvalid_f]
    cases h1 : validB a b
    · simp [slotmeshref32_Age.j0]
    · simp only [if_true, slotmeshref32_Age.j0]
      by_cases h2 : a < n / 2000
      · have h3 : ¬ n / 2000 ≤ a := by omega
        simp only [h2, h3, decide_false, decide_true, Bool.and_self, if_true, Bool.false_eq_true, if_false]
        split <;> rfl
      · have h3 : n / 2000 ≤ a := by omega
        simp [h2, h3]
theorem rlearn_f (a b c d n : Int) : slotmeshref32_Learn.f a b c d n = some (learnV a b c d n) := by
  unfold slotmeshref32_Learn.f learnV
  rw [repoch_f]
  cases h : slotB n
  · simp
  · have := slot_dom h
    have e2 : wrap64 (n / 2000 + 2) = n / 2000 + 2 := w64 (by omega)
    simp only [Option.bind_some, if_true, rknows_f, e2]
    cases h1 : knowsB a b (n / 2000)
    · simp
    · cases h2 : knowsB c d (n / 2000)
      · simp
      · by_cases h3 : d ≤ n / 2000 + 2
        · have h4 : ¬ d > n / 2000 + 2 := by omega
          simp [h3, h4]
        · have h4 : d > n / 2000 + 2 := by omega
          simp [h3, h4]
theorem rroot_c (n : Int) (w : World) (r : Int × Int) (hr : rootV n = r) : Calls Try.prog 16 #[.int .i64 n] w fun e w' => e = .returned (.agg #[.int .i64 r.1, .int .i64 r.2]) ∧ Below w.heap.size w w' :=
  slotmeshref32_Root.calls n r.1 r.2 w (by rw [rroot_f, hr])
theorem rage_c (a b n : Int) (w : World) (r : Int × Int) (hr : ageV a b n = r) : Calls Try.prog 20 #[.agg #[.int .i64 a, .int .i64 b], .int .i64 n] w fun e w' => e = .returned (.agg #[.int .i64 r.1, .int .i64 r.2]) ∧ Below w.heap.size w w' :=
  slotmeshref32_Age.calls 5 a b n r.1 r.2 w (by rw [rage_f, hr])
theorem rlearn_c (a b c d n : Int) (w : World) (r : Int × Int) (hr : learnV a b c d n = r) : Calls Try.prog 18 #[.agg #[.int .i64 a, .int .i64 b], .agg #[.int .i64 c, .int .i64 d], .int .i64 n] w fun e w' => e = .returned (.agg #[.int .i64 r.1, .int .i64 r.2]) ∧ Below w.heap.size w w' :=
  slotmeshref32_Learn.calls a b c d n r.1 r.2 w (by rw [rlearn_f, hr])

/-! the law -/
structure MW (w w' : World) (a b c d : Int) : Prop where
  r : w'.heap[w.heap.size]? = some (.cells #[.int .i64 a, .int .i64 b] 23 (0, 0))
  t : w'.heap[w.heap.size + 1]? = some (.cells #[.int .i64 c, .int .i64 d] 23 (0, 0))
  b : Below w.heap.size w w'
theorem MW.step {w w1 w2 : World} {a b c d : Int} (h : MW w w1 a b c d) (k : Below w1.heap.size w1 w2) : MW w w2 a b c d :=
  ⟨blk_below h.r k, blk_below h.t k, below_step h.b k⟩
theorem MW.drew {w w1 : World} {a b c d : Int} (h : MW w w1 a b c d) : MW w { w1 with drawn := w1.drawn + 1 } a b c d := h.step (Below.refl _ w1).drew
theorem MW.start (w : World) (a b c d : Int) : MW w ((w.alloc (.cells #[.int .i64 a, .int .i64 b] 23)).alloc (.cells #[.int .i64 c, .int .i64 d] 23)) a b c d :=
  ⟨blk_alloc (blk_new _ _) _, by have := blk_new (w.alloc (.cells #[.int .i64 a, .int .i64 b] 23)) (.cells #[.int .i64 c, .int .i64 d] 23); simpa using this,
   ((Below.refl _ _).alloc (Nat.le_refl _) _).alloc (by simp) _⟩
theorem quiet_call {P : Program} {C : World → Prop} {f : FuncId} {args : Array Value} {v v' : Value} (hv : v = v') (hC : ∀ w w', C w → Below w.heap.size w w' → C w')
    (h : ∀ w, Calls P f args w fun e w' => e = .returned v' ∧ Below w.heap.size w w') (w : World) (hw : C w) : Calls P f args w fun e w' => e = .returned v ∧ C w' := by
  subst hv
  exact (h w).mono fun e w' ⟨h1, h2⟩ => ⟨h1, hC w w' hw h2⟩

set_option maxHeartbeats 4000000 in
set_option maxRecDepth 100000 in
theorem matches_c (a b c d n e : Int) (w : World) : Calls Try.prog 3 #[.agg #[.int .i64 a, .int .i64 b], .agg #[.int .i64 c, .int .i64 d], .int .i64 n, .int .i64 e] w fun e w' => e = .returned (.bool true) ∧ Below w.heap.size w w' := by
  obtain ⟨x, hx⟩ : ∃ x, epochV n = x := ⟨_, rfl⟩
  obtain ⟨kn, hk⟩ : ∃ x, knowsB a b e = x := ⟨_, rfl⟩
  obtain ⟨ro, hr⟩ : ∃ x, rootV n = x := ⟨_, rfl⟩
  obtain ⟨le, hl⟩ : ∃ x, learnV a b c d n = x := ⟨_, rfl⟩
  obtain ⟨ag, hg⟩ : ∃ x, ageV a b n = x := ⟨_, rfl⟩
  have HE := Aside0.mk hx
  have HK := Aside0.mk hk
  have HR := Aside0.mk hr
  have HL := Aside0.mk hl
  have HG := Aside0.mk hg
  clear hx hk hr hl hg
  obtain ⟨x1, x2⟩ := x
  obtain ⟨r1, r2⟩ := ro
  obtain ⟨l1, l2⟩ := le
  obtain ⟨g1, g2⟩ := ag
  have HW := Aside0.mk (MW.start w a b c d)
  go_enter Try.func3, Try.ntmps3
  go_wp2_with fail
  refine (head_c _).mono ?_
  rintro _ w1 ⟨rfl, hb⟩
  have HW1 := Aside0.mk (HW.out.step hb)
  clear HW hb
  go_wp2_with fail
  refine (epoch_g n _ _ HE.out).mono ?_
  rintro _ w2 ⟨rfl, hb⟩
  have HW2 := Aside0.mk (HW1.out.step hb)
  clear HW1 hb
  go_wp2_with fail
  refine (repoch_g n _ _ HE.out).mono ?_
  rintro _ w3 ⟨rfl, hb⟩
  have HW3 := Aside0.mk (HW2.out.step hb)
  clear HW2 hb
  go_wp2_with fail
  refine region_quiet_lit (C := fun w' => MW w w' a b c d) HW3.out.drew (by kernel_rfl) (by kernel_rfl) ?_
  have S : ∀ {f : FuncId} {args : Array Value} {v : Value}, (∀ w, Calls Try.prog f args w fun e w' => e = .returned v ∧ Below w.heap.size w w') → ∀ w', MW w w' a b c d → Calls Try.prog f args w' fun e w'' => e = .returned v ∧ MW w w'' a b c d :=
    fun h w' hw => (h w').mono fun e w'' k => ⟨k.1, hw.step k.2⟩
  repeat (first
    | go_big_quiet_skip
    | (go_big_quiet_want; first
      | (with_reducible refine quiet_load2 (i := 4) (fun w hw => hw.r) rfl ?_; simp only [Act.put, List.setIfInBounds_toArray, List.set_cons_zero, List.set_cons_succ]; go_big_quiet_on)
      | (with_reducible refine quiet_load2 (i := 5) (fun w hw => hw.t) rfl ?_; simp only [Act.put, List.setIfInBounds_toArray, List.set_cons_zero, List.set_cons_succ]; go_big_quiet_on)
      | (go_big_quiet_op; first
        | go_big_quiet_on
        | (refine ⟨_, ⟨fun _ _ => rfl, ?_⟩⟩; go_big_quiet_on)
        | (refine ⟨_, ⟨S (fun w => knows_c a b e kn w HK.out), ?_⟩⟩; go_big_quiet_on)
        | (refine ⟨_, ⟨S (fun w => rknows_c a b e kn w HK.out), ?_⟩⟩; go_big_quiet_on)
        | (refine ⟨_, ⟨S (fun w => root_c n w _ HR.out), ?_⟩⟩; go_big_quiet_on)
        | (refine ⟨_, ⟨S (fun w => rroot_c n w _ HR.out), ?_⟩⟩; go_big_quiet_on)
        | (refine ⟨_, ⟨S (fun w => learn_c a b c d n w _ HL.out), ?_⟩⟩; go_big_quiet_on)
        | (refine ⟨_, ⟨S (fun w => rlearn_c a b c d n w _ HL.out), ?_⟩⟩; go_big_quiet_on)
        | (refine ⟨_, ⟨S (fun w => age_c a b n w _ HG.out), ?_⟩⟩; go_big_quiet_on)
        | (refine ⟨_, ⟨S (fun w => rage_c a b n w _ HG.out), ?_⟩⟩; go_big_quiet_on))))
  refine wpQuiet_nil ?_
  intro w4 HW4
  go_wp2
  go_ret
  exact ⟨rfl, HW4.b⟩
theorem keyringMatchesReference_any (a b c d n e : Int) (w : World) (wa : (Lit.int .i64 a).wf = true) (wb : (Lit.int .i64 b).wf = true) (wc : (Lit.int .i64 c).wf = true) (wd : (Lit.int .i64 d).wf = true) (wn : (Lit.int .i64 n).wf = true) (we : (Lit.int .i64 e).wf = true) :
    Calls Try.prog 3 #[.agg #[.int .i64 a, .int .i64 b], .agg #[.int .i64 c, .int .i64 d], .int .i64 n, .int .i64 e] w fun e w' => e = .returned (.bool true) ∧ Below w.heap.size w w' := matches_c a b c d n e w
end Go.Proofs.Ytcdiifjdbchclaa.P
