/- A law for regions that draw their order: an invariant over the set of operations that have come up; each operation is walked once, whatever the order. -/
import Derived.Test.YtcdiifjdbchclaaQ2
import Derived.Orders
namespace Go.Proofs.Ytcdiifjdbchclaa.P
open Go.RowKit
set_option linter.unusedVariables false
set_option linter.unusedSimpArgs false

/-- The operations that have not come up. -/
def left (n : Nat) (listed : Array Bool) : List Nat := (List.range n).filter fun i => !listed.getD i true
theorem getD_put (listed : Array Bool) (i j : Nat) (hi : i < listed.size) : (listed.setIfInBounds i true).getD j true = (j == i || listed.getD j true) := by
  simp only [Array.getD_eq_getD_getElem?, Array.getElem?_setIfInBounds]
  by_cases h : i = j
  · subst h; simp [hi]
  · have : (j == i) = false := by simp; omega
    simp [h, this]
theorem left_put (n : Nat) (listed : Array Bool) (i : Nat) (hi : i < n) (hs : listed.size = n) (hf : listed.getD i true = false) : (left n (listed.setIfInBounds i true)).length < (left n listed).length := by
  have e : left n (listed.setIfInBounds i true) = (left n listed).filter fun j => !(j == i) := by
    unfold left
    rw [List.filter_filter]
    congr 1
    funext j
    rw [getD_put listed i j (by omega)]
    cases (j == i) <;> simp
  rw [e, List.length_filter_lt_length_iff_exists]
  refine ⟨i, ?_, by simp⟩
  unfold left
  rw [List.mem_filter, List.mem_range]
  exact ⟨hi, by rw [hf]; rfl⟩

theorem wpAny_inv {P : Program} {ops : Array Oper} {Q : Exit → Act → World → Prop} {md : Region.Mode} (I : (Nat → Bool) → Act → World → Prop)
    (hord : ∀ (i : Nat) (o : Oper), ops[i]? = some o → ∀ e ∈ o.after, e.on < i)
    (step : ∀ L a w, I L a w → ∀ (i : Nat) (o : Oper), ops[i]? = some o → L i = false → (∀ e ∈ o.after, Region.binds md e = true → L e.on = true) → wpOp P ops Q i (I fun j => j == i || L j) a w)
    (fin : ∀ L a w, I L a w → (∀ i, i < ops.size → L i = true) → Q .normal a w) :
    ∀ (fuel : Nat) (listed : Array Bool) (a : Act) (w : World), listed.size = ops.size → (left ops.size listed).length ≤ fuel → I (fun i => listed.getD i true) a w → wpAny P md ops Q fuel listed a w := by
  have done : ∀ (listed : Array Bool) (a : Act) (w : World), listed.size = ops.size → I (fun i => listed.getD i true) a w → Region.ready md ops listed = [] → Q .normal a w := by
    intro listed a w hs hI hr
    refine fin _ a w hI ?_
    intro i
    induction i using Nat.strongRecOn with
    | _ i ih =>
      intro hi
      refine Classical.byContradiction fun hn => ?_
      have hf : listed.getD i true = false := by simpa using hn
      have : i ∈ Region.ready md ops listed := by
        unfold Region.ready
        rw [List.mem_filter, List.mem_range]
        refine ⟨hi, ?_⟩
        rw [hf, Array.getElem?_eq_getElem hi]
        simp only [Option.map_some, Option.getD_some, Bool.not_false, Bool.true_and]
        rw [Array.all_eq_true_iff_forall_mem]
        intro e he
        have h1 := hord i _ (Array.getElem?_eq_getElem hi) e he
        have h2 : listed.getD e.on true = true := ih e.on h1 (by omega)
        have h3 : listed.getD e.on false = true := by
          rw [Array.getD_eq_getD_getElem?, Array.getElem?_eq_getElem (by omega)] at h2 ⊢
          exact h2
        rw [h3]; simp
      rw [hr] at this
      cases this
  intro fuel
  induction fuel with
  | zero =>
    intro listed a w hs hl hI
    have h0 : left ops.size listed = [] := List.length_eq_zero_iff.mp (by omega)
    have hr : Region.ready md ops listed = [] := by
      refine List.eq_nil_iff_forall_not_mem.mpr fun i hi => ?_
      unfold Region.ready at hi
      rw [List.mem_filter, Bool.and_eq_true] at hi
      have : i ∈ left ops.size listed := by unfold left; rw [List.mem_filter]; exact ⟨hi.1, hi.2.1⟩
      rw [h0] at this; cases this
    exact ⟨hr, done listed a w hs hI hr⟩
  | succ fuel ih =>
    intro listed a w hs hl hI
    refine ⟨done listed a w hs hI, fun i hi => ?_⟩
    unfold Region.ready at hi
    rw [List.mem_filter, Bool.and_eq_true, List.mem_range] at hi
    obtain ⟨hi1, hi2, hi3⟩ := hi
    have hf : listed.getD i true = false := by simpa using hi2
    rw [Array.getElem?_eq_getElem hi1] at hi3
    simp only [Option.map_some, Option.getD_some] at hi3
    rw [Array.all_eq_true_iff_forall_mem] at hi3
    refine wpOp_mono ?_ (step _ a w hI i _ (Array.getElem?_eq_getElem hi1) hf (fun e he hb => ?_))
    · intro a' w' hI'
      refine ih _ a' w' (by simpa using hs) (by have := left_put ops.size listed i hi1 hs hf; omega) ?_
      have : (fun j => (listed.setIfInBounds i true).getD j true) = fun j => j == i || listed.getD j true := funext fun j => getD_put listed i j (by omega)
      rw [this]
      exact hI'
    · have h1 := hi3 e he
      rw [hb] at h1
      have h2 : listed.getD e.on false = true := by simpa using h1
      have h3 := hord i _ (Array.getElem?_eq_getElem hi1) e he
      show listed.getD e.on true = true
      rw [Array.getD_eq_getD_getElem?, Array.getElem?_eq_getElem (by omega)] at h2 ⊢
      exact h2
theorem wp_region_inv {P : Program} {ops : Array Oper} {Q : Exit → Act → World → Prop} {id : Nat} {a : Act} {w : World} (I : (Nat → Bool) → Act → World → Prop) (hm : P.follows .mixedOrders = true)
    (hord : ∀ (i : Nat) (o : Oper), ops[i]? = some o → ∀ e ∈ o.after, e.on < i)
    (start : ∀ L, (∀ i, i < ops.size → L i = false) → I L a { w with drawn := w.drawn + 1 })
    (step : ∀ L a w, I L a w → ∀ (i : Nat) (o : Oper), ops[i]? = some o → L i = false → (∀ e ∈ o.after, Region.binds .any e = true → L e.on = true) → wpOp P ops Q i (I fun j => j == i || L j) a w)
    (fin : ∀ L a w, I L a w → (∀ i, i < ops.size → L i = true) → Q .normal a w) : (Code.region id ops true).wp P Q a w := by
  refine wp_region_any hm (wpAny_inv I hord step fin _ _ _ _ (by simp) ?_ (start _ fun i hi => ?_))
  · exact Nat.le_trans (List.length_filter_le _ _) (by simp)
  · simp [Array.getD_eq_getD_getElem?, hi]
/-- One operation, walked as a list of one. -/
def QK (K : Act → World → Prop) (Q : Exit → Act → World → Prop) : Exit → Act → World → Prop
  | .normal, a, w => K a w
  | e, a, w => Q e a w
theorem wpOp_of_list {P : Program} {ops : Array Oper} {Q : Exit → Act → World → Prop} {i : Nat} {o : Oper} {K : Act → World → Prop} {a : Act} {w : World} (hi : ops[i]? = some o)
    (hw : Region.wanted o (yielded ops a.tmps) = true) (h : o.wp P a w K Q) : wpOp P ops Q i K a w := by
  unfold wpOp
  rw [hi]
  simp only [hw, if_true]
  exact .inl h
end Go.Proofs.Ytcdiifjdbchclaa.P
