/- graph.isValid: the printed function answers whether the table is valid. -/
import Derived.Test.YtppkmmifjfcfiaaB
import Derived.Test.YtppkmmifjfcfiaaV
namespace Go.Proofs.Ytppkmmifjfcfiaa.P
open Go.RowKit Go.Proofs.YtppkmmifjfcfiaaW.PrintWords Go.Proofs.YtppkmmifjfcfiaaW.PrintLast Go.Proofs.YtppkmmifjfcfiaaW.PrintMore
open Go.Proofs.Ytppkmmifjfcfiaa.V
set_option linter.unusedVariables false
set_option linter.unusedSimpArgs false

theorem w64 {x : Int} (h : -9223372036854775808 ≤ x ∧ x ≤ 9223372036854775807) : wrap64 x = x := by unfold wrap64; omega

/-- Row i is as it has to be, as far as column j. -/
def rowOk (h : List (List Bool)) (i j : Nat) : Prop := (h.getD i []).length = h.length ∧ cell h i i = false ∧ ∀ k, k < j → cell h i k = cell h k i
theorem valid_of_rows {h : List (List Bool)} (h60 : h.length ≤ 60) (hr : ∀ i, i < h.length → rowOk h i i) : Valid h := by
  refine ⟨h60, fun i hi => (hr i hi).1, fun i hi => (hr i hi).2.1, fun i k hi hk => ?_⟩
  by_cases e : i = k
  · subst e; rfl
  · rcases Nat.lt_or_gt_of_ne e with g | g
    · exact ((hr k hk).2.2 i g).symm
    · exact (hr i hi).2.2 k g
theorem Valid.rowOk {h : List (List Bool)} (v : Valid h) {i : Nat} (hi : i < h.length) (j : Nat) (hj : j ≤ h.length) : rowOk h i j := ⟨v.row i hi, v.irr i hi, fun k hk => v.sym i k hi (by omega)⟩

theorem rd_nat (h : List (List Bool)) (i : Nat) : rd_L2 h (i : Int) = h.getD i [] := rfl
theorem rdOf_nat (l : List Bool) (i : Nat) : rdOf false l (i : Int) = l.getD i false := rfl


theorem isValid_rows {h : List (List Bool)} (hm : (h.length : Int) ≤ 9223372036854775807) (d : Nat) : ∀ i, i ≤ h.length → h.length - i = d → (∀ j, j < i → rowOk h j j) →
    ∃ K b, graph_isValid.l0 K h h (h.length : Int) (i : Int) = some b ∧ (b = true ↔ Valid h) := by
  induction d with
  | zero =>
    intro i hi hd hp
    have e : i = h.length := by omega
    subst e
    refine ⟨1, decide ((h.length : Int) ≤ 60), ?_, ?_⟩
    · simp only [graph_isValid.l0]
      rw [if_neg (by omega)]
    · constructor
      · intro g; exact valid_of_rows (by simp at g; omega) hp
      · intro v; have := v.len; simp; omega
  | succ d ih =>
    intro i hi hd hp
    have hlt : i < h.length := by omega
    by_cases hl : (h.getD i []).length = h.length
    · have hl' : ((rd_L2 h (i : Int)).length : Int) = (h.length : Int) := congrArg Int.ofNat hl
      cases hc : cell h i i with
      | true =>
        refine ⟨2, false, ?_, ?_⟩
        · have hc' : rdOf false (rd_L2 h (i : Int)) (i : Int) = true := hc
          simp only [graph_isValid.l0, graph_isValid.j1]
          rw [if_pos (by omega), if_pos (by omega), if_pos (by omega), if_pos hl', if_pos (by omega), if_pos hc']
        · constructor
          · intro g; cases g
          · intro v; rw [v.irr i hlt] at hc; cases hc
      | false =>
        have hc' : ¬ rdOf false (rd_L2 h (i : Int)) (i : Int) = true := by
          have : rdOf false (rd_L2 h (i : Int)) (i : Int) = false := hc
          rw [this]; exact Bool.false_ne_true
        -- the columns
        have cols : ∀ (e k : Nat), k ≤ i → i - k = e → (∀ j, j < k → cell h i j = cell h j i) →
            ∃ K b, graph_isValid.l1 K h (i : Int) (rd_L2 h (i : Int)) h (h.length : Int) (i : Int) (i : Int) (k : Int) = some b ∧ (b = true ↔ Valid h) := by
          intro e
          induction e with
          | zero =>
            intro k hk he hq
            have e1 : k = i := by omega
            subst e1
            obtain ⟨K, b, h1, h2⟩ := ih (k + 1) (by omega) (by omega) (fun j hj => by
              by_cases g : j = k
              · subst g; exact ⟨hl, hc, hq⟩
              · exact hp j (by omega))
            refine ⟨K + 1, b, ?_, h2⟩
            simp only [graph_isValid.l1]
            rw [if_neg (by omega), w64 (by omega)]
            exact h1
          | succ e ihe =>
            intro k hk he hq
            have hkl : ((rd_L2 h (k : Int)).length : Int) = (h.length : Int) := congrArg Int.ofNat (hp k (by omega)).1
            by_cases g : cell h i k = cell h k i
            · obtain ⟨K, b, h1, h2⟩ := ihe (k + 1) (by omega) (by omega) (fun j hj => by
                by_cases g2 : j = k
                · subst g2; exact g
                · exact hq j (by omega))
              refine ⟨K + 1, b, ?_, h2⟩
              have g' : ¬ (rdOf false (rd_L2 h (i : Int)) (k : Int) != rdOf false (rd_L2 h (k : Int)) (i : Int)) = true := by
                have : rdOf false (rd_L2 h (i : Int)) (k : Int) = rdOf false (rd_L2 h (k : Int)) (i : Int) := g
                rw [this]; simp
              simp only [graph_isValid.l1]
              rw [if_pos (by omega), if_pos (by omega), if_pos (by omega), if_pos (by omega), if_pos (by omega), if_pos (by omega), if_neg g', w64 (by omega)]
              exact h1
            · refine ⟨1, false, ?_, ?_⟩
              · have g' : (rdOf false (rd_L2 h (i : Int)) (k : Int) != rdOf false (rd_L2 h (k : Int)) (i : Int)) = true := by
                  rw [bne_iff_ne]; exact g
                simp only [graph_isValid.l1]
                rw [if_pos (by omega), if_pos (by omega), if_pos (by omega), if_pos (by omega), if_pos (by omega), if_pos (by omega), if_pos g']
              · constructor
                · intro x; cases x
                · intro v; exact absurd (v.sym i k hlt (by omega)) g
        obtain ⟨K, b, h1, h2⟩ := cols i 0 (by omega) (by omega) (fun j hj => absurd hj (by omega))
        refine ⟨K + 2, b, ?_, h2⟩
        simp only [graph_isValid.l0, graph_isValid.j1]
        rw [if_pos (by omega), if_pos (by omega), if_pos (by omega), if_pos hl', if_pos (by omega), if_neg hc']
        exact h1
    · have hl' : ¬ ((rd_L2 h (i : Int)).length : Int) = (h.length : Int) := fun e => hl (Int.ofNat.inj e)
      refine ⟨2, false, ?_, ?_⟩
      · simp only [graph_isValid.l0, graph_isValid.j1]
        rw [if_pos (by omega), if_pos (by omega), if_pos (by omega), if_neg hl']
        rfl
      · constructor
        · intro g; cases g
        · intro v; exact absurd (v.row i hlt) hl
theorem isValid_f {h : List (List Bool)} (hm : (h.length : Int) ≤ 9223372036854775807) : ∃ K b, graph_isValid.f K h = some b ∧ (b = true ↔ Valid h) :=
  isValid_rows hm h.length 0 (by omega) (by omega) (fun j hj => absurd hj (by omega))
end Go.Proofs.Ytppkmmifjfcfiaa.P
