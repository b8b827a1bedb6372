/- Plain laws: functions with a purse that answer from some purse on; steps by parents; a pigeonhole. -/
import Derived.Test.YtppkmmifjfcfiaaB2
import Derived.Test.YtppkmmifjfcfiaaLo
namespace Go.Proofs.Ytppkmmifjfcfiaa.P
open Go.RowKit Go.Proofs.YtppkmmifjfcfiaaW.PrintWords Go.Proofs.YtppkmmifjfcfiaaW.PrintLast Go.Proofs.YtppkmmifjfcfiaaW.PrintMore
set_option linter.unusedVariables false
set_option linter.unusedSimpArgs false

/-- From some purse on the answer is r. -/
def Ev {α : Type} (f : Nat → Option α) (r : α) : Prop := ∃ K, ∀ k, K ≤ k → f k = some r
theorem Ev.get {α : Type} {f : Nat → Option α} {r : α} (h : Ev f r) : ∃ k, f k = some r := let ⟨K, hK⟩ := h; ⟨K, hK K (Nat.le_refl _)⟩
theorem Ev.un {α : Type} {f : Nat → Option α} {r : α} (h : Ev (fun k => f (k + 1)) r) : Ev f r := by
  obtain ⟨K, hK⟩ := h
  refine ⟨K + 1, fun k hk => ?_⟩
  have h : f (k - 1 + 1) = some r := hK (k - 1) (by omega)
  rwa [show k - 1 + 1 = k by omega] at h
theorem Ev.pure {α : Type} {r : α} : Ev (fun _ => some r) r := ⟨0, fun _ _ => rfl⟩
theorem Ev.pure' {α : Type} {r s : α} (h : r = s) : Ev (fun _ => some r) s := ⟨0, fun _ _ => by rw [h]⟩
theorem Ev.bind {α β : Type} {f : Nat → Option α} {g : Nat → α → Option β} {a : α} {r : β} (hf : Ev f a) (hg : Ev (fun k => g k a) r) : Ev (fun k => (f k).bind (g k)) r := by
  obtain ⟨K, hK⟩ := hf
  obtain ⟨L, hL⟩ := hg
  refine ⟨K + L, fun k hk => ?_⟩
  show (f k).bind (g k) = some r
  rw [hK k (by omega)]
  exact hL k (by omega)
theorem Ev.pos {α : Type} {c : Prop} [Decidable c] {f g : Nat → Option α} {r : α} (h : c) (e : Ev f r) : Ev (fun k => if c then f k else g k) r := by
  obtain ⟨K, hK⟩ := e
  exact ⟨K, fun k hk => by show (if c then f k else g k) = some r; rw [if_pos h]; exact hK k hk⟩
theorem Ev.neg {α : Type} {c : Prop} [Decidable c] {f g : Nat → Option α} {r : α} (h : ¬ c) (e : Ev g r) : Ev (fun k => if c then f k else g k) r := by
  obtain ⟨K, hK⟩ := e
  exact ⟨K, fun k hk => by show (if c then f k else g k) = some r; rw [if_neg h]; exact hK k hk⟩
theorem Ev.mono {α : Type} {f : Nat → Option α} {r : α} (m : ∀ k, LeO (f k) (f (k + 1))) {K : Nat} (h : f K = some r) : Ev f r := by
  refine ⟨K, fun k hk => ?_⟩
  induction k with
  | zero => rwa [show K = 0 by omega] at h
  | succ k ih =>
    by_cases e : K = k + 1
    · rwa [e] at h
    · exact m k r (ih (by omega))
theorem Ev.cong {α : Type} {f : Nat → Option α} {r s : α} (h : Ev f r) (e : r = s) : Ev f s := e ▸ h
theorem w64' {x : Int} (h : -9223372036854775808 ≤ x ∧ x ≤ 9223372036854775807) : wrap64 x = x := by unfold wrap64; omega

/-- A pigeonhole. -/
theorem pigeon (m : Nat) : ∀ (n : Nat) (f : Nat → Nat), (∀ i, i < n → f i < m) → (∀ i j, i < j → j < n → f i ≠ f j) → n ≤ m := by
  induction m with
  | zero => intro n f h _; cases n with
    | zero => omega
    | succ n => exact absurd (h 0 (by omega)) (by omega)
  | succ m ih =>
    intro n f h1 h2
    by_cases hx : ∃ i, i < n ∧ f i = m
    · obtain ⟨i0, hi0, hfi⟩ := hx
      have := ih (n - 1) (fun i => if i < i0 then f i else f (i + 1)) (fun i hi => by
        by_cases c : i < i0
        · simp only [c, if_true]
          have a := h1 i (by omega)
          have b := h2 i i0 c hi0
          omega
        · simp only [c, if_false]
          have a := h1 (i + 1) (by omega)
          have b := h2 i0 (i + 1) (by omega) (by omega)
          omega) (fun i j hij hj => by
        by_cases c : i < i0 <;> by_cases d : j < i0
        · simp only [c, d, if_true]; exact h2 i j hij (by omega)
        · simp only [c, d, if_true, if_false]; exact h2 i (j + 1) (by omega) (by omega)
        · omega
        · simp only [c, d, if_false]; exact h2 (i + 1) (j + 1) (by omega) (by omega))
      omega
    · have := ih n f (fun i hi => by
        have a := h1 i hi
        have b : f i ≠ m := fun e => hx ⟨i, hi, e⟩
        omega) h2
      omega

/-- The parent of a node, or -1. -/
def stepV (l : List Int) (a : Int) : Int := if 0 ≤ a ∧ a < (l.length : Int) ∧ 0 ≤ rd l a ∧ rd l a < (l.length : Int) then rd l a else -1
/-- n steps. -/
def stepN (l : List Int) : Nat → Int → Int
  | 0, a => a
  | n + 1, a => stepN l n (stepV l a)
/-- Within n steps (of at least 1) from a to g? -/
def meetsV (l : List Int) (g : Int) : Nat → Int → Bool
  | 0, _ => false
  | n + 1, a => if stepV l a = g then true else meetsV l g n (stepV l a)
theorem stepV_rng (l : List Int) (a : Int) : -1 ≤ stepV l a ∧ stepV l a < (l.length : Int) := by
  unfold stepV
  split <;> omega
theorem stepV_neg (l : List Int) {a : Int} (h : a < 0) : stepV l a = -1 := by
  unfold stepV; rw [if_neg (by omega)]
theorem stepN_add (l : List Int) (m n : Nat) (a : Int) : stepN l (m + n) a = stepN l n (stepN l m a) := by
  induction m generalizing a with
  | zero => simp [stepN]
  | succ m ih => rw [show m + 1 + n = (m + n) + 1 by omega]; exact ih _
theorem stepN_one (l : List Int) (n : Nat) (a : Int) : stepN l (n + 1) a = stepV l (stepN l n a) := stepN_add l n 1 a
theorem stepN_comm (l : List Int) (m n : Nat) (a : Int) : stepN l m (stepN l n a) = stepN l n (stepN l m a) := by
  rw [← stepN_add, ← stepN_add, Nat.add_comm]
theorem stepN_neg (l : List Int) (n : Nat) {a : Int} (h : a < 0) : stepN l n a < 0 := by
  induction n generalizing a with
  | zero => exact h
  | succ n ih => exact ih (by rw [stepV_neg l h]; omega)
theorem meetsV_iff (l : List Int) (g : Int) (n : Nat) (a : Int) : meetsV l g n a = true ↔ ∃ m, 1 ≤ m ∧ m ≤ n ∧ stepN l m a = g := by
  induction n generalizing a with
  | zero => exact ⟨fun h => by simp [meetsV] at h, fun ⟨m, h1, h2, _⟩ => by omega⟩
  | succ n ih =>
    unfold meetsV
    by_cases h : stepV l a = g
    · rw [if_pos h]
      exact ⟨fun _ => ⟨1, by omega, by omega, h⟩, fun _ => rfl⟩
    · rw [if_neg h, ih]
      constructor
      · rintro ⟨m, h1, h2, h3⟩; exact ⟨m + 1, by omega, by omega, h3⟩
      · rintro ⟨m, h1, h2, h3⟩
        cases m with
        | zero => omega
        | succ m =>
          cases m with
          | zero => exact absurd h3 h
          | succ m => exact ⟨m + 1, by omega, by omega, h3⟩
/-- Whoever reaches a node does so in less steps than there are nodes. -/
theorem stepN_short (l : List Int) (g : Int) (hg : 0 ≤ g) (hg2 : g < (l.length : Int)) (a : Int) (ha : a < (l.length : Int)) {n : Nat} (h : stepN l n a = g) : ∃ m, m < l.length ∧ stepN l m a = g := by
  induction n using Nat.strongRecOn with
  | _ n ih =>
    by_cases hn : n < l.length
    · exact ⟨n, hn, h⟩
    · have pos : ∀ i, i ≤ n → 0 ≤ stepN l i a := fun i hi => by
        refine Int.not_lt.mp fun hlt => ?_
        have e : stepN l n a = stepN l (n - i) (stepN l i a) := by rw [← stepN_add]; congr 1; omega
        have := stepN_neg l (n - i) hlt
        omega
      have lt : ∀ i, stepN l i a < (l.length : Int) := fun i => by
        cases i with
        | zero => exact ha
        | succ i => rw [stepN_one]; exact (stepV_rng l _).2
      by_cases hd : ∀ i j, i < j → j < n + 1 → (stepN l i a).toNat ≠ (stepN l j a).toNat
      · have := pigeon l.length (n + 1) (fun i => (stepN l i a).toNat) (fun i hi => by have := pos i (by omega); have := lt i; show (stepN l i a).toNat < l.length; omega) hd
        omega
      · have : ∃ i j, i < j ∧ j < n + 1 ∧ (stepN l i a).toNat = (stepN l j a).toNat := by
          refine Classical.byContradiction fun hx => hd fun i j h1 h2 h3 => hx ⟨i, j, h1, h2, h3⟩
        obtain ⟨i, j, h1, h2, h3⟩ := this
        have e : stepN l i a = stepN l j a := by have := pos i (by omega); have := pos j (by omega); omega
        refine ih (n - (j - i)) (by omega) ?_
        have e2 : n = j + (n - j) := by omega
        rw [show n - (j - i) = i + (n - j) by omega, stepN_add, e, ← stepN_add, ← e2]
        exact h
theorem meetsV_len (l : List Int) (g : Int) (hg : 0 ≤ g) (hg2 : g < (l.length : Int)) (a : Int) (n : Nat) (hn : l.length ≤ n) : meetsV l g n a = true ↔ ∃ m, stepN l (m + 1) a = g := by
  rw [meetsV_iff]
  constructor
  · rintro ⟨m, h1, _, h3⟩
    exact ⟨m - 1, by rw [show m - 1 + 1 = m by omega]; exact h3⟩
  · rintro ⟨m, h⟩
    obtain ⟨m', h1, h2⟩ := stepN_short l g hg hg2 (stepV l a) (stepV_rng l a).2 (n := m) h
    exact ⟨m' + 1, by omega, by omega, h2⟩

/-- Inside a table the two ways of looking for a loop agree. -/
theorem hit_neg (l : List Int) (i f : Nat) {a : Int} (h : ¬ (0 ≤ a ∧ a < (l.length : Int))) : hit l i f a = false := by
  cases f with
  | zero => rfl
  | succ f => unfold hit; rw [if_neg h]
theorem meetsV_neg (l : List Int) (g : Int) (hg : 0 ≤ g) (n : Nat) {a : Int} (h : stepV l a = -1) : meetsV l g n a = false := by
  induction n generalizing a with
  | zero => rfl
  | succ n ih =>
    unfold meetsV
    rw [if_neg (by omega), h]
    exact ih (stepV_neg l (by omega))
theorem hit_meets (l : List Int) (i : Nat) (hi : i < l.length) (f : Nat) (a : Int) : hit l i f a = meetsV l (i : Int) f a := by
  induction f generalizing a with
  | zero => rfl
  | succ f ih =>
    by_cases hr : 0 ≤ a ∧ a < (l.length : Int)
    · unfold hit
      rw [if_pos hr]
      by_cases hq : 0 ≤ rd l a ∧ rd l a < (l.length : Int)
      · have e : stepV l a = rd l a := by unfold stepV; rw [if_pos ⟨hr.1, hr.2, hq.1, hq.2⟩]
        unfold meetsV
        rw [e]
        by_cases h : rd l a = (i : Int)
        · rw [if_pos h, if_pos h]
        · rw [if_neg h, if_neg h]; exact ih _
      · have e : stepV l a = -1 := by unfold stepV; rw [if_neg (by omega)]
        rw [if_neg (by omega), meetsV_neg l _ (by omega) _ e]
        exact hit_neg l i f hq
    · rw [hit_neg l i _ hr, meetsV_neg l _ (by omega) _ (by unfold stepV; rw [if_neg (by omega)])]
theorem inLoop_iff (l : List Int) (i : Nat) (hi : i < l.length) : inLoop l i = true ↔ ∃ m, stepN l (m + 1) (i : Int) = (i : Int) := by
  unfold inLoop
  rw [hit_meets l i hi, meetsV_len l _ (by omega) (by omega) _ _ (Nat.le_refl _)]
theorem mem_loopV (l : List Int) (hl : l.length ≤ 60) (x : Int) : x ∈ loopV l ↔ 0 ≤ x ∧ x < (l.length : Int) ∧ ∃ m, stepN l (m + 1) x = x := by
  unfold loopV
  rw [if_neg (by omega)]
  unfold loopTo
  rw [List.mem_map]
  constructor
  · rintro ⟨i, hi, rfl⟩
    rw [List.mem_filter, List.mem_range] at hi
    exact ⟨by omega, by omega, (inLoop_iff l i hi.1).mp hi.2⟩
  · rintro ⟨h0, h1, h2⟩
    refine ⟨x.toNat, ?_, by omega⟩
    rw [List.mem_filter, List.mem_range]
    refine ⟨by omega, (inLoop_iff l _ (by omega)).mpr ?_⟩
    rw [show ((x.toNat : Nat) : Int) = x by omega]
    exact h2
end Go.Proofs.Ytppkmmifjfcfiaa.P
