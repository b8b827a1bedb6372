/- Plain laws on tables: the reference's way to distances, that distances exist, that they tell who is connected; the reference's way to islands. -/
import Derived.Test.YtppkmmifjfcfiaaV2
import Derived.Test.YtppkmmifjfcfiaaEv
namespace Go.Proofs.Ytppkmmifjfcfiaa.V
open Go.Proofs.Ytppkmmifjfcfiaa.P (pigeon)
set_option linter.unusedVariables false
set_option linter.unusedSimpArgs false

/-- The reference's rounds: those before d are done; in round d the nodes below i, and of node i the neighbours below k. -/
structure DR (h : List (List Bool)) (r : Nat) (out : List Int) (d i k : Nat) : Prop where
  len : out.length = h.length
  lo : ∀ j, j < h.length → -1 ≤ ov out j
  hi : ∀ j, j < h.length → ov out j ≤ d
  root : ∀ j, j < h.length → (ov out j = 0 ↔ j = r)
  near : ∀ j, j < h.length → 0 < ov out j → ∃ m, m < h.length ∧ cell h j m = true ∧ ov out m = ov out j - 1
  clo : ∀ j m, j < h.length → m < h.length → cell h j m = true → 0 ≤ ov out m → ov out m + 1 < d → 0 ≤ ov out j ∧ ov out j ≤ ov out m + 1
  now : ∀ j m, j < h.length → m < h.length → cell h j m = true → ov out m + 1 = d → (j < i ∨ (j = i ∧ m < k)) → 0 ≤ ov out j

theorem DR.start {h : List (List Bool)} {r : Nat} (hr : r < h.length) : DR h r ((List.replicate h.length (-1)).set r 0) 1 0 0 := by
  have hl : r < (List.replicate h.length (-1 : Int)).length := by simpa using hr
  have e : ∀ i, i < h.length → ov ((List.replicate h.length (-1)).set r 0) i = if i = r then 0 else -1 := by
    intro i hi
    rw [ov_set _ _ _ _ hl]
    by_cases g : i = r
    · simp [g]
    · simp [g, ov, List.getD_eq_getElem?_getD, hi]
  refine ⟨by simp, fun j hj => ?_, fun j hj => ?_, fun j hj => ?_, fun j hj h0 => ?_, fun j m hj hm _ h0 h1 => ?_, fun j m hj hm _ _ h1 => ?_⟩
  · rw [e j hj]; split <;> omega
  · rw [e j hj]; split <;> omega
  · rw [e j hj]; split <;> simp [*]
  · rw [e j hj] at h0; split at h0 <;> omega
  · omega
  · omega
theorem DR.pass {h : List (List Bool)} {r : Nat} {out : List Int} {d i k : Nat} (s : DR h r out d i k) (hn : ¬ (ov out i < 0 ∧ cell h i k = true ∧ ov out k + 1 = d)) : DR h r out d i (k + 1) := by
  refine ⟨s.len, s.lo, s.hi, s.root, s.near, s.clo, fun j m hj hm hc he hq => ?_⟩
  by_cases g : j = i ∧ m = k
  · obtain ⟨rfl, rfl⟩ := g
    have : ¬ ov out j < 0 := fun x => hn ⟨x, hc, he⟩
    omega
  · exact s.now j m hj hm hc he (by omega)
theorem DR.put {h : List (List Bool)} (v : Valid h) {r : Nat} {out : List Int} {d i k : Nat} (s : DR h r out d i k) (hd : 1 ≤ d) (hi : i < h.length) (hk : k < h.length) (h0 : ov out i < 0) (hc : cell h i k = true) (hv : ov out k + 1 = d) : DR h r (out.set i d) d i (k + 1) := by
  have e : ∀ j, ov (out.set i d) j = if j = i then (d : Int) else ov out j := fun j => ov_set out i j d (by rw [s.len]; exact hi)
  have hki : k ≠ i := fun g => by subst g; rw [v.irr k hk] at hc; cases hc
  refine ⟨by rw [List.length_set]; exact s.len, fun j hj => ?_, fun j hj => ?_, fun j hj => ?_, fun j hj hp => ?_, fun j m hj hm hcc hp hlt => ?_, fun j m hj hm hcc he hq => ?_⟩
  · rw [e]; split
    · omega
    · exact s.lo j hj
  · rw [e]; split
    · omega
    · exact s.hi j hj
  · rw [e]; split
    · rename_i g
      subst g
      constructor
      · intro x; omega
      · intro x
        have := (s.root j hj).2 x
        omega
    · exact s.root j hj
  · rw [e] at hp ⊢
    by_cases g : j = i
    · subst g
      rw [if_pos rfl]
      exact ⟨k, hk, hc, by rw [e, if_neg hki]; omega⟩
    · rw [if_neg g] at hp ⊢
      obtain ⟨m, h1, h2, h3⟩ := s.near j hj hp
      refine ⟨m, h1, h2, ?_⟩
      have : m ≠ i := fun x => by subst x; omega
      rw [e, if_neg this]; exact h3
  · rw [e] at hp hlt
    rw [e j, e m]
    by_cases g : m = i
    · rw [if_pos g] at hlt; omega
    · rw [if_neg g] at hp hlt ⊢
      have := s.clo j m hj hm hcc hp hlt
      by_cases g2 : j = i
      · subst g2; omega
      · rw [if_neg g2]; exact this
  · rw [e m] at he
    rw [e]
    by_cases g : m = i
    · rw [if_pos g] at he; omega
    · rw [if_neg g] at he
      by_cases g2 : j = i
      · rw [if_pos g2]; omega
      · rw [if_neg g2]; exact s.now j m hj hm hcc he (by omega)
theorem DR.nexti {h : List (List Bool)} {r : Nat} {out : List Int} {d i : Nat} (s : DR h r out d i h.length) : DR h r out d (i + 1) 0 :=
  ⟨s.len, s.lo, s.hi, s.root, s.near, s.clo, fun j m hj hm hc he hq => s.now j m hj hm hc he (by omega)⟩
theorem DR.nextd {h : List (List Bool)} {r : Nat} {out : List Int} {d : Nat} (s : DR h r out d h.length 0) : DR h r out (d + 1) 0 0 := by
  refine ⟨s.len, s.lo, fun j hj => by have := s.hi j hj; omega, s.root, s.near, fun j m hj hm hc h0 h1 => ?_, fun j m hj hm _ _ hq => by omega⟩
  by_cases g : ov out m + 1 < d
  · exact s.clo j m hj hm hc h0 g
  · have e : ov out m + 1 = d := by omega
    have := s.now j m hj hm hc e (.inl hj)
    have := s.hi j hj
    omega
/-- Each level below a taken one is taken. -/
theorem levels {h : List (List Bool)} {out : List Int} (near : ∀ j, j < h.length → 0 < ov out j → ∃ m, m < h.length ∧ cell h j m = true ∧ ov out m = ov out j - 1) (t : Nat) :
    ∀ i, i < h.length → ov out i = t → ∀ s, s ≤ t → ∃ j, j < h.length ∧ ov out j = (s : Int) := by
  induction t with
  | zero => intro i hi he s hs; exact ⟨i, hi, by omega⟩
  | succ t ih =>
    intro i hi he s hs
    by_cases g : s = t + 1
    · exact ⟨i, hi, by omega⟩
    · obtain ⟨m, h1, h2, h3⟩ := near i hi (by omega)
      exact ih m h1 (by omega) s (by omega)
/-- The levels, and a node that is on none of them, are too many nodes. -/
theorem full {h : List (List Bool)} {out : List Int} (near : ∀ j, j < h.length → 0 < ov out j → ∃ m, m < h.length ∧ cell h j m = true ∧ ov out m = ov out j - 1)
    {i k : Nat} (hi : i < h.length) (hk : k < h.length) (h1 : (h.length : Int) ≤ ov out i + 1) (h2 : ov out k < 0 ∨ (h.length : Int) ≤ ov out k) : False := by
  have lv : ∀ s : Nat, s < h.length → ∃ j, j < h.length ∧ ov out j = (s : Int) := fun s hs =>
    levels near (ov out i).toNat i hi (by omega) s (by omega)
  have := pigeon h.length (h.length + 1) (fun s => if x : s < h.length then Classical.choose (lv s x) else k) (fun s hs => by
    show (if x : s < h.length then Classical.choose (lv s x) else k) < h.length
    split
    · rename_i x; exact (Classical.choose_spec (lv s x)).1
    · exact hk) (fun a b hab hb => by
    show (if x : a < h.length then Classical.choose (lv a x) else k) ≠ (if x : b < h.length then Classical.choose (lv b x) else k)
    have ha : a < h.length := by omega
    rw [dif_pos ha]
    have e1 := (Classical.choose_spec (lv a ha)).2
    intro g
    by_cases hb2 : b < h.length
    · rw [dif_pos hb2] at g
      have e2 := (Classical.choose_spec (lv b hb2)).2
      rw [← g] at e2
      omega
    · rw [dif_neg hb2] at g
      rw [g] at e1
      omega)
  omega
theorem DR.done {h : List (List Bool)} (v : Valid h) {r : Nat} {out : List Int} (s : DR h r out h.length 0 0) : IsDist h r out := by
  refine ⟨s.len, s.lo, s.root, s.near, fun i k hi hk hc h0 => ?_⟩
  by_cases g : ov out i + 1 < h.length
  · exact s.clo k i hk hi (by rw [v.sym k i hk hi]; exact hc) h0 g
  · have := s.hi k hk
    have : ¬ ov out k < 0 := fun x => full s.near hi hk (by omega) (.inl x)
    omega
theorem IsDist.lt {h : List (List Bool)} {r : Nat} {out : List Int} (s : IsDist h r out) {i : Nat} (hi : i < h.length) : ov out i < h.length := by
  refine Int.not_le.mp fun g => ?_
  exact full s.near hi hi (by omega) (.inr g)
theorem IsDist.conn {h : List (List Bool)} (v : Valid h) {r : Nat} (hr : r < h.length) {out : List Int} (s : IsDist h r out) {j : Nat} (hj : j < h.length) : 0 ≤ ov out j ↔ Conn h r j := by
  constructor
  · intro h0
    obtain ⟨t, ht⟩ := Int.eq_ofNat_of_zero_le h0
    clear h0
    induction t generalizing j with
    | zero => rw [(s.root j hj).1 ht]; exact .refl r
    | succ t ih =>
      obtain ⟨m, h1, h2, h3⟩ := s.near j hj (by omega)
      exact .step (ih h1 (by omega)) h1 hj (by rw [v.sym m j h1 hj]; exact h2)
  · intro c
    induction c with
    | refl => have := (s.root r hr).2 rfl; omega
    | step _ h1 h2 h3 ih => exact (s.adj _ _ h1 h2 h3 (ih h1)).1

/-! ### Islands -/
/-- The reference's rounds over labels: t rounds are done; in this one the nodes below i, and of node i the neighbours below k. -/
structure IR (h : List (List Bool)) (D : Nat → List Int) (out : List Int) (t i k : Nat) : Prop where
  len : out.length = h.length
  val : ∀ j, j < h.length → ∃ a : Nat, ov out j = a ∧ a ≤ j ∧ Conn h a j
  old : ∀ a j, a < h.length → j < h.length → 0 ≤ ov (D a) j → ov (D a) j ≤ t → ov out j ≤ a
  new : ∀ a j, a < h.length → j < i → j < h.length → 0 ≤ ov (D a) j → ov (D a) j ≤ t + 1 → ov out j ≤ a
  me : ∀ a m, a < h.length → m < k → m < h.length → i < h.length → cell h i m = true → 0 ≤ ov (D a) m → ov (D a) m ≤ t → ov out i ≤ a

theorem IR.start {h : List (List Bool)} {D : Nat → List Int} (hD : ∀ a, a < h.length → IsDist h a (D a)) {out : List Int} (hl : out.length = h.length) (ho : ∀ j, j < h.length → ov out j = j) : IR h D out 0 0 0 :=
  ⟨hl, fun j hj => ⟨j, ho j hj, Nat.le_refl _, .refl j⟩, fun a j ha hj h0 h1 => by
    have := ((hD a ha).root j hj).1 (by omega)
    rw [ho j hj]; omega, fun a j _ hj => absurd hj (by omega), fun a m _ hm => absurd hm (by omega)⟩
theorem IR.pass {h : List (List Bool)} {D : Nat → List Int} {out : List Int} {t i k : Nat} (s : IR h D out t i k) (hc : cell h i k = false) : IR h D out t i (k + 1) :=
  ⟨s.len, s.val, s.old, s.new, fun a m ha hm hm2 hi hcc h0 h1 => by
    by_cases g : m = k
    · subst g; rw [hc] at hcc; cases hcc
    · exact s.me a m ha (by omega) hm2 hi hcc h0 h1⟩
theorem IR.put {h : List (List Bool)} (v : Valid h) {D : Nat → List Int} {out : List Int} {t i k : Nat} (s : IR h D out t i k) (hi : i < h.length) (hk : k < h.length) (hc : cell h i k = true) (x : Int) (hx : (x = ov out i ∨ x = ov out k) ∧ x ≤ ov out i ∧ x ≤ ov out k) : IR h D (out.set i x) t i (k + 1) := by
  have e : ∀ j, ov (out.set i x) j = if j = i then x else ov out j := fun j => ov_set out i j x (by rw [s.len]; exact hi)
  have le : ∀ j, ov (out.set i x) j ≤ ov out j := fun j => by
    rw [e]
    by_cases g : j = i
    · rw [if_pos g, g]; exact hx.2.1
    · rw [if_neg g]; exact Int.le_refl _
  refine ⟨by rw [List.length_set]; exact s.len, fun j hj => ?_, fun a j ha hj h0 h1 => ?_, fun a j ha hji hj h0 h1 => ?_, fun a m ha hm hm2 hi2 hcc h0 h1 => ?_⟩
  · rw [e]
    by_cases g : j = i
    · subst g
      rw [if_pos rfl]
      obtain ⟨a, h1, h2, h3⟩ := s.val j hj
      obtain ⟨b, g1, g2, g3⟩ := s.val k hk
      rcases hx with ⟨hx | hx, hx2, hx3⟩
      · exact ⟨a, by omega, h2, h3⟩
      · exact ⟨b, by omega, by omega, .step g3 hk hj (by rw [v.sym k j hk hj]; exact hc)⟩
    · rw [if_neg g]; exact s.val j hj
  · have := le j
    have := s.old a j ha hj h0 h1
    omega
  · have := le j
    have := s.new a j ha hji hj h0 h1
    omega
  · by_cases g : m = k
    · subst g
      have := s.old a m ha hm2 h0 h1
      rw [e, if_pos rfl]
      omega
    · have := s.me a m ha (by omega) hm2 hi2 hcc h0 h1
      have := le i
      omega
theorem IR.nexti {h : List (List Bool)} {D : Nat → List Int} (hD : ∀ a, a < h.length → IsDist h a (D a)) {out : List Int} {t i : Nat} (s : IR h D out t i h.length) : IR h D out t (i + 1) 0 := by
  refine ⟨s.len, s.val, s.old, fun a j ha hji hj h0 h1 => ?_, fun a m _ hm => absurd hm (by omega)⟩
  by_cases g : j = i
  · subst g
    by_cases q : 0 < ov (D a) j
    · obtain ⟨m, g1, g2, g3⟩ := (hD a ha).near j hj q
      exact s.me a m ha g1 g1 hj g2 (by omega) (by omega)
    · exact s.old a j ha hj h0 (by omega)
  · exact s.new a j ha (by omega) hj h0 h1
theorem IR.nextt {h : List (List Bool)} {D : Nat → List Int} {out : List Int} {t : Nat} (s : IR h D out t h.length 0) : IR h D out (t + 1) 0 0 :=
  ⟨s.len, s.val, fun a j ha hj h0 h1 => s.new a j ha hj hj h0 (by omega), fun a j _ hj => absurd hj (by omega), fun a m _ hm => absurd hm (by omega)⟩
theorem IR.done {h : List (List Bool)} (v : Valid h) {D : Nat → List Int} (hD : ∀ a, a < h.length → IsDist h a (D a)) {out : List Int} (s : IR h D out h.length 0 0) : IsIsl h out := by
  have key : ∀ a j, a < h.length → j < h.length → Conn h a j → ov out j ≤ a := fun a j ha hj c =>
    s.old a j ha hj (((hD a ha).conn v ha hj).2 c) (by have := (hD a ha).lt hj; omega)
  refine ⟨s.len, fun j hj => ?_, fun j k hj hk hc => ?_⟩
  · obtain ⟨a, h1, h2, h3⟩ := s.val j hj
    refine ⟨a, h1, h2, h3, ?_⟩
    obtain ⟨b, g1, g2, g3⟩ := s.val a (by omega)
    have := key b j (by omega) hj (g3.trans h3)
    omega
  · obtain ⟨a, h1, h2, h3⟩ := s.val j hj
    obtain ⟨b, g1, g2, g3⟩ := s.val k hk
    have c1 := key a k (by omega) hk (.step h3 hj hk hc)
    have c2 := key b j (by omega) hj (.step g3 hk hj (by rw [v.sym k j hk hj]; exact hc))
    omega
end Go.Proofs.Ytppkmmifjfcfiaa.V
