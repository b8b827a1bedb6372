/- Plain laws on tables of who hears whom: distances (what they are, that they are unique, a search with a queue finds them). No program in sight. -/
namespace Go.Proofs.Ytppkmmifjfcfiaa.V
set_option linter.unusedVariables false
set_option linter.unusedSimpArgs false

def cell (h : List (List Bool)) (i k : Nat) : Bool := (h.getD i []).getD k false
def ov (out : List Int) (i : Nat) : Int := out.getD i 0
structure Valid (h : List (List Bool)) : Prop where
  len : h.length ≤ 60
  row : ∀ i, i < h.length → (h.getD i []).length = h.length
  irr : ∀ i, i < h.length → cell h i i = false
  sym : ∀ i k, i < h.length → k < h.length → cell h i k = cell h k i

theorem ov_set (out : List Int) (m i : Nat) (d : Int) (hm : m < out.length) : ov (out.set m d) i = if i = m then d else ov out i := by
  unfold ov
  by_cases h : i = m
  · subst h; simp [List.getD_eq_getElem?_getD, hm]
  · rw [if_neg h]; simp [List.getD_eq_getElem?_getD, List.getElem?_set, Ne.symm h]
theorem ov_ext {a b : List Int} (hl : a.length = b.length) (h : ∀ i, i < a.length → ov a i = ov b i) : a = b := by
  apply List.ext_getElem hl
  intro i h1 h2
  have := h i h1
  simpa [ov, List.getD_eq_getElem?_getD, h1, h2] using this

structure IsDist (h : List (List Bool)) (r : Nat) (out : List Int) : Prop where
  len : out.length = h.length
  lo : ∀ i, i < h.length → -1 ≤ ov out i
  root : ∀ i, i < h.length → (ov out i = 0 ↔ i = r)
  near : ∀ i, i < h.length → 0 < ov out i → ∃ k, k < h.length ∧ cell h i k = true ∧ ov out k = ov out i - 1
  adj : ∀ i k, i < h.length → k < h.length → cell h i k = true → 0 ≤ ov out i → 0 ≤ ov out k ∧ ov out k ≤ ov out i + 1

theorem IsDist.le {h : List (List Bool)} {r : Nat} {a b : List Int} (hv : Valid h) (ha : IsDist h r a) (hb : IsDist h r b) : ∀ (d : Nat) (i : Nat), i < h.length → ov a i = d → 0 ≤ ov b i ∧ ov b i ≤ d := by
  intro d
  induction d with
  | zero =>
    intro i hi he
    have := (ha.root i hi).1 he
    have := (hb.root i hi).2 this
    omega
  | succ d ih =>
    intro i hi he
    obtain ⟨k, hk, hc, hd⟩ := ha.near i hi (by omega)
    have h1 := ih k hk (by omega)
    have h2 := hb.adj k i hk hi (by rw [hv.sym k i hk hi]; exact hc) h1.1
    omega
theorem IsDist.unique {h : List (List Bool)} {r : Nat} {a b : List Int} (hv : Valid h) (ha : IsDist h r a) (hb : IsDist h r b) : a = b := by
  refine ov_ext (ha.len.trans hb.len.symm) fun i hi => ?_
  rw [ha.len] at hi
  have la := ha.lo i hi
  have lb := hb.lo i hi
  by_cases h1 : 0 ≤ ov a i
  · obtain ⟨d, hd⟩ := Int.eq_ofNat_of_zero_le h1
    have x := IsDist.le hv ha hb d i hi hd
    obtain ⟨e, he⟩ := Int.eq_ofNat_of_zero_le x.1
    have y := IsDist.le hv hb ha e i hi he
    omega
  · by_cases h2 : 0 ≤ ov b i
    · obtain ⟨e, he⟩ := Int.eq_ofNat_of_zero_le h2
      have y := IsDist.le hv hb ha e i hi he
      omega
    · omega

/-- How many nodes have no number yet. -/
def cneg (out : List Int) : Nat := out.countP (fun x => decide (x < 0))
theorem cneg_set {out : List Int} {m : Nat} {d : Int} (hm : m < out.length) (h0 : ov out m < 0) (hd : 0 ≤ d) : cneg (out.set m d) + 1 = cneg out := by
  unfold cneg ov at *
  induction out generalizing m with
  | nil => simp at hm
  | cons x xs ih =>
    cases m with
    | zero =>
      simp at h0
      have : ¬ d < 0 := by omega
      simp [List.countP_cons, h0, this]
    | succ m =>
      simp at hm h0
      have := ih hm (by simpa using h0)
      simp only [List.set_cons_succ, List.countP_cons]
      omega
theorem cneg_pos {out : List Int} {m : Nat} (hm : m < out.length) (h0 : ov out m < 0) : 0 < cneg out := by
  have := cneg_set (d := 0) hm h0 (by omega)
  omega
theorem cneg_le (out : List Int) : cneg out ≤ out.length := List.countP_le_length

/-- The search, between two steps: x is the node whose neighbours are looked at (those below m have been), q waits. -/
structure Inv (h : List (List Bool)) (r : Nat) (out : List Int) (q : List Nat) (x m : Nat) : Prop where
  len : out.length = h.length
  lo : ∀ i, i < h.length → -1 ≤ ov out i
  root : ∀ i, i < h.length → (ov out i = 0 ↔ i = r)
  near : ∀ i, i < h.length → 0 < ov out i → ∃ k, k < h.length ∧ cell h i k = true ∧ ov out k = ov out i - 1
  qb : ∀ i, i ∈ q → i < h.length ∧ 0 ≤ ov out i
  fin : ∀ i k, i < h.length → k < h.length → 0 ≤ ov out i → i ∉ q → cell h i k = true → (i = x → k < m) → 0 ≤ ov out k ∧ ov out k ≤ ov out i + 1
  srt : q.Pairwise (fun a b => ov out a ≤ ov out b)
  hi : ∀ i j, i < h.length → j ∈ q → ov out i ≤ ov out j + 1
  cnt : cneg out + q.length ≤ h.length
  sm : ∀ i, i < h.length → ov out i + cneg out + 1 ≤ h.length
/-- .. and what is known of x. -/
structure At (h : List (List Bool)) (out : List Int) (q : List Nat) (x : Nat) : Prop where
  b : x < h.length
  v : 0 ≤ ov out x
  hi : ∀ i, i < h.length → ov out i ≤ ov out x + 1
  lo : ∀ j, j ∈ q → ov out x ≤ ov out j

theorem Inv.start {h : List (List Bool)} {r : Nat} (hr : r < h.length) : Inv h r ((List.replicate h.length (-1)).set r 0) [r] 0 h.length := by
  have hl : r < (List.replicate h.length (-1 : Int)).length := by simpa using hr
  have e : ∀ i, i < h.length → ov ((List.replicate h.length (-1)).set r 0) i = if i = r then 0 else -1 := by
    intro i hi
    rw [ov_set _ _ _ _ hl]
    by_cases g : i = r
    · simp [g]
    · simp [g, ov, List.getD_eq_getElem?_getD, hi]
  refine ⟨by simp, fun i hi => ?_, fun i hi => ?_, fun i hi h0 => ?_, fun i hi => ?_, fun i k hi hk h0 hq hc hx => ?_, by simp, fun i j hi hj => ?_, ?_, fun i hi => ?_⟩
  · rw [e i hi]; split <;> omega
  · rw [e i hi]; split <;> simp_all
  · rw [e i hi] at h0; split at h0 <;> omega
  · simp at hi; subst hi; rw [e i hr]; simp [hr]
  · rw [e i hi] at h0
    by_cases g : i = r
    · simp [g] at hq
    · simp [g] at h0
  · simp at hj; subst hj; rw [e i hi, e j hr]; simp; split <;> omega
  · have h1 := cneg_set (out := List.replicate h.length (-1)) (m := r) (d := 0) hl (by simp [ov, List.getD_eq_getElem?_getD, hr]) (by omega)
    have h2 := cneg_le (List.replicate h.length (-1))
    simp at h2
    simp; omega
  · have h1 := cneg_set (out := List.replicate h.length (-1)) (m := r) (d := 0) hl (by simp [ov, List.getD_eq_getElem?_getD, hr]) (by omega)
    have h2 := cneg_le (List.replicate h.length (-1))
    simp at h2
    rw [e i hi]; split <;> omega
theorem Inv.pop {h : List (List Bool)} {r : Nat} {out : List Int} {x0 x : Nat} {q : List Nat} (hi : Inv h r out (x :: q) x0 h.length) : Inv h r out q x 0 ∧ At h out q x := by
  have hx := hi.qb x (by simp)
  have hs := List.pairwise_cons.1 hi.srt
  refine ⟨⟨hi.len, hi.lo, hi.root, hi.near, fun i h1 => hi.qb i (by simp [h1]), fun i k h1 h2 h3 h4 h5 h6 => ?_, hs.2, fun i j h1 h2 => hi.hi i j h1 (by simp [h2]), ?_, hi.sm⟩, ⟨hx.1, hx.2, fun i h1 => hi.hi i x h1 (by simp), fun j hj => hs.1 j hj⟩⟩
  · by_cases g : i = x
    · have := h6 g; omega
    · exact hi.fin i k h1 h2 h3 (by simp [g, h4]) h5 (fun _ => h2)
  · have := hi.cnt; simp at this; omega
theorem Inv.pass {h : List (List Bool)} {r : Nat} {out : List Int} {x m : Nat} {q : List Nat} (hi : Inv h r out q x m) (ha : At h out q x) (hm : m < h.length) (hc : cell h x m = true → 0 ≤ ov out m) : Inv h r out q x (m + 1) :=
  ⟨hi.len, hi.lo, hi.root, hi.near, hi.qb, fun i k h1 h2 h3 h4 h5 h6 => by
    by_cases g : i = x
    · subst g
      by_cases g2 : k = m
      · subst g2; exact ⟨hc h5, ha.hi k h2⟩
      · exact hi.fin i k h1 h2 h3 h4 h5 (fun _ => by have := h6 rfl; omega)
    · exact hi.fin i k h1 h2 h3 h4 h5 (fun e => absurd e g), hi.srt, hi.hi, hi.cnt, hi.sm⟩
theorem Inv.push {h : List (List Bool)} (hv : Valid h) {r : Nat} {out : List Int} {x m : Nat} {q : List Nat} (hi : Inv h r out q x m) (ha : At h out q x) (hm : m < h.length) (hc : cell h x m = true) (h0 : ov out m < 0) :
    Inv h r (out.set m (ov out x + 1)) (q ++ [m]) x (m + 1) ∧ At h (out.set m (ov out x + 1)) (q ++ [m]) x ∧ q.length < h.length ∧ cneg (out.set m (ov out x + 1)) + (q ++ [m]).length = cneg out + q.length := by
  have hl : m < out.length := by rw [hi.len]; exact hm
  have hx := ha.v
  have hne : x ≠ m := fun e => by subst e; omega
  have e : ∀ i, ov (out.set m (ov out x + 1)) i = if i = m then ov out x + 1 else ov out i := fun i => ov_set out m i _ hl
  have ex : ov (out.set m (ov out x + 1)) x = ov out x := by rw [e, if_neg hne]
  have c1 := cneg_set (d := ov out x + 1) hl h0 (by omega)
  have hmr : m ≠ r := fun g => by have := (hi.root m hm).2 g; omega
  refine ⟨⟨by simp [hi.len], fun i h1 => ?_, fun i h1 => ?_, fun i h1 h2 => ?_, fun i h1 => ?_, fun i k h1 h2 h3 h4 h5 h6 => ?_, ?_, fun i j h1 h2 => ?_, ?_, fun i h1 => ?_⟩, ⟨ha.b, by rw [ex]; exact hx, fun i h1 => ?_, fun j hj => ?_⟩, by have := hi.cnt; omega, by simp; omega⟩
  · rw [e]; have := hi.lo i h1; split <;> omega
  · rw [e]
    split
    · rename_i g; subst g; exact ⟨fun g => by omega, fun g => absurd g hmr⟩
    · exact hi.root i h1
  · rw [e] at h2
    by_cases g : i = m
    · subst g
      refine ⟨x, ha.b, by rw [hv.sym i x h1 ha.b]; exact hc, ?_⟩
      rw [ex, e, if_pos rfl]; omega
    · rw [if_neg g] at h2
      obtain ⟨k, hk, hc', hd⟩ := hi.near i h1 h2
      refine ⟨k, hk, hc', ?_⟩
      rw [e, e, if_neg g, if_neg (fun g' => by subst g'; omega)]
      exact hd
  · rw [e]
    simp at h1
    rcases h1 with h1 | h1
    · have := hi.qb i h1
      refine ⟨this.1, ?_⟩
      split <;> omega
    · subst h1; simp; omega
  · simp only [List.mem_append, List.mem_singleton, not_or] at h4
    rw [e, if_neg h4.2] at h3
    rw [e, e, if_neg h4.2]
    by_cases g : k = m
    · rw [if_pos g]
      by_cases g2 : i = x
      · subst g2; omega
      · subst g
        have := (hi.fin i k h1 h2 h3 h4.1 h5 (fun z => absurd z g2)).1
        omega
    · rw [if_neg g]
      refine hi.fin i k h1 h2 h3 h4.1 h5 (fun z => ?_)
      have := h6 z
      omega
  · rw [List.pairwise_append]
    refine ⟨?_, by simp, fun a ha' b hb => ?_⟩
    · refine hi.srt.imp_of_mem ?_
      intro a b h1 h2 h3
      have := hi.qb a h1
      have := hi.qb b h2
      rw [e, e, if_neg (fun g => by subst g; omega), if_neg (fun g => by subst g; omega)]
      exact h3
    · simp at hb
      subst hb
      have := hi.qb a ha'
      rw [e, e, if_pos rfl, if_neg (fun g => by subst g; omega)]
      exact ha.hi a this.1
  · simp at h2
    rw [e, e]
    have := ha.hi i h1
    rcases h2 with h2 | h2
    · have g1 := hi.qb j h2
      have g2 := ha.lo j h2
      have g3 := hi.hi i j h1 h2
      rw [if_neg (show ¬ j = m from fun g => by subst g; omega)]
      split <;> omega
    · rw [if_pos h2]; split <;> omega
  · have := hi.cnt; simp; omega
  · have := hi.sm i h1
    have := hi.sm x ha.b
    rw [e]; split <;> omega
  · rw [ex, e]; have := ha.hi i h1; split <;> omega
  · simp at hj
    rw [ex, e]
    rcases hj with hj | hj
    · have := ha.lo j hj
      split <;> omega
    · rw [if_pos hj]; omega
theorem Inv.done {h : List (List Bool)} {r : Nat} {out : List Int} {x : Nat} (hi : Inv h r out [] x h.length) : IsDist h r out :=
  ⟨hi.len, hi.lo, hi.root, hi.near, fun i k h1 h2 h3 h4 => hi.fin i k h1 h2 h4 (by simp) h3 (fun _ => h2)⟩
end Go.Proofs.Ytppkmmifjfcfiaa.V
