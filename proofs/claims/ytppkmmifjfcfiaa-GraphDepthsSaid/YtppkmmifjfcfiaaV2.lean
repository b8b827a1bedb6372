/- Plain laws on tables of who hears whom: islands (what they are, that they are unique, a recursive search finds them). No program in sight. -/
import Derived.Test.YtppkmmifjfcfiaaV
namespace Go.Proofs.Ytppkmmifjfcfiaa.V
set_option linter.unusedVariables false
set_option linter.unusedSimpArgs false

inductive Conn (h : List (List Bool)) : Nat → Nat → Prop where
  | refl (i : Nat) : Conn h i i
  | step {i j k : Nat} : Conn h i j → j < h.length → k < h.length → cell h j k = true → Conn h i k
theorem Conn.trans {h : List (List Bool)} {i j k : Nat} (a : Conn h i j) (b : Conn h j k) : Conn h i k := by
  induction b with
  | refl => exact a
  | step _ h1 h2 h3 ih => exact .step ih h1 h2 h3
theorem Conn.symm {h : List (List Bool)} (v : Valid h) {i j : Nat} (a : Conn h i j) : Conn h j i := by
  induction a with
  | refl => exact .refl _
  | step _ h1 h2 h3 ih => exact (Conn.step (.refl _) h2 h1 (by rw [v.sym _ _ h2 h1]; exact h3)).trans ih

structure IsIsl (h : List (List Bool)) (out : List Int) : Prop where
  len : out.length = h.length
  val : ∀ j, j < h.length → ∃ a : Nat, ov out j = a ∧ a ≤ j ∧ Conn h a j ∧ ov out a = a
  eqn : ∀ j k, j < h.length → k < h.length → cell h j k = true → ov out k = ov out j
theorem IsIsl.conn {h : List (List Bool)} {out : List Int} (s : IsIsl h out) {i j : Nat} (c : Conn h i j) : ov out j = ov out i := by
  induction c with
  | refl => rfl
  | step _ h1 h2 h3 ih => rw [s.eqn _ _ h1 h2 h3, ih]
theorem IsIsl.le {h : List (List Bool)} {a b : List Int} (ha : IsIsl h a) (hb : IsIsl h b) {j : Nat} (hj : j < h.length) : ov b j ≤ ov a j := by
  obtain ⟨m, h1, h2, h3, h4⟩ := ha.val j hj
  have h5 := hb.conn h3
  obtain ⟨n, g1, g2, g3, g4⟩ := hb.val m (by omega)
  omega
theorem IsIsl.unique {h : List (List Bool)} {a b : List Int} (ha : IsIsl h a) (hb : IsIsl h b) : a = b := by
  refine ov_ext (ha.len.trans hb.len.symm) fun i hi => ?_
  rw [ha.len] at hi
  have := ha.le hb hi
  have := hb.le ha hi
  omega
theorem IsIsl.iff {h : List (List Bool)} {out : List Int} (v : Valid h) (s : IsIsl h out) {i j : Nat} (hi : i < h.length) (hj : j < h.length) : ov out i = ov out j ↔ Conn h i j := by
  constructor
  · intro e
    obtain ⟨a, h1, h2, h3, h4⟩ := s.val i hi
    obtain ⟨b, g1, g2, g3, g4⟩ := s.val j hj
    have : a = b := by omega
    subst this
    exact (h3.symm v).trans g3
  · intro c; exact (s.conn c).symm

/-- What a visit of node i with a number does. -/
structure VPost (h : List (List Bool)) (i : Nat) (num : Int) (out out' : List Int) : Prop where
  len : out'.length = out.length
  keep : ∀ j, j < h.length → 0 ≤ ov out j → ov out' j = ov out j
  new : ∀ j, j < h.length → ov out j < 0 → 0 ≤ ov out' j → ov out' j = num ∧ Conn h i j
  me : ov out' i = num
  clo : ∀ j k, j < h.length → k < h.length → ov out j < 0 → 0 ≤ ov out' j → cell h j k = true → 0 ≤ ov out' k
  dec : cneg out' ≤ cneg out
/-- .. while its neighbours are looked at: those below m have been. -/
structure VLoop (h : List (List Bool)) (i : Nat) (num : Int) (out cur : List Int) (m : Nat) : Prop where
  len : cur.length = out.length
  keep : ∀ j, j < h.length → 0 ≤ ov out j → ov cur j = ov out j
  new : ∀ j, j < h.length → ov out j < 0 → 0 ≤ ov cur j → ov cur j = num ∧ Conn h i j
  me : ov cur i = num
  clo : ∀ j k, j < h.length → k < h.length → ov out j < 0 → 0 ≤ ov cur j → j ≠ i → cell h j k = true → 0 ≤ ov cur k
  cloi : ∀ k, k < m → k < h.length → cell h i k = true → 0 ≤ ov cur k
  dec : cneg cur < cneg out
theorem VLoop.start {h : List (List Bool)} {i : Nat} {num : Int} {out : List Int} (hl : out.length = h.length) (hi : i < h.length) (h0 : ov out i < 0) (hn : 0 ≤ num) : VLoop h i num out (out.set i num) 0 := by
  have hlt : i < out.length := by omega
  have e : ∀ j, ov (out.set i num) j = if j = i then num else ov out j := fun j => ov_set out i j num hlt
  have hc := cneg_set (d := num) hlt h0 hn
  refine ⟨by simp, fun j hj h1 => ?_, fun j hj h1 h2 => ?_, ?_, fun j k hj hk h1 h2 h3 h4 => ?_, fun k hk => absurd hk (by omega), by omega⟩
  · rw [e, if_neg (fun g => by subst g; omega)]
  · rw [e] at h2 ⊢
    by_cases g : j = i
    · subst g; simp; exact .refl _
    · rw [if_neg g] at h2; omega
  · rw [e, if_pos rfl]
  · rw [e, if_neg h3] at h2; omega
theorem VLoop.pass {h : List (List Bool)} {i m : Nat} {num : Int} {out cur : List Int} (l : VLoop h i num out cur m) (hc : cell h i m = true → 0 ≤ ov cur m) : VLoop h i num out cur (m + 1) :=
  ⟨l.len, l.keep, l.new, l.me, l.clo, fun k hk h1 h2 => by
    by_cases g : k = m
    · subst g; exact hc h2
    · exact l.cloi k (by omega) h1 h2, l.dec⟩
theorem VLoop.visit {h : List (List Bool)} {i m : Nat} {num : Int} {out cur cur' : List Int} (hn : 0 ≤ num) (hi : i < h.length) (hm : m < h.length) (hc : cell h i m = true) (l : VLoop h i num out cur m) (p : VPost h m num cur cur') : VLoop h i num out cur' (m + 1) := by
  have vis : ∀ j, j < h.length → 0 ≤ ov cur j → 0 ≤ ov cur' j := fun j hj h0 => by rw [p.keep j hj h0]; exact h0
  refine ⟨p.len.trans l.len, fun j hj h0 => ?_, fun j hj h0 h1 => ?_, ?_, fun j k hj hk h0 h1 h2 h3 => ?_, fun k hk h1 h2 => ?_, ?_⟩
  · rw [p.keep j hj (by rw [l.keep j hj h0]; exact h0), l.keep j hj h0]
  · by_cases g : 0 ≤ ov cur j
    · rw [p.keep j hj g]; exact l.new j hj h0 g
    · obtain ⟨e, c⟩ := p.new j hj (by omega) h1
      exact ⟨e, (Conn.step (.refl _) hi hm hc).trans c⟩
  · rw [p.keep i hi (by rw [l.me]; exact hn), l.me]
  · by_cases g : 0 ≤ ov cur j
    · exact vis k hk (l.clo j k hj hk h0 g h2 h3)
    · exact p.clo j k hj hk (by omega) h1 h3
  · by_cases g : k = m
    · subst g; rw [p.me]; exact hn
    · exact vis k h1 (l.cloi k (by omega) h1 h2)
  · have := p.dec; have := l.dec; omega
theorem VLoop.done {h : List (List Bool)} {i : Nat} {num : Int} {out cur : List Int} (l : VLoop h i num out cur h.length) : VPost h i num out cur :=
  ⟨l.len, l.keep, l.new, l.me, fun j k hj hk h0 h1 h2 => by
    by_cases g : j = i
    · subst g; exact l.cloi k hk hk h2
    · exact l.clo j k hj hk h0 h1 g h2, by have := l.dec; omega⟩

/-- The search over all nodes: those below m have been. -/
structure MInv (h : List (List Bool)) (out : List Int) (m : Nat) : Prop where
  len : out.length = h.length
  vis : ∀ i, i < m → i < h.length → 0 ≤ ov out i
  eqn : ∀ j k, j < h.length → k < h.length → 0 ≤ ov out j → cell h j k = true → ov out k = ov out j
  val : ∀ j, j < h.length → 0 ≤ ov out j → ∃ a : Nat, ov out j = a ∧ a ≤ j ∧ Conn h a j ∧ ov out a = a
theorem MInv.start (h : List (List Bool)) : MInv h (List.replicate h.length (-1)) 0 := by
  have e : ∀ i, i < h.length → ov (List.replicate h.length (-1)) i = -1 := fun i hi => by simp [ov, List.getD_eq_getElem?_getD, hi]
  refine ⟨by simp, fun i hi => absurd hi (by omega), fun j k hj hk h0 => ?_, fun j hj h0 => ?_⟩
  · rw [e j hj] at h0; omega
  · rw [e j hj] at h0; omega
theorem MInv.pass {h : List (List Bool)} {out : List Int} {m : Nat} (i : MInv h out m) (h0 : 0 ≤ ov out m) : MInv h out (m + 1) :=
  ⟨i.len, fun j hj h1 => by
    by_cases g : j = m
    · subst g; exact h0
    · exact i.vis j (by omega) h1, i.eqn, i.val⟩
theorem MInv.visit {h : List (List Bool)} {out out' : List Int} {m : Nat} (v : Valid h) (i : MInv h out m) (hm : m < h.length) (h0 : ov out m < 0) (p : VPost h m m out out') : MInv h out' (m + 1) := by
  have old : ∀ j, j < h.length → 0 ≤ ov out j → 0 ≤ ov out' j := fun j hj h0 => by rw [p.keep j hj h0]; exact h0
  refine ⟨p.len.trans i.len, fun j hj h1 => ?_, fun j k hj hk h1 hc => ?_, fun j hj h1 => ?_⟩
  · by_cases g : j = m
    · subst g; rw [p.me]; omega
    · exact old j h1 (i.vis j (by omega) h1)
  · by_cases g : 0 ≤ ov out j
    · have e := i.eqn j k hj hk g hc
      rw [p.keep j hj g, p.keep k hk (by omega), e]
    · have g1 := (p.new j hj (by omega) h1).1
      have g2 := p.clo j k hj hk (by omega) h1 hc
      by_cases g3 : 0 ≤ ov out k
      · have := i.eqn k j hk hj g3 (by rw [v.sym k j hk hj]; exact hc)
        omega
      · rw [(p.new k hk (by omega) g2).1, g1]
  · by_cases g : 0 ≤ ov out j
    · obtain ⟨a, e1, e2, e3, e4⟩ := i.val j hj g
      exact ⟨a, by rw [p.keep j hj g, e1], e2, e3, by rw [p.keep a (by omega) (by omega), e4]⟩
    · obtain ⟨e, c⟩ := p.new j hj (by omega) h1
      refine ⟨m, e, ?_, c, p.me⟩
      rcases Nat.lt_or_ge j m with g1 | g1
      · have := i.vis j g1 hj; omega
      · exact g1
theorem MInv.done {h : List (List Bool)} {out : List Int} (i : MInv h out h.length) : IsIsl h out :=
  ⟨i.len, fun j hj => i.val j hj (i.vis j hj hj), fun j k hj hk hc => i.eqn j k hj hk (i.vis j hj hj) hc⟩
end Go.Proofs.Ytppkmmifjfcfiaa.V
