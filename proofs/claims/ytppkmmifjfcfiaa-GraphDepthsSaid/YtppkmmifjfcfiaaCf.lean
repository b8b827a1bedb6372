/- Closed forms of the printed functions: what they answer from some purse on. -/
import Derived.Test.YtppkmmifjfcfiaaEv
namespace Go.Proofs.Ytppkmmifjfcfiaa.P
open Go.RowKit Go.Proofs.YtppkmmifjfcfiaaW.PrintWords Go.Proofs.YtppkmmifjfcfiaaW.PrintLast Go.Proofs.YtppkmmifjfcfiaaW.PrintMore
set_option linter.unusedVariables false
set_option linter.unusedSimpArgs false

theorem nx {i : Nat} (h : i ≤ 9223372036854775806) : wrap64 ((i : Int) + 1) = ((i + 1 : Nat) : Int) := by rw [w64' (by omega)]; simp

theorem isIndex_ev (a n : Int) : Ev (fun _ => graph_isIndex.f a n) (decide (0 ≤ a ∧ a < n)) := by
  unfold graph_isIndex.f
  by_cases h : 0 ≤ a
  · exact Ev.pos (by omega) (Ev.pure' (by simp [h]))
  · exact Ev.neg (by omega) (Ev.pure' (by simp [h]))
theorem Step_ev (l : List Int) (a : Int) : Ev (fun k => slotmeshref22_Step.f k l a) (stepV l a) := by
  simp only [slotmeshref22_Step.f]
  by_cases h : a < 0
  · refine Ev.pos h (Ev.un ?_)
    simp only [slotmeshref22_Step.j0]
    exact Ev.pos (by simp) (Ev.pure' (by rw [stepV_neg l h]))
  · refine Ev.neg h (Ev.un ?_)
    simp only [slotmeshref22_Step.j0]
    by_cases h2 : a < (l.length : Int)
    · refine Ev.neg (by simp; omega) ?_
      repeat (first | (refine Ev.pos (by first | assumption | omega) ?_) | (refine Ev.neg (by first | assumption | omega) ?_))
      by_cases h3 : rd l a < 0
      · exact Ev.pos h3 (Ev.pure' (by unfold stepV; rw [if_neg (by omega)]))
      · refine Ev.neg h3 ?_
        by_cases h4 : rd l a ≥ (l.length : Int)
        · exact Ev.pos h4 (Ev.pure' (by unfold stepV; rw [if_neg (by omega)]))
        · exact Ev.neg h4 (Ev.pure' (by unfold stepV; rw [if_pos (by omega)]))
    · exact Ev.pos (by simp; omega) (Ev.pure' (by unfold stepV; rw [if_neg (by omega)]))
theorem Meets_loop (l : List Int) (hl : l.length ≤ 1000000) (g : Int) (d : Nat) : ∀ (j : Nat) (a : Int), j + d = l.length → Ev (fun k => slotmeshref22_Meets.l0 k l g a (j : Int)) (meetsV l g d a) := by
  induction d with
  | zero =>
    intro j a hj
    refine Ev.un ?_
    simp only [slotmeshref22_Meets.l0]
    exact Ev.neg (by omega) Ev.pure
  | succ d ih =>
    intro j a hj
    refine Ev.un ?_
    simp only [slotmeshref22_Meets.l0]
    refine Ev.pos (by omega) (Ev.bind (Step_ev l a) ?_)
    by_cases h : stepV l a = g
    · exact Ev.pos h (Ev.pure' (by unfold meetsV; rw [if_pos h]))
    · refine Ev.neg h ?_
      rw [nx (by omega)]
      refine Ev.cong (ih (j + 1) (stepV l a) (by omega)) ?_
      conv => rhs; unfold meetsV
      rw [if_neg h]
theorem Meets_ev (l : List Int) (hl : l.length ≤ 1000000) (a g : Int) : Ev (fun k => slotmeshref22_Meets.f k l a g) (meetsV l g l.length a) := by
  simp only [slotmeshref22_Meets.f]
  exact Meets_loop l hl g l.length 0 a (by omega)

theorem drop_rd (l : List Int) (j : Nat) (h : j < l.length) : l.drop j = rd l (j : Int) :: l.drop (j + 1) := by
  rw [List.drop_eq_getElem_cons h]
  congr 1
  simp [rd, h]
theorem drop_rdOf (l : List Bool) (j : Nat) (h : j < l.length) : l.drop j = rdOf false l (j : Int) :: l.drop (j + 1) := by
  rw [List.drop_eq_getElem_cons h]
  congr 1
  simp [rdOf, h]
theorem has_loop (l : List Int) (hl : l.length ≤ 1000000) (x : Int) (d : Nat) : ∀ (j : Nat), j + d = l.length → Ev (fun k => slotmeshlaw22_has.l0 k l x (j : Int)) (decide (x ∈ l.drop j)) := by
  induction d with
  | zero =>
    intro j hj
    refine Ev.un ?_
    simp only [slotmeshlaw22_has.l0]
    refine Ev.neg (by omega) (Ev.pure' ?_)
    rw [List.drop_eq_nil_of_le (by omega)]; simp
  | succ d ih =>
    intro j hj
    refine Ev.un ?_
    simp only [slotmeshlaw22_has.l0]
    refine Ev.pos (by omega) (Ev.pos (by omega) ?_)
    have e := drop_rd l j (by omega)
    by_cases h : rd l (j : Int) = x
    · refine Ev.pos h (Ev.pure' ?_)
      rw [e, h]; simp
    · refine Ev.neg h ?_
      rw [nx (by omega)]
      refine Ev.cong (ih (j + 1) (by omega)) ?_
      rw [e]
      have : ¬ x = rd l (j : Int) := fun q => h q.symm
      simp [this]
theorem has_ev (l : List Int) (hl : l.length ≤ 1000000) (x : Int) : Ev (fun k => slotmeshlaw22_has.f k l x) (decide (x ∈ l)) := by
  simp only [slotmeshlaw22_has.f]
  exact has_loop l hl x l.length 0 (by omega)
theorem Ints_loop (a b : List Int) (hl : a.length ≤ 1000000) (hab : a.length = b.length) (d : Nat) : ∀ (j : Nat), j + d = a.length → Ev (fun k => slotmeshref22_Ints.l0 k a b (j : Int)) (decide (a.drop j = b.drop j)) := by
  induction d with
  | zero =>
    intro j hj
    refine Ev.un ?_
    simp only [slotmeshref22_Ints.l0]
    refine Ev.neg (by omega) (Ev.pure' ?_)
    rw [List.drop_eq_nil_of_le (by omega), List.drop_eq_nil_of_le (by omega)]; simp
  | succ d ih =>
    intro j hj
    refine Ev.un ?_
    simp only [slotmeshref22_Ints.l0]
    repeat (first | (refine Ev.pos (by first | assumption | omega) ?_) | (refine Ev.neg (by first | assumption | omega) ?_))
    have e1 := drop_rd a j (by omega)
    have e2 := drop_rd b j (by omega)
    by_cases h : rd a (j : Int) = rd b (j : Int)
    · refine Ev.pos h ?_
      rw [nx (by omega)]
      refine Ev.cong (ih (j + 1) (by omega)) ?_
      rw [e1, e2, h]
      simp
    · refine Ev.neg h (Ev.pure' ?_)
      rw [e1, e2]
      simp [h]
theorem Ints_ev (a b : List Int) (hl : a.length ≤ 1000000) : Ev (fun k => slotmeshref22_Ints.f k a b) (decide (a = b)) := by
  simp only [slotmeshref22_Ints.f]
  by_cases h : a.length = b.length
  · exact Ev.pos (by omega) (Ints_loop a b hl h a.length 0 (by omega))
  · refine Ev.neg (by omega) (Ev.pure' ?_)
    have : ¬ a = b := fun e => h (by rw [e])
    simp [this]
theorem Bools_loop (a b : List Bool) (hl : a.length ≤ 1000000) (hab : a.length = b.length) (d : Nat) : ∀ (j : Nat), j + d = a.length → Ev (fun k => slotmeshref22_Bools.l0 k a b (j : Int)) (decide (a.drop j = b.drop j)) := by
  induction d with
  | zero =>
    intro j hj
    refine Ev.un ?_
    simp only [slotmeshref22_Bools.l0]
    refine Ev.neg (by omega) (Ev.pure' ?_)
    rw [List.drop_eq_nil_of_le (by omega), List.drop_eq_nil_of_le (by omega)]; simp
  | succ d ih =>
    intro j hj
    refine Ev.un ?_
    simp only [slotmeshref22_Bools.l0]
    repeat (first | (refine Ev.pos (by first | assumption | omega) ?_) | (refine Ev.neg (by first | assumption | omega) ?_))
    have e1 := drop_rdOf a j (by omega)
    have e2 := drop_rdOf b j (by omega)
    by_cases h : rdOf false a (j : Int) = rdOf false b (j : Int)
    · refine Ev.neg (by rw [h]; simp) ?_
      rw [nx (by omega)]
      refine Ev.cong (ih (j + 1) (by omega)) ?_
      rw [e1, e2, h]
      simp
    · refine Ev.pos (bne_iff_ne.mpr h) (Ev.pure' ?_)
      rw [e1, e2]
      simp [h]
theorem Bools_ev (a b : List Bool) (hl : a.length ≤ 1000000) : Ev (fun k => slotmeshref22_Bools.f k a b) (decide (a = b)) := by
  simp only [slotmeshref22_Bools.f]
  by_cases h : a.length = b.length
  · exact Ev.pos (by omega) (Bools_loop a b hl h a.length 0 (by omega))
  · refine Ev.neg (by omega) (Ev.pure' ?_)
    have : ¬ a = b := fun e => h (by rw [e])
    simp [this]

/-! ### Which nodes reach another one -/
/-- Node i comes to the root. -/
def Rch (l : List Int) (root : Int) (i : Nat) : Prop := ∃ n, stepN l n (i : Int) = root
/-- The list of them. -/
def reachV (l : List Int) (root : Int) : List Bool := if 60 < l.length then [] else (List.range l.length).map fun (i : Nat) => decide (0 ≤ root ∧ root < (l.length : Int)) && (decide ((i : Int) = root) || meetsV l root l.length (i : Int))
theorem reachV_length (l : List Int) (root : Int) (hl : l.length ≤ 60) : (reachV l root).length = l.length := by
  unfold reachV; rw [if_neg (by omega)]; simp
theorem reachV_get (l : List Int) (root : Int) (hl : l.length ≤ 60) (i : Nat) (hi : i < l.length) : (reachV l root).getD i false = (decide (0 ≤ root ∧ root < (l.length : Int)) && (decide ((i : Int) = root) || meetsV l root l.length (i : Int))) := by
  unfold reachV; rw [if_neg (by omega)]
  simp [hi]
theorem Rch_iff (l : List Int) (root : Int) (h0 : 0 ≤ root) (h1 : root < (l.length : Int)) (i : Nat) : (decide ((i : Int) = root) || meetsV l root l.length (i : Int)) = true ↔ Rch l root i := by
  rw [Bool.or_eq_true, decide_eq_true_iff, meetsV_len l root h0 h1 _ _ (Nat.le_refl _)]
  constructor
  · rintro (h | ⟨m, h⟩)
    · exact ⟨0, h⟩
    · exact ⟨m + 1, h⟩
  · rintro ⟨n, h⟩
    cases n with
    | zero => exact .inl h
    | succ n => exact .inr ⟨n, h⟩
theorem reachV_iff (l : List Int) (root : Int) (hl : l.length ≤ 60) (h0 : 0 ≤ root) (h1 : root < (l.length : Int)) (i : Nat) (hi : i < l.length) : (reachV l root).getD i false = true ↔ Rch l root i := by
  rw [reachV_get l root hl i hi, Bool.and_eq_true, decide_eq_true_iff]
  exact ⟨fun h => (Rch_iff l root h0 h1 i).mp h.2, fun h => ⟨⟨h0, h1⟩, (Rch_iff l root h0 h1 i).mpr h⟩⟩
theorem blist_ext {a b : List Bool} (hl : a.length = b.length) (h : ∀ i, i < a.length → (a.getD i false = true ↔ b.getD i false = true)) : a = b := by
  refine List.ext_getElem hl fun i h1 h2 => ?_
  have := h i h1
  simp only [List.getD_eq_getElem?_getD, List.getElem?_eq_getElem h1, List.getElem?_eq_getElem h2, Option.getD_some] at this
  exact Bool.eq_iff_iff.mpr this

/-- What holds of the marks after j rounds and m nodes of the next one. -/
structure RInv (l : List Int) (root : Int) (j m : Nat) (o : List Bool) : Prop where
  len : o.length = l.length
  snd : ∀ i, i < l.length → o.getD i false = true → Rch l root i
  old : ∀ i n, i < l.length → n ≤ j → stepN l n (i : Int) = root → o.getD i false = true
  new : ∀ i n, i < m → i < l.length → n ≤ j + 1 → stepN l n (i : Int) = root → o.getD i false = true
theorem RInv.next {l : List Int} {root : Int} {j : Nat} {o : List Bool} (h : RInv l root j l.length o) : RInv l root (j + 1) 0 o :=
  ⟨h.len, h.snd, fun i n hi hn e => h.new i n hi hi hn e, fun i n hi => absurd hi (by omega)⟩
theorem getD_set (o : List Bool) (m i : Nat) (b : Bool) (hm : m < o.length) : (o.set m b).getD i false = if m = i then b else o.getD i false := by
  simp only [List.getD_eq_getElem?_getD, List.getElem?_set]
  by_cases h : m = i
  · subst h; simp [hm]
  · simp [h]
theorem RInv.put {l : List Int} {root : Int} (h0 : 0 ≤ root) {j m : Nat} {o : List Bool} (h : RInv l root j m o) (hm : m < l.length) (b : Bool)
    (hb : b = true ↔ (o.getD m false = true ∨ (0 ≤ rd l (m : Int) ∧ rd l (m : Int) < (l.length : Int) ∧ rdOf false o (rd l (m : Int)) = true))) : RInv l root j (m + 1) (o.set m b) := by
  have hlen := h.len
  have stp : 0 ≤ rd l (m : Int) ∧ rd l (m : Int) < (l.length : Int) → stepV l (m : Int) = rd l (m : Int) := fun q => by unfold stepV; rw [if_pos ⟨by omega, by omega, q.1, q.2⟩]
  have key : ∀ n, n ≤ j + 1 → stepN l n (m : Int) = root → b = true := by
    intro n hn e
    cases n with
    | zero => exact hb.mpr (.inl (h.old m 0 hm (by omega) e))
    | succ n =>
      have e2 : stepN l n (stepV l (m : Int)) = root := e
      have hs : ¬ stepV l (m : Int) < 0 := fun q => by have := stepN_neg l n q; omega
      have hq : 0 ≤ rd l (m : Int) ∧ rd l (m : Int) < (l.length : Int) := by
        refine Classical.byContradiction fun hx => hs ?_
        unfold stepV; rw [if_neg (fun q => hx ⟨q.2.2.1, q.2.2.2⟩)]; omega
      rw [stp hq] at e2
      refine hb.mpr (.inr ⟨hq.1, hq.2, ?_⟩)
      refine h.old (rd l (m : Int)).toNat n (by omega) (by omega) ?_
      rw [show (((rd l (m : Int)).toNat : Nat) : Int) = rd l (m : Int) by omega]
      exact e2
  refine ⟨by rw [List.length_set, hlen], ?_, ?_, ?_⟩
  · intro i hi hg
    rw [getD_set o m i b (by omega)] at hg
    by_cases e : m = i
    · subst e
      rw [if_pos rfl] at hg
      rcases hb.mp hg with q | ⟨q1, q2, q3⟩
      · exact h.snd m hm q
      · obtain ⟨n, hn⟩ := h.snd (rd l (m : Int)).toNat (by omega) q3
        refine ⟨n + 1, ?_⟩
        show stepN l n (stepV l (m : Int)) = root
        rw [stp ⟨q1, q2⟩]
        rwa [show (((rd l (m : Int)).toNat : Nat) : Int) = rd l (m : Int) by omega] at hn
    · rw [if_neg e] at hg
      exact h.snd i hi hg
  · intro i n hi hn e
    rw [getD_set o m i b (by omega)]
    by_cases q : m = i
    · subst q; rw [if_pos rfl]; exact key n (by omega) e
    · rw [if_neg q]; exact h.old i n hi hn e
  · intro i n hi hi2 hn e
    rw [getD_set o m i b (by omega)]
    by_cases q : m = i
    · subst q; rw [if_pos rfl]; exact key n hn e
    · rw [if_neg q]; exact h.new i n (by omega) hi2 hn e
theorem RInv.end_ {l : List Int} {root : Int} (h0 : 0 ≤ root) (h1 : root < (l.length : Int)) (hl : l.length ≤ 60) {o : List Bool} (h : RInv l root l.length 0 o) : o = reachV l root := by
  refine blist_ext (by rw [h.len, reachV_length l root hl]) fun i hi => ?_
  have hi' : i < l.length := by rw [← h.len]; exact hi
  rw [reachV_iff l root hl h0 h1 i hi']
  constructor
  · exact h.snd i hi'
  · rintro ⟨n, hn⟩
    obtain ⟨m, h2, h3⟩ := stepN_short l root h0 h1 (i : Int) (by omega) hn
    exact h.old i m hi' (by omega) h3
theorem RInv.start {l : List Int} {root : Int} (h0 : 0 ≤ root) (h1 : root < (l.length : Int)) : RInv l root 0 0 ((List.replicate l.length false).set root.toNat true) := by
  have hg : ∀ i, ((List.replicate l.length false).set root.toNat true).getD i false = if root.toNat = i then true else false := by
    intro i
    rw [getD_set _ _ _ _ (by simp; omega)]
    by_cases e : root.toNat = i
    · rw [if_pos e, if_pos e]
    · rw [if_neg e, if_neg e]
      simp only [List.getD_eq_getElem?_getD, List.getElem?_replicate]
      split <;> rfl
  refine ⟨by simp, ?_, ?_, fun i n hi => absurd hi (by omega)⟩
  · intro i hi h
    rw [hg] at h
    by_cases e : root.toNat = i
    · exact ⟨0, by show (i : Int) = root; omega⟩
    · rw [if_neg e] at h; cases h
  · intro i n hi hn e
    obtain rfl : n = 0 := by omega
    have : (i : Int) = root := e
    rw [hg, if_pos (by omega)]

theorem Reaches_loop (l : List Int) (hl : l.length ≤ 60) (root : Int) (h0 : 0 ≤ root) (h1 : root < (l.length : Int)) (d : Nat) :
    ∀ (j : Nat) (o : List Bool), j + d = l.length → RInv l root j 0 o → Ev (fun k => graph_Reaches.l0 k l o (l.length : Int) (j : Int)) (reachV l root) := by
  induction d with
  | zero =>
    intro j o hj hI
    obtain rfl : j = l.length := by omega
    refine Ev.un ?_
    simp only [graph_Reaches.l0]
    exact Ev.neg (by omega) (Ev.pure' (hI.end_ h0 h1 hl))
  | succ d ih =>
    intro j o hj hI
    refine Ev.un ?_
    simp only [graph_Reaches.l0]
    refine Ev.pos (by omega) ?_
    have inner : ∀ (e m : Nat) (o : List Bool), m + e = l.length → RInv l root j m o → Ev (fun k => graph_Reaches.l1 k l o (l.length : Int) (j : Int) l (l.length : Int) (m : Int)) (reachV l root) := by
      intro e
      induction e with
      | zero =>
        intro m o hm hI
        obtain rfl : m = l.length := by omega
        refine Ev.un ?_
        simp only [graph_Reaches.l1]
        refine Ev.neg (by omega) ?_
        rw [nx (by omega)]
        exact ih (j + 1) o (by omega) hI.next
      | succ e ihe =>
        intro m o hm hI
        have hlen := hI.len
        refine Ev.un ?_
        simp only [graph_Reaches.l1]
        refine Ev.pos (by omega) (Ev.pos (by omega) (Ev.pos (by omega) (Ev.pos (by omega) ?_)))
        rw [nx (by omega)]
        have e0 : rdOf false o (m : Int) = o.getD m false := rfl
        by_cases c : rdOf false o (m : Int) = true
        · refine Ev.pos c ?_
          exact ihe (m + 1) _ (by omega) (hI.put h0 (by omega) true ⟨fun _ => .inl c, fun _ => rfl⟩)
        · refine Ev.neg c (Ev.bind (isIndex_ev _ _) ?_)
          by_cases q : 0 ≤ rd l (m : Int) ∧ rd l (m : Int) < (l.length : Int)
          · refine Ev.pos (by simpa using q) (Ev.pos q.1 (Ev.pos (by omega) ?_))
            exact ihe (m + 1) _ (by omega) (hI.put h0 (by omega) _ ⟨fun x => .inr ⟨q.1, q.2, x⟩, fun x => by
              rcases x with x | ⟨_, _, x⟩
              · exact absurd x c
              · exact x⟩)
          · refine Ev.neg (by simpa using q) ?_
            exact ihe (m + 1) _ (by omega) (hI.put h0 (by omega) _ ⟨fun x => (by cases x), fun x => by
              rcases x with x | ⟨x1, x2, _⟩
              · exact absurd x c
              · exact absurd ⟨x1, x2⟩ q⟩)
    exact inner l.length 0 o (by omega) hI
theorem Reaches_ev (l : List Int) (hm : l.length ≤ 281474976710656) (root : Int) : Ev (fun k => graph_Reaches.f k l root) (reachV l root) := by
  simp only [graph_Reaches.f]
  by_cases h : 60 < l.length
  · exact Ev.pos (by omega) (Ev.pure' (by unfold reachV; rw [if_pos h]))
  · refine Ev.neg (by omega) (Ev.pos (by omega) (Ev.pos (by omega) ?_))
    refine Ev.bind Ev.pure (Ev.bind (isIndex_ev _ _) ?_)
    by_cases q : 0 ≤ root ∧ root < (l.length : Int)
    · refine Ev.pos (by simpa using q) (Ev.pos q.1 (Ev.pos (by simp; omega) ?_))
      exact Reaches_loop l (by omega) root q.1 q.2 l.length 0 _ (by omega) (by rw [Int.toNat_natCast]; exact RInv.start q.1 q.2)
    · refine Ev.neg (by simpa using q) (Ev.pure' ?_)
      unfold reachV
      rw [if_neg h]
      have : decide (0 ≤ root ∧ root < (l.length : Int)) = false := decide_eq_false q
      rw [this]
      refine List.ext_getElem (by simp) fun i h1 h2 => ?_
      simp
theorem Loop_ev (l : List Int) : Ev (fun k => graph_Loop.f k l) (loopV l) := Ev.pure
end Go.Proofs.Ytppkmmifjfcfiaa.P
