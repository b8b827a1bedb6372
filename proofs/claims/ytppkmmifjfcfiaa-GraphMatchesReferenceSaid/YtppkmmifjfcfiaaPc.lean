/- GraphMatchesReference, without Go and memory; and its contract for every table, list and root. -/
import Derived.Test.YtppkmmifjfcfiaaHf
import Derived.Test.YtppkmmifjfcfiaaCg
import Derived.Test.YtppkmmifjfcfiaaLc
namespace Go.Proofs.Ytppkmmifjfcfiaa.P
open Go.RowKit Go.Proofs.YtppkmmifjfcfiaaW.PrintWords Go.Proofs.YtppkmmifjfcfiaaW.PrintLast Go.Proofs.YtppkmmifjfcfiaaW.PrintMore
open Go.Proofs.Ytppkmmifjfcfiaa.V
set_option linter.unusedVariables false
set_option linter.unusedSimpArgs false

theorem depthsV_len (h : List (List Bool)) (r : Int) : (depthsV h r).1.length ≤ 60 := by
  unfold depthsV
  by_cases q : Valid h ∧ 0 ≤ r ∧ r < (h.length : Int)
  · rw [if_pos q]
    have := (dist_exists q.1 (r := r.toNat) (by omega)).len
    have := q.1.len
    show (distL h r.toNat).length ≤ 60
    omega
  · rw [if_neg q]; simp
theorem islandsV_len (h : List (List Bool)) : (islandsV h).1.length ≤ 60 := by
  unfold islandsV
  by_cases q : Valid h
  · rw [if_pos q]
    have := (isl_exists q).len
    have := q.len
    show (islL h).length ≤ 60
    omega
  · rw [if_neg q]; simp
theorem loopV_le (l : List Int) : (loopV l).length ≤ 60 := by
  unfold loopV
  split
  · simp
  · exact Nat.le_trans (loopTo_le _ _) (by omega)
theorem reachV_le (l : List Int) (r : Int) : (reachV l r).length ≤ 60 := by
  by_cases h : l.length ≤ 60
  · rw [reachV_length l r h]; exact h
  · unfold reachV; rw [if_pos (by omega)]; simp
theorem rloop_loop (l : List Int) (hl : l.length ≤ 60) (d : Nat) : ∀ i : Nat, i + d = l.length → Ev (fun k => slotmeshref22_Loop.l0 k l (loopTo l i) (i : Int)) (loopV l) := by
  have e60 : decide ((l.length : Int) ≤ 60) = true := decide_eq_true (by omega)
  induction d with
  | zero =>
    intro i hi
    obtain rfl : i = l.length := by omega
    refine Ev.un ?_
    simp only [slotmeshref22_Loop.l0]
    refine Ev.neg (by omega) (Ev.un ?_)
    simp only [slotmeshref22_Loop.j1]
    exact Ev.neg (by simp) (Ev.pure' (by unfold loopV; rw [if_neg (by omega)]))
  | succ d ih =>
    intro i hi
    have nxt := ih (i + 1) (by omega)
    refine Ev.un ?_
    simp only [slotmeshref22_Loop.l0]
    refine Ev.pos (by omega) (Ev.un ?_)
    rw [e60]
    simp only [slotmeshref22_Loop.j1]
    rw [nx (by omega)]
    refine Ev.pos (by simp) (Ev.bind (Meets_ev l (by omega) _ _) ?_)
    have e : inLoop l i = meetsV l (i : Int) l.length (i : Int) := by unfold inLoop; exact hit_meets l i (by omega) _ _
    by_cases c : meetsV l (i : Int) l.length (i : Int) = true
    · refine Ev.pos c (Ev.pos (by have := loopTo_le l i; omega) ?_)
      rw [loopTo_put (e.trans c)] at nxt
      exact nxt
    · refine Ev.neg c ?_
      rw [loopTo_stay (e.trans (Bool.eq_false_iff.mpr c))] at nxt
      exact nxt
theorem RLoop_ev (l : List Int) : Ev (fun k => slotmeshref22_Loop.f k l) (loopV l) := by
  simp only [slotmeshref22_Loop.f]
  by_cases h : l.length ≤ 60
  · exact rloop_loop l h l.length 0 (by omega)
  · have e60 : decide ((l.length : Int) ≤ 60) = false := decide_eq_false (by omega)
    refine Ev.un ?_
    simp only [slotmeshref22_Loop.l0]
    refine Ev.pos (by omega) (Ev.un ?_)
    rw [e60]
    simp only [slotmeshref22_Loop.j1]
    exact Ev.neg (by simp) (Ev.pure' (by unfold loopV; rw [if_pos (by omega)]))
theorem rreach_loop (l : List Int) (hl : l.length ≤ 60) (root : Int) (h0 : 0 ≤ root) (h1 : root < (l.length : Int)) (d : Nat) :
    ∀ (i : Nat) (o : List Bool), i + d = l.length → o.length = l.length → (∀ j, j < i → o.getD j false = (decide ((j : Int) = root) || meetsV l root l.length (j : Int))) →
      Ev (fun k => slotmeshref22_Reaches.l0 k l root o (i : Int)) (reachV l root) := by
  induction d with
  | zero =>
    intro i o hi ho hq
    refine Ev.un ?_
    simp only [slotmeshref22_Reaches.l0]
    refine Ev.neg (by omega) (Ev.pure' (blist_ext (by rw [ho, reachV_length l root hl]) fun j hj => ?_))
    rw [hq j (by omega), reachV_get l root hl j (by omega), decide_eq_true (show 0 ≤ root ∧ root < (l.length : Int) from ⟨h0, h1⟩)]
    simp
  | succ d ih =>
    intro i o hi ho hq
    refine Ev.un ?_
    simp only [slotmeshref22_Reaches.l0]
    rw [nx (by omega), Int.toNat_natCast]
    refine Ev.pos (by omega) (Ev.bind (Meets_ev l (by omega) _ _) ?_)
    have nxt : ∀ b, b = (decide ((i : Int) = root) || meetsV l root l.length (i : Int)) → Ev (fun k => slotmeshref22_Reaches.l0 k l root (o.set i b) ((i + 1 : Nat) : Int)) (reachV l root) := fun b hb =>
      ih (i + 1) _ (by omega) (by rw [List.length_set]; exact ho) (fun j hj => by
        rw [getD_set o i j b (by omega)]
        by_cases g : i = j
        · rw [if_pos g, hb, g]
        · rw [if_neg g]; exact hq j (by omega))
    by_cases c : (i : Int) = root
    · exact Ev.pos c (Ev.pos (by omega) (nxt true (by rw [decide_eq_true c]; rfl)))
    · exact Ev.neg c (Ev.pos (by omega) (nxt _ (by rw [decide_eq_false c]; rfl)))
theorem RReaches_ev (l : List Int) (root : Int) : Ev (fun k => slotmeshref22_Reaches.f k l root) (reachV l root) := by
  simp only [slotmeshref22_Reaches.f]
  by_cases h : 60 < l.length
  · exact Ev.pos (by omega) (Ev.pure' (by unfold reachV; rw [if_pos h]))
  · refine Ev.neg (by omega) (Ev.pos (by omega) (Ev.pos (by omega) (Ev.bind Ev.pure ?_)))
    have bad : ¬ (0 ≤ root ∧ root < (l.length : Int)) → Ev (fun k => slotmeshref22_Reaches.j0 k l root (List.replicate (l.length : Int).toNat false) true) (reachV l root) := fun q => by
      refine Ev.un ?_
      simp only [slotmeshref22_Reaches.j0]
      refine Ev.pos (by simp) (Ev.pure' ?_)
      unfold reachV
      rw [if_neg h, decide_eq_false q]
      refine List.ext_getElem (by simp) fun i h1 h2 => ?_
      simp
    by_cases h0 : root < 0
    · exact Ev.pos h0 (bad (fun q => by omega))
    · refine Ev.neg h0 ?_
      by_cases h1 : root ≥ (l.length : Int)
      · rw [decide_eq_true h1]
        exact bad (fun q => by omega)
      · rw [decide_eq_false h1]
        refine Ev.un ?_
        simp only [slotmeshref22_Reaches.j0]
        refine Ev.neg (by simp) ?_
        rw [Int.toNat_natCast]
        exact rreach_loop l (by omega) root (by omega) (by omega) l.length 0 _ (by omega) (by simp) (fun j hj => by omega)
theorem GraphMatchesReference_true (h : List (List Bool)) (l : List Int) (r : Int) : Ev (fun k => slotmeshlaw22_GraphMatchesReference.f k h l r) true := by
  simp only [slotmeshlaw22_GraphMatchesReference.f]
  obtain ⟨b1, hb1, hb2⟩ := few_ev h l
  refine Ev.bind head_ev (Ev.bind hb1 ?_)
  cases b1 with
  | false => exact Ev.neg (by simp) Ev.pure
  | true =>
    have hl := (hb2 rfl).2
    refine Ev.pos rfl (Ev.bind (Depths_ev h r) (Ev.bind (RDepths_ev h r) (Ev.bind (Islands_ev h) (Ev.bind (RIslands_ev h) ?_))))
    refine Ev.pos (by simp) (Ev.pos rfl (Ev.bind ((Ints_ev _ _ (by have := depthsV_len h r; omega)).cong (s := true) (by simp)) (Ev.pos rfl ?_)))
    refine Ev.pos rfl (Ev.bind ((Ints_ev _ _ (by have := islandsV_len h; omega)).cong (s := true) (by simp)) (Ev.pos rfl ?_))
    refine Ev.bind (Loop_ev l) (Ev.bind (RLoop_ev l) (Ev.bind ((Ints_ev _ _ (by have := loopV_le l; omega)).cong (s := true) (by simp)) (Ev.pos rfl ?_)))
    refine Ev.bind (Reaches_ev l (by omega) r) (Ev.bind (RReaches_ev l r) (Ev.bind ((Bools_ev _ _ (by have := reachV_le l r; omega)).cong (s := true) (by simp)) ?_))
    exact Ev.pure
theorem graphMatchesReference_any (W : World) (A0 : Option Addr) (c0 : Nat) (l0 : List (List Bool)) (hr0 : Kd.C (Kd.slice 4 Kd.bool) W A0 l0.length l0) (hc0 : l0.length ≤ c0)
    (A1 : Option Addr) (c1 : Nat) (l1 : List Int) (hr1 : Kd.C (Kd.int .i64) W A1 l1.length l1) (hc1 : l1.length ≤ c1) (hw1 : ∀ x ∈ l1, (Lit.int .i64 x).wf = true) (a2 : Int) (w2 : (Lit.int .i64 a2).wf = true) :
    Calls Try.prog 5 #[.slice A0 l0.length c0, .slice A1 l1.length c1, .int .i64 a2] W fun e w' => e = .returned (.bool true) ∧ Below W.heap.size W w' := by
  obtain ⟨k, hk⟩ := (GraphMatchesReference_true l0 l1 a2).get
  first
  | exact slotmeshlaw22_GraphMatchesReference.calls k A0 c0 l0 A1 c1 l1 a2 true W hr0 hc0 hr1 hc1 hk
  | exact slotmeshlaw22_GraphMatchesReference.calls k A0 c0 A1 c1 l0 l1 a2 true W hr0 hc0 hr1 hc1 hk
  | exact slotmeshlaw22_GraphMatchesReference.calls k A0 c0 l0 A1 c1 l1 a2 true W hr0 hr1 hc0 hc1 hk
end Go.Proofs.Ytppkmmifjfcfiaa.P
