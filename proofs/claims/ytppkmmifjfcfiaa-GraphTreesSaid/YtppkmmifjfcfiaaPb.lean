/- GraphTrees, without Go and memory; and its contract for every table, root and choice. -/
import Derived.Test.YtppkmmifjfcfiaaHf
import Derived.Test.YtppkmmifjfcfiaaCg
import Derived.Test.YtppkmmifjfcfiaaLb
namespace Go.Proofs.Ytppkmmifjfcfiaa.P
open Go.RowKit Go.Proofs.YtppkmmifjfcfiaaW.PrintWords Go.Proofs.YtppkmmifjfcfiaaW.PrintLast Go.Proofs.YtppkmmifjfcfiaaW.PrintMore
open Go.Proofs.Ytppkmmifjfcfiaa.V
set_option linter.unusedVariables false
set_option linter.unusedSimpArgs false

theorem pick_some (c n : Int) (hc : -9223372036854775808 ≤ c ∧ c ≤ 9223372036854775807) (hn : 0 < n) : ∃ t, slotmeshlaw22_pick.f c n = some t ∧ 0 ≤ t ∧ t < n := by
  unfold slotmeshlaw22_pick.f
  by_cases h : c < 0
  · rw [if_pos h, if_neg (by omega)]
    have e : wrap64 (-(wrap64 (c + 1))) = -(c + 1) := by rw [w64' (x := c + 1) (by omega), w64' (by omega)]
    rw [e]
    refine ⟨_, rfl, ?_⟩
    rw [Int.tmod_eq_emod_of_nonneg (by omega)]
    exact ⟨Int.emod_nonneg _ (by omega), Int.emod_lt_of_pos _ hn⟩
  · rw [if_neg h, if_neg (by omega)]
    refine ⟨_, rfl, ?_⟩
    rw [Int.tmod_eq_emod_of_nonneg (by omega)]
    exact ⟨Int.emod_nonneg _ (by omega), Int.emod_lt_of_pos _ hn⟩

/-- m may be the parent of j. -/
def Par (h : List (List Bool)) (d : List Int) (j m : Nat) : Prop := m < h.length ∧ cell h j m = true ∧ 0 ≤ ov d m ∧ ov d m < ov d j
/-- p is a parent of j, or -1 if j has none. -/
def PP (h : List (List Bool)) (d : List Int) (j : Nat) (p : Int) : Prop := (p = -1 ∧ ∀ m, ¬ Par h d j m) ∨ ∃ m : Nat, p = m ∧ Par h d j m
/-- The parents are chosen. -/
structure Tree (h : List (List Bool)) (d par : List Int) : Prop where
  len : par.length = h.length
  all : ∀ j, j < h.length → PP h d j (ov par j)

theorem Tree.step_some {h : List (List Bool)} {d par : List Int} (T : Tree h d par) {j m : Nat} (hj : j < h.length) (e : ov par j = (m : Int)) (hm : m < h.length) : stepV par (j : Int) = m := by
  have hl := T.len
  have e2 : rd par (j : Int) = (m : Int) := e
  unfold stepV
  rw [if_pos (by omega), e2]
theorem Tree.step {h : List (List Bool)} {d par : List Int} (T : Tree h d par) {j : Nat} (hj : j < h.length) (hs : 0 ≤ stepV par (j : Int)) : ∃ m : Nat, stepV par (j : Int) = m ∧ Par h d j m := by
  rcases T.all j hj with ⟨e, _⟩ | ⟨m, e, hp⟩
  · have e2 : rd par (j : Int) = -1 := e
    unfold stepV at hs
    rw [e2] at hs
    rw [if_neg (by omega)] at hs
    omega
  · exact ⟨m, T.step_some hj e hp.1, hp⟩
theorem Tree.lt {h : List (List Bool)} {d par : List Int} (T : Tree h d par) (n : Nat) : ∀ (a : Nat), a < h.length → 0 ≤ stepN par (n + 1) (a : Int) → ov d (stepN par (n + 1) (a : Int)).toNat < ov d a := by
  induction n with
  | zero =>
    intro a ha h2
    have h2' : 0 ≤ stepV par (a : Int) := h2
    obtain ⟨m, e, hp⟩ := T.step ha h2'
    have : stepN par (0 + 1) (a : Int) = (m : Int) := e
    rw [this, Int.toNat_natCast]
    exact hp.2.2.2
  | succ n ih =>
    intro a ha h2
    have hs : ¬ stepV par (a : Int) < 0 := fun x => by
      have := stepN_neg par (n + 1) x
      have e : stepN par (n + 1 + 1) (a : Int) = stepN par (n + 1) (stepV par (a : Int)) := rfl
      omega
    obtain ⟨m, e, hp⟩ := T.step ha (by omega)
    have e2 : stepN par (n + 1 + 1) (a : Int) = stepN par (n + 1) (m : Int) := by rw [← e]; rfl
    rw [e2] at h2 ⊢
    have := ih m hp.1 h2
    have := hp.2.2.2
    omega
theorem Tree.noloop {h : List (List Bool)} {d par : List Int} (T : Tree h d par) (h60 : h.length ≤ 60) : loopV par = [] := by
  have hl := T.len
  refine List.eq_nil_iff_forall_not_mem.mpr fun x hx => ?_
  obtain ⟨h0, h1, m, hm⟩ := (mem_loopV par (by omega) x).mp hx
  have := T.lt m x.toNat (by omega) (by rw [show ((x.toNat : Nat) : Int) = x by omega, hm]; exact h0)
  rw [show ((x.toNat : Nat) : Int) = x by omega, hm] at this
  omega
theorem Tree.reach {h : List (List Bool)} {d par : List Int} (v : Valid h) {r : Nat} (hr : r < h.length) (D : IsDist h r d) (T : Tree h d par) (i : Nat) (hi : i < h.length) : Rch par (r : Int) i ↔ 0 ≤ ov d i := by
  constructor
  · rintro ⟨n, hn⟩
    cases n with
    | zero =>
      have : (i : Int) = r := hn
      have : i = r := by omega
      have := (D.root i hi).2 this
      omega
    | succ n =>
      have hs : ¬ stepV par (i : Int) < 0 := fun x => by
        have := stepN_neg par n x
        have e : stepN par (n + 1) (i : Int) = stepN par n (stepV par (i : Int)) := rfl
        omega
      obtain ⟨m, e, hp⟩ := T.step hi (by omega)
      have := hp.2.2
      omega
  · intro h0
    obtain ⟨t, ht⟩ := Int.eq_ofNat_of_zero_le h0
    clear h0
    induction t using Nat.strongRecOn generalizing i with
    | _ t ih =>
      by_cases h0 : t = 0
      · have := (D.root i hi).1 (by omega)
        subst this
        exact ⟨0, rfl⟩
      · obtain ⟨k, h1, h2, h3⟩ := D.near i hi (by omega)
        rcases T.all i hi with ⟨_, e⟩ | ⟨m, e, hp⟩
        · exact absurd ⟨h1, h2, by omega, by omega⟩ (e k)
        · obtain ⟨s, hs⟩ := Int.eq_ofNat_of_zero_le hp.2.2.1
          obtain ⟨n, hn⟩ := ih s (by have := hp.2.2.2; omega) m hp.1 hs
          refine ⟨n + 1, ?_⟩
          show stepN par n (stepV par (i : Int)) = r
          rw [T.step_some hi e hp.1]
          exact hn

theorem b_check (h : List (List Bool)) (v : Valid h) (r : Nat) (hr : r < h.length) (d par : List Int) (D : IsDist h r d) (T : Tree h d par) (e : Nat) :
    ∀ i : Nat, i + e = h.length → Ev (fun k => slotmeshlaw22_GraphTrees.l2 k true d (reachV par (r : Int)) (i : Int)) true := by
  have h60 := v.len
  have hl := T.len
  have hd := D.len
  have hrl := reachV_length par (r : Int) (by omega)
  induction e with
  | zero =>
    intro i hi
    refine Ev.un ?_
    simp only [slotmeshlaw22_GraphTrees.l2]
    exact Ev.neg (by omega) Ev.pure
  | succ e ih =>
    intro i hi
    refine Ev.un ?_
    simp only [slotmeshlaw22_GraphTrees.l2]
    rw [nx (by omega)]
    refine Ev.pos (by omega) (Ev.pos (by simp) (Ev.pos (by omega) (Ev.pos (by omega) ?_)))
    have q : (rdOf false (reachV par (r : Int)) (i : Int) == decide (rd d (i : Int) ≥ 0)) = true := by
      have e0 : rdOf false (reachV par (r : Int)) (i : Int) = (reachV par (r : Int)).getD i false := rfl
      have e1 : rd d (i : Int) = ov d i := rfl
      rw [beq_iff_eq, Bool.eq_iff_iff, decide_eq_true_iff, e0, e1, reachV_iff par (r : Int) (by omega) (by omega) (by omega) i (by omega)]
      exact T.reach v hr D i (by omega)
    rw [q]
    exact ih (i + 1) (by omega)
theorem ov_append (a : List Int) (x : Int) (j : Nat) : ov (a ++ [x]) j = if j = a.length then x else ov a j := by
  unfold ov
  by_cases h : j = a.length
  · subst h; simp [List.getD_eq_getElem?_getD]
  · rw [if_neg h]
    simp only [List.getD_eq_getElem?_getD]
    by_cases h2 : j < a.length
    · rw [List.getElem?_append_left h2]
    · rw [List.getElem?_eq_none (by simp; omega), List.getElem?_eq_none (by omega)]
theorem b_loop (h : List (List Bool)) (v : Valid h) (r : Nat) (hr : r < h.length) (d c : List Int) (D : IsDist h r d) (hc : h.length ≤ c.length) (hw : ∀ x ∈ c, (Lit.int .i64 x).wf = true) (e : Nat) :
    ∀ (i : Nat) (par : List Int), i + e = h.length → par.length = i → (∀ j, j < i → PP h d j (ov par j)) → Ev (fun k => slotmeshlaw22_GraphTrees.l0 k h (r : Int) c true d par (i : Int)) true := by
  have h60 := v.len
  have hd := D.len
  induction e with
  | zero =>
    intro i par hi hl hP
    have T : Tree h d par := ⟨by omega, fun j hj => hP j (by omega)⟩
    have hrl := reachV_length par (r : Int) (by omega)
    refine Ev.un ?_
    simp only [slotmeshlaw22_GraphTrees.l0]
    refine Ev.neg (by omega) (Ev.bind (Reaches_ev par (by omega) _) (Ev.pos (by omega) (Ev.bind (Loop_ev par) (Ev.un ?_))))
    rw [T.noloop h60]
    simp only [slotmeshlaw22_GraphTrees.j4]
    exact Ev.neg (by simp) (b_check h v r hr d par D T h.length 0 (by omega))
  | succ e ih =>
    intro i par hi hl hP
    have hil : i < h.length := by omega
    have cands : ∀ (g k : Nat) (l : List Int), k + g = h.length → l.length ≤ k → (∀ x ∈ l, ∃ m : Nat, x = m ∧ Par h d i m) → (∀ m, m < k → Par h d i m → l ≠ []) →
        Ev (fun q => slotmeshlaw22_GraphTrees.l1 q h (r : Int) c true d par (i : Int) l (k : Int)) true := by
      intro g
      induction g with
      | zero =>
        intro k l hk hll hx hne
        obtain rfl : k = h.length := by omega
        refine Ev.un ?_
        simp only [slotmeshlaw22_GraphTrees.l1]
        rw [nx (i := i) (by omega)]
        refine Ev.neg (by omega) ?_
        by_cases h0 : l.length = 0
        · refine Ev.pos (by omega) (Ev.pos (by omega) ?_)
          refine ih (i + 1) (par ++ [(-1)]) (by omega) (by simp [hl]) (fun j hj => ?_)
          rw [ov_append]
          by_cases g : j = par.length
          · rw [if_pos g]
            refine .inl ⟨rfl, fun m hm => ?_⟩
            have : j = i := by omega
            subst this
            exact hne m hm.1 hm (List.length_eq_zero_iff.mp h0)
          · rw [if_neg g]; exact hP j (by omega)
        · refine Ev.neg (by omega) (Ev.pos (by omega) (Ev.pos (by omega) ?_))
          have hci : rd c (i : Int) ∈ c := by
            have : rd c (i : Int) = c[i]'(by omega) := by simp [rd, show i < c.length by omega]
            rw [this]
            exact List.getElem_mem _
          have hb : -9223372036854775808 ≤ rd c (i : Int) ∧ rd c (i : Int) ≤ 9223372036854775807 := by
            have := hw _ hci
            simp [Lit.wf, IntKind.min, IntKind.max, IntKind.signed, IntKind.bits] at this
            omega
          obtain ⟨t, ht, t0, t1⟩ := pick_some (rd c (i : Int)) (l.length : Int) hb (by omega)
          refine Ev.bind (f := fun _ => slotmeshlaw22_pick.f (rd c (i : Int)) (l.length : Int)) ⟨0, fun _ _ => ht⟩ (Ev.pos t0 (Ev.pos t1 (Ev.pos (by omega) ?_)))
          have hmem : rd l t ∈ l := by
            have : rd l t = l[t.toNat]'(by omega) := by simp [rd, show t.toNat < l.length by omega]
            rw [this]
            exact List.getElem_mem _
          refine ih (i + 1) (par ++ [rd l t]) (by omega) (by simp [hl]) (fun j hj => ?_)
          rw [ov_append]
          by_cases g : j = par.length
          · rw [if_pos g]
            have : j = i := by omega
            subst this
            exact .inr (hx _ hmem)
          · rw [if_neg g]; exact hP j (by omega)
      | succ g ihg =>
        intro k l hk hll hx hne
        have r1 : ((rd_L2 h (i : Int)).length : Int) = (h.length : Int) := congrArg Int.ofNat (v.row i hil)
        refine Ev.un ?_
        simp only [slotmeshlaw22_GraphTrees.l1]
        rw [nx (i := k) (by omega), cell_rd, rd_ov, rd_ov]
        refine Ev.pos (by omega) (Ev.pos (by omega) (Ev.pos (by omega) (Ev.pos (by omega) (Ev.pos (by omega) ?_))))
        have skip : ¬ Par h d i k → Ev (fun q => slotmeshlaw22_GraphTrees.l1 q h (r : Int) c true d par (i : Int) l ((k + 1 : Nat) : Int)) true := fun hn =>
          ihg (k + 1) l (by omega) (by omega) hx (fun m hm hp => by
            by_cases g : m = k
            · subst g; exact absurd hp hn
            · exact hne m (by omega) hp)
        by_cases c1 : cell h i k = true
        · refine Ev.pos c1 ?_
          by_cases c2 : 0 ≤ ov d k
          · refine Ev.pos c2 (Ev.pos (by omega) ?_)
            by_cases c3 : ov d k < ov d i
            · refine Ev.pos c3 (Ev.pos (by omega) ?_)
              have hp : Par h d i k := ⟨by omega, c1, c2, c3⟩
              refine ihg (k + 1) _ (by omega) (by simp; omega) (fun x hx2 => ?_) (fun m _ _ => by simp)
              rcases List.mem_append.mp hx2 with q | q
              · exact hx x q
              · obtain rfl := List.mem_singleton.mp q
                exact ⟨k, rfl, hp⟩
            · exact Ev.neg c3 (skip (fun p => c3 p.2.2.2))
          · exact Ev.neg c2 (skip (fun p => c2 p.2.2.1))
        · exact Ev.neg c1 (skip (fun p => c1 p.2.1))
    refine Ev.un ?_
    simp only [slotmeshlaw22_GraphTrees.l0]
    exact Ev.pos (by omega) (cands h.length 0 [] (by omega) (by simp) (fun x hx => absurd hx (by simp)) (fun m hm => absurd hm (by omega)))
theorem GraphTrees_true (h : List (List Bool)) (r : Int) (c : List Int) (hw : ∀ x ∈ c, (Lit.int .i64 x).wf = true) : Ev (fun k => slotmeshlaw22_GraphTrees.f k h r c) true := by
  simp only [slotmeshlaw22_GraphTrees.f]
  obtain ⟨b1, hb1, _⟩ := few_ev h []
  obtain ⟨b2, hb2, hv⟩ := RValid_ev h
  refine Ev.bind head_ev (Ev.bind hb1 (Ev.bind hb2 ?_))
  have bad : Ev (fun k => slotmeshlaw22_GraphTrees.j0 k h r c true true) true := by
    refine Ev.un ?_
    simp only [slotmeshlaw22_GraphTrees.j0]
    exact Ev.pos (by simp) Ev.pure
  cases b1 with
  | false => exact Ev.neg (by simp) bad
  | true =>
    refine Ev.pos rfl ?_
    cases b2 with
    | false => exact Ev.neg (by simp) bad
    | true =>
      have v := hv.1 rfl
      refine Ev.pos rfl ?_
      by_cases h0 : r < 0
      · exact Ev.pos h0 bad
      · refine Ev.neg h0 ?_
        by_cases h1 : r ≥ (h.length : Int)
        · exact Ev.pos h1 bad
        · refine Ev.neg h1 ?_
          by_cases h2 : (c.length : Int) < (h.length : Int)
          · rw [decide_eq_true h2]; exact bad
          · rw [decide_eq_false h2]
            have hr : r.toNat < h.length := by omega
            have D := dist_exists v hr
            refine Ev.un ?_
            simp only [slotmeshlaw22_GraphTrees.j0]
            have e : depthsV h r = (distL h r.toNat, 0) := by unfold depthsV; rw [if_pos ⟨v, by omega, by omega⟩]
            refine Ev.neg (by simp) (Ev.bind ((Depths_ev h r).cong e) (Ev.pos rfl (Ev.un ?_)))
            simp only [slotmeshlaw22_GraphTrees.j1]
            have := b_loop h v r.toNat hr (distL h r.toNat) c D (by omega) hw h.length 0 [] (by omega) rfl (fun j hj => absurd hj (by omega))
            rw [show ((r.toNat : Nat) : Int) = r by omega] at this
            exact Ev.neg (by rw [D.len]; simp) this
theorem graphTrees_any (W : World) (A0 : Option Addr) (c0 : Nat) (l0 : List (List Bool)) (hr0 : Kd.C (Kd.slice 4 Kd.bool) W A0 l0.length l0) (hc0 : l0.length ≤ c0)
    (a1 : Int) (w1 : (Lit.int .i64 a1).wf = true) (A2 : Option Addr) (c2 : Nat) (l2 : List Int) (hr2 : Kd.C (Kd.int .i64) W A2 l2.length l2) (hc2 : l2.length ≤ c2) (hw2 : ∀ x ∈ l2, (Lit.int .i64 x).wf = true) :
    Calls Try.prog 4 #[.slice A0 l0.length c0, .int .i64 a1, .slice A2 l2.length c2] W fun e w' => e = .returned (.bool true) ∧ Below W.heap.size W w' := by
  obtain ⟨k, hk⟩ := (GraphTrees_true l0 a1 l2 hw2).get
  first
  | exact slotmeshlaw22_GraphTrees.calls k A0 c0 A2 c2 l0 a1 l2 true W hr0 hc0 hr2 hc2 hk
  | exact slotmeshlaw22_GraphTrees.calls k A0 c0 l0 a1 A2 c2 l2 true W hr0 hc0 hr2 hc2 hk
end Go.Proofs.Ytppkmmifjfcfiaa.P
