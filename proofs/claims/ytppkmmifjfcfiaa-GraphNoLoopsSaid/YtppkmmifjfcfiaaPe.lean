/- GraphNoLoops, without Go and memory. -/
import Derived.Test.YtppkmmifjfcfiaaHf
import Derived.Test.YtppkmmifjfcfiaaLe
namespace Go.Proofs.Ytppkmmifjfcfiaa.P
open Go.RowKit Go.Proofs.YtppkmmifjfcfiaaW.PrintWords Go.Proofs.YtppkmmifjfcfiaaW.PrintLast Go.Proofs.YtppkmmifjfcfiaaW.PrintMore
set_option linter.unusedVariables false
set_option linter.unusedSimpArgs false

/-- Each parent has a number less than its child's. -/
def Desc (l q : List Int) : Prop := ∀ i : Nat, i < l.length → 0 ≤ stepV l (i : Int) → rd q (stepV l (i : Int)) < rd q (i : Int)
theorem Desc.lt {l q : List Int} (D : Desc l q) (n : Nat) : ∀ (a : Int), 0 ≤ a → a < (l.length : Int) → 0 ≤ stepN l (n + 1) a → rd q (stepN l (n + 1) a) < rd q a := by
  have one : ∀ (a : Int), 0 ≤ a → a < (l.length : Int) → 0 ≤ stepV l a → rd q (stepV l a) < rd q a := fun a h0 h1 h2 => by
    have := D a.toNat (by omega)
    rw [show ((a.toNat : Nat) : Int) = a by omega] at this
    exact this h2
  induction n with
  | zero => intro a h0 h1 h2; exact one a h0 h1 h2
  | succ n ih =>
    intro a h0 h1 h2
    have e : stepN l (n + 1 + 1) a = stepN l (n + 1) (stepV l a) := rfl
    rw [e] at h2 ⊢
    have hs : ¬ stepV l a < 0 := fun x => by have := stepN_neg l (n + 1) x; omega
    have := ih (stepV l a) (by omega) (stepV_rng l a).2 h2
    have := one a h0 h1 (by omega)
    omega
theorem Desc.noloop {l q : List Int} (D : Desc l q) (a : Int) (h0 : 0 ≤ a) (h1 : a < (l.length : Int)) (m : Nat) : stepN l (m + 1) a ≠ a := fun e => by
  have := D.lt m a h0 h1 (by omega)
  rw [e] at this
  omega
theorem Desc.short {l q : List Int} (D : Desc l q) (i : Nat) (hi : i < l.length) (n : Nat) (h : 0 ≤ stepN l n (i : Int)) : n < l.length := by
  have pos : ∀ j, j ≤ n → 0 ≤ stepN l j (i : Int) := fun j hj => by
    refine Int.not_lt.mp fun hlt => ?_
    have e : stepN l n (i : Int) = stepN l (n - j) (stepN l j (i : Int)) := by rw [← stepN_add]; congr 1; omega
    have := stepN_neg l (n - j) hlt
    omega
  have lt : ∀ j, stepN l j (i : Int) < (l.length : Int) := fun j => by
    cases j with
    | zero => show (i : Int) < _; omega
    | succ j => rw [stepN_one]; exact (stepV_rng l _).2
  have := pigeon l.length (n + 1) (fun j => (stepN l j (i : Int)).toNat) (fun j hj => by have := pos j (by omega); have := lt j; show (stepN l j (i : Int)).toNat < l.length; omega) (fun a b hab hb => by
    have h1 := pos a (by omega)
    have h2 := pos b (by omega)
    have e : stepN l b (i : Int) = stepN l (b - a - 1 + 1) (stepN l a (i : Int)) := by rw [← stepN_add]; congr 1; omega
    have h3 := D.lt (b - a - 1) (stepN l a (i : Int)) h1 (lt a) (by rw [← e]; exact h2)
    rw [← e] at h3
    show (stepN l a (i : Int)).toNat ≠ (stepN l b (i : Int)).toNat
    intro g
    have : stepN l a (i : Int) = stepN l b (i : Int) := by omega
    rw [this] at h3
    omega)
  omega
theorem Desc.none {l q : List Int} (D : Desc l q) (hl : l.length ≤ 60) : loopV l = [] := by
  refine List.eq_nil_iff_forall_not_mem.mpr fun x hx => ?_
  obtain ⟨h0, h1, m, hm⟩ := (mem_loopV l hl x).mp hx
  exact D.noloop x h0 h1 m hm

theorem e_fin (l q : List Int) (hl : l.length ≤ 60) (i n : Nat) (hi : i < l.length) (a : Int) (ha : a = stepN l n (i : Int)) (h0 : 0 ≤ a) (h1 : a < (l.length : Int)) (hs : stepV l a < 0)
    (nxt : Ev (fun k => slotmeshlaw22_GraphNoLoops.l1 k l true ((i + 1 : Nat) : Int)) true) :
    Ev (fun k => (slotmeshref22_Step.f k l a).bind fun t360 => (if t360 < 0 then (if (i : Int) < ((reachV l a).length : Int) then (if 0 ≤ (i : Int) then (slotmeshlaw22_GraphNoLoops.l1 k l (rdOf false (reachV l a) (i : Int)) ((i + 1 : Nat) : Int)) else (none)) else (slotmeshlaw22_GraphNoLoops.l1 k l false ((i + 1 : Nat) : Int))) else (slotmeshlaw22_GraphNoLoops.l1 k l false ((i + 1 : Nat) : Int)))) true := by
  have hrl := reachV_length l a hl
  refine Ev.bind (Step_ev l a) (Ev.pos hs (Ev.pos (by omega) (Ev.pos (by omega) ?_)))
  have e : rdOf false (reachV l a) (i : Int) = true := by
    have e0 : rdOf false (reachV l a) (i : Int) = (reachV l a).getD i false := rfl
    rw [e0, reachV_iff l a hl h0 h1 i hi]
    exact ⟨n, ha.symm⟩
  rw [e]
  exact nxt
theorem e_loop2 (l q : List Int) (hl : l.length ≤ 60) (D : Desc l q) (i : Nat) (hi : i < l.length) (nxt : Ev (fun k => slotmeshlaw22_GraphNoLoops.l1 k l true ((i + 1 : Nat) : Int)) true) (d : Nat) :
    ∀ (n : Nat) (a : Int), n + d = l.length → a = stepN l n (i : Int) → 0 ≤ a → a < (l.length : Int) → Ev (fun k => slotmeshlaw22_GraphNoLoops.l2 k l true (i : Int) a (n : Int)) true := by
  induction d with
  | zero =>
    intro n a hn ha h0 h1
    have := D.short i hi n (by omega)
    omega
  | succ d ih =>
    intro n a hn ha h0 h1
    refine Ev.un ?_
    simp only [slotmeshlaw22_GraphNoLoops.l2]
    rw [nx (by omega), nx (by omega)]
    refine Ev.pos (by omega) (Ev.bind (Step_ev l a) ?_)
    by_cases hs : 0 ≤ stepV l a
    · refine Ev.pos hs (Ev.bind (Step_ev l a) ?_)
      exact ih (n + 1) _ (by omega) (by rw [stepN_one, ha]) hs (stepV_rng l a).2
    · refine Ev.neg (by omega) (Ev.bind (Reaches_ev l (by omega) a) (Ev.pos (by simp) ?_))
      exact e_fin l q hl i n hi a ha h0 h1 (by omega) nxt
theorem e_loop1 (l q : List Int) (hl : l.length ≤ 60) (D : Desc l q) (d : Nat) : ∀ (i : Nat), i + d = l.length → Ev (fun k => slotmeshlaw22_GraphNoLoops.l1 k l true (i : Int)) true := by
  induction d with
  | zero =>
    intro i hi
    refine Ev.un ?_
    simp only [slotmeshlaw22_GraphNoLoops.l1]
    refine Ev.neg (by omega) (Ev.pos (by simp) (Ev.bind (Loop_ev l) (Ev.pure' ?_)))
    rw [D.none hl]
    rfl
  | succ d ih =>
    intro i hi
    refine Ev.un ?_
    simp only [slotmeshlaw22_GraphNoLoops.l1]
    exact Ev.pos (by omega) (e_loop2 l q hl D i (by omega) (ih (i + 1) (by omega)) l.length 0 (i : Int) (by omega) rfl (by omega) (by omega))
theorem e_loop0 (l q : List Int) (hl : l.length ≤ 60) (hq : l.length ≤ q.length) (d : Nat) : ∀ (i : Nat), i + d = l.length → (∀ j : Nat, j < i → 0 ≤ stepV l (j : Int) → rd q (stepV l (j : Int)) < rd q (j : Int)) →
    Ev (fun k => slotmeshlaw22_GraphNoLoops.l0 k l q true (i : Int)) true := by
  induction d with
  | zero =>
    intro i hi hD
    refine Ev.un ?_
    simp only [slotmeshlaw22_GraphNoLoops.l0]
    exact Ev.neg (by omega) (e_loop1 l q hl (fun j hj => hD j (by omega)) l.length 0 (by omega))
  | succ d ih =>
    intro i hi hD
    refine Ev.un ?_
    simp only [slotmeshlaw22_GraphNoLoops.l0]
    rw [nx (by omega)]
    have rng := stepV_rng l (i : Int)
    refine Ev.pos (by omega) (Ev.bind (Step_ev l _) ?_)
    by_cases hs : 0 ≤ stepV l (i : Int)
    · refine Ev.pos hs (Ev.pos hs (Ev.pos (by omega) (Ev.pos (by omega) (Ev.pos (by omega) ?_))))
      by_cases hc : rd q (stepV l (i : Int)) ≥ rd q (i : Int)
      · exact Ev.pos hc Ev.pure
      · refine Ev.neg hc (ih (i + 1) (by omega) (fun j hj h => ?_))
        by_cases e : j = i
        · subst e; omega
        · exact hD j (by omega) h
    · refine Ev.neg (by omega) (ih (i + 1) (by omega) (fun j hj h => ?_))
      by_cases e : j = i
      · subst e; exact absurd h hs
      · exact hD j (by omega) h
theorem Pure.GraphNoLoops : slotmeshlaw22_GraphNoLoops.Pure := by
  intro l q hm hb _ _ _ _
  refine Ev.get ?_
  simp only [slotmeshlaw22_GraphNoLoops.f]
  refine Ev.bind head_ev ?_
  by_cases h : (l.length : Int) > 60
  · refine Ev.pos h (Ev.un ?_)
    simp only [slotmeshlaw22_GraphNoLoops.j0]
    exact Ev.pos (by simp) Ev.pure
  · refine Ev.neg h (Ev.un ?_)
    simp only [slotmeshlaw22_GraphNoLoops.j0]
    by_cases h2 : (q.length : Int) < (l.length : Int)
    · exact Ev.pos (by simpa using h2) Ev.pure
    · exact Ev.neg (by simpa using h2) (e_loop0 l q (by omega) (by omega) l.length 0 (by omega) (fun j hj => absurd hj (by omega)))
end Go.Proofs.Ytppkmmifjfcfiaa.P
