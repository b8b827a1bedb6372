/- Closed forms of the reference's functions over tables: they answer what the program's contracts name. -/
import Derived.Test.YtppkmmifjfcfiaaCf
import Derived.Test.YtppkmmifjfcfiaaV3
import Derived.Test.YtppkmmifjfcfiaaRv
import Derived.Test.YtppkmmifjfcfiaaD1
import Derived.Test.YtppkmmifjfcfiaaD2
import Derived.Test.YtppkmmifjfcfiaaIf
namespace Go.Proofs.Ytppkmmifjfcfiaa.P
open Go.RowKit Go.Proofs.YtppkmmifjfcfiaaW.PrintWords Go.Proofs.YtppkmmifjfcfiaaW.PrintLast Go.Proofs.YtppkmmifjfcfiaaW.PrintMore
open Go.Proofs.Ytppkmmifjfcfiaa.V
set_option linter.unusedVariables false
set_option linter.unusedSimpArgs false

theorem row_len (h : List (List Bool)) (i : Nat) : rd_L2 h (i : Int) = h.getD i [] := rfl
theorem cell_rd (h : List (List Bool)) (i k : Nat) : rdOf false (rd_L2 h (i : Int)) (k : Int) = cell h i k := rfl
theorem rd_ov (o : List Int) (i : Nat) : rd o (i : Int) = ov o i := rfl

theorem few_loop (h : List (List Bool)) (p : List Int) (d : Nat) : ∀ i : Nat, i + d = 71 → ∃ b, Ev (fun k => slotmeshlaw22_few.l0 k h p (i : Int)) b ∧ (b = true → h.length ≤ 70 ∧ p.length ≤ 70) := by
  have fin : ∀ i : Nat, ∃ b, Ev (fun k => slotmeshlaw22_few.j1 k h p (i : Int) false) b ∧ (b = true → h.length ≤ 70 ∧ p.length ≤ 70) := fun i => by
    by_cases h1 : (h.length : Int) ≤ 70
    · refine ⟨decide ((p.length : Int) ≤ 70), Ev.un ?_, fun x => ⟨by omega, by have := of_decide_eq_true x; omega⟩⟩
      simp only [slotmeshlaw22_few.j1]
      exact Ev.neg (by simp) (Ev.pos h1 Ev.pure)
    · refine ⟨false, Ev.un ?_, fun x => by cases x⟩
      simp only [slotmeshlaw22_few.j1]
      exact Ev.neg (by simp) (Ev.neg h1 Ev.pure)
  induction d with
  | zero =>
    intro i hi
    obtain ⟨b, hb, hb2⟩ := fin i
    refine ⟨b, Ev.un ?_, hb2⟩
    simp only [slotmeshlaw22_few.l0]
    by_cases h1 : (i : Int) < (h.length : Int)
    · refine Ev.pos h1 ?_
      have : decide ((i : Int) < 70) = false := decide_eq_false (by omega)
      rw [this]; exact hb
    · exact Ev.neg h1 hb
  | succ d ih =>
    intro i hi
    by_cases h1 : (i : Int) < (h.length : Int)
    · by_cases h2 : i < 70
      · have e : decide ((i : Int) < 70) = true := decide_eq_true (by omega)
        by_cases h3 : ((rd_L2 h (i : Int)).length : Int) > 70
        · refine ⟨false, Ev.un ?_, fun x => by cases x⟩
          simp only [slotmeshlaw22_few.l0]
          refine Ev.pos h1 (Ev.un ?_)
          rw [e]
          simp only [slotmeshlaw22_few.j1]
          exact Ev.pos (by simp) (Ev.pos (by omega) (Ev.pos h1 (Ev.pos h3 Ev.pure)))
        · obtain ⟨b, hb, hb2⟩ := ih (i + 1) (by omega)
          refine ⟨b, Ev.un ?_, hb2⟩
          simp only [slotmeshlaw22_few.l0]
          refine Ev.pos h1 (Ev.un ?_)
          rw [e]
          simp only [slotmeshlaw22_few.j1]
          refine Ev.pos (by simp) (Ev.pos (by omega) (Ev.pos h1 (Ev.neg h3 ?_)))
          rw [nx (by omega)]
          exact hb
      · obtain ⟨b, hb, hb2⟩ := fin i
        refine ⟨b, Ev.un ?_, hb2⟩
        simp only [slotmeshlaw22_few.l0]
        refine Ev.pos h1 ?_
        have : decide ((i : Int) < 70) = false := decide_eq_false (by omega)
        rw [this]; exact hb
    · obtain ⟨b, hb, hb2⟩ := fin i
      refine ⟨b, Ev.un ?_, hb2⟩
      simp only [slotmeshlaw22_few.l0]
      exact Ev.neg h1 hb
theorem few_ev (h : List (List Bool)) (p : List Int) : ∃ b, Ev (fun k => slotmeshlaw22_few.f k h p) b ∧ (b = true → h.length ≤ 70 ∧ p.length ≤ 70) := by
  simp only [slotmeshlaw22_few.f]
  exact few_loop h p 71 0 (by omega)

/-! ### R.Valid -/
/-- What the reference's loops over pairs have seen. -/
def okTo (h : List (List Bool)) (i k : Nat) : Prop := ∀ a b, a < h.length → b < h.length → (a < i ∨ (a = i ∧ b < k)) → cell h a b = cell h b a ∧ (a = b → cell h a b = false)
theorem valid_pairs (h : List (List Bool)) (h60 : h.length ≤ 60) (hrow : ∀ i, i < h.length → (h.getD i []).length = h.length) (d : Nat) :
    ∀ i : Nat, i + d = h.length → okTo h i 0 → ∃ b, Ev (fun k => slotmeshref22_Valid.l1 k h (h.length : Int) (i : Int)) b ∧ (b = true ↔ Valid h) := by
  induction d with
  | zero =>
    intro i hi ho
    refine ⟨true, Ev.un ?_, fun _ => ⟨h60, hrow, fun a ha => (ho a a ha ha (.inl (by omega))).2 rfl, fun a b ha hb => (ho a b ha hb (.inl (by omega))).1⟩, fun _ => rfl⟩
    simp only [slotmeshref22_Valid.l1]
    exact Ev.neg (by omega) Ev.pure
  | succ d ih =>
    intro i hi ho
    have inner : ∀ (e k : Nat), k + e = h.length → okTo h i k → ∃ b, Ev (fun q => slotmeshref22_Valid.l2 q h (h.length : Int) (i : Int) (k : Int)) b ∧ (b = true ↔ Valid h) := by
      intro e
      induction e with
      | zero =>
        intro k hk ho
        obtain ⟨b, hb, hb2⟩ := ih (i + 1) (by omega) (fun a b ha hb hq => ho a b ha hb (by omega))
        refine ⟨b, Ev.un ?_, hb2⟩
        simp only [slotmeshref22_Valid.l2]
        refine Ev.neg (by omega) ?_
        rw [nx (by omega)]
        exact hb
      | succ e ihe =>
        intro k hk ho
        have r1 : ((rd_L2 h (i : Int)).length : Int) = (h.length : Int) := congrArg Int.ofNat (hrow i (by omega))
        have r2 : ((rd_L2 h (k : Int)).length : Int) = (h.length : Int) := congrArg Int.ofNat (hrow k (by omega))
        by_cases c1 : cell h i k = cell h k i
        · by_cases c2 : i = k ∧ cell h i k = true
          · refine ⟨false, Ev.un ?_, fun x => (by cases x), fun v => ?_⟩
            · simp only [slotmeshref22_Valid.l2]
              refine Ev.pos (by omega) (Ev.pos (by omega) (Ev.pos (by omega) (Ev.pos (by omega) (Ev.pos (by omega) (Ev.pos (by omega) (Ev.pos (by omega) ?_))))))
              refine Ev.neg (by rw [cell_rd, cell_rd, c1]; simp) (Ev.pos (by omega) (Ev.pos ?_ Ev.pure))
              rw [cell_rd]; exact c2.2
            · obtain ⟨rfl, c3⟩ := c2
              rw [v.irr i (by omega)] at c3
              cases c3
          · obtain ⟨b, hb, hb2⟩ := ihe (k + 1) (by omega) (fun a b ha hb hq => by
              by_cases g : a = i ∧ b = k
              · obtain ⟨rfl, rfl⟩ := g
                exact ⟨c1, fun g => Bool.eq_false_iff.mpr fun x => c2 ⟨g, x⟩⟩
              · exact ho a b ha hb (by omega))
            refine ⟨b, Ev.un ?_, hb2⟩
            simp only [slotmeshref22_Valid.l2]
            refine Ev.pos (by omega) (Ev.pos (by omega) (Ev.pos (by omega) (Ev.pos (by omega) (Ev.pos (by omega) (Ev.pos (by omega) (Ev.pos (by omega) ?_))))))
            refine Ev.neg (by rw [cell_rd, cell_rd, c1]; simp) ?_
            rw [nx (by omega)]
            by_cases g : i = k
            · refine Ev.pos (by omega) (Ev.neg ?_ hb)
              rw [cell_rd]
              exact fun x => c2 ⟨g, x⟩
            · exact Ev.neg (by omega) hb
        · refine ⟨false, Ev.un ?_, fun x => (by cases x), fun v => absurd (v.sym i k (by omega) (by omega)) c1⟩
          simp only [slotmeshref22_Valid.l2]
          refine Ev.pos (by omega) (Ev.pos (by omega) (Ev.pos (by omega) (Ev.pos (by omega) (Ev.pos (by omega) (Ev.pos (by omega) (Ev.pos (by omega) ?_))))))
          refine Ev.pos ?_ Ev.pure
          rw [cell_rd, cell_rd]
          exact bne_iff_ne.mpr c1
    obtain ⟨b, hb, hb2⟩ := inner h.length 0 (by omega) ho
    refine ⟨b, Ev.un ?_, hb2⟩
    simp only [slotmeshref22_Valid.l1]
    exact Ev.pos (by omega) hb
theorem valid_lens (h : List (List Bool)) (h60 : h.length ≤ 60) (d : Nat) :
    ∀ i : Nat, i + d = h.length → (∀ a, a < i → (h.getD a []).length = h.length) → ∃ b, Ev (fun k => slotmeshref22_Valid.l0 k h (h.length : Int) (i : Int)) b ∧ (b = true ↔ Valid h) := by
  induction d with
  | zero =>
    intro i hi hr
    obtain ⟨b, hb, hb2⟩ := valid_pairs h h60 (fun a ha => hr a (by omega)) h.length 0 (by omega) (fun a b _ _ hq => by omega)
    refine ⟨b, Ev.un ?_, hb2⟩
    simp only [slotmeshref22_Valid.l0]
    exact Ev.neg (by omega) hb
  | succ d ih =>
    intro i hi hr
    by_cases c : (h.getD i []).length = h.length
    · obtain ⟨b, hb, hb2⟩ := ih (i + 1) (by omega) (fun a ha => by
        by_cases g : a = i
        · subst g; exact c
        · exact hr a (by omega))
      refine ⟨b, Ev.un ?_, hb2⟩
      simp only [slotmeshref22_Valid.l0]
      refine Ev.pos (by omega) (Ev.pos (by omega) (Ev.pos (by omega) (Ev.pos (congrArg Int.ofNat c) ?_)))
      rw [nx (by omega)]
      exact hb
    · refine ⟨false, Ev.un ?_, fun x => (by cases x), fun v => absurd (v.row i (by omega)) c⟩
      simp only [slotmeshref22_Valid.l0]
      exact Ev.pos (by omega) (Ev.pos (by omega) (Ev.pos (by omega) (Ev.neg (fun e => c (Int.ofNat.inj e)) Ev.pure)))
theorem RValid_ev (h : List (List Bool)) : ∃ b, Ev (fun k => slotmeshref22_Valid.f k h) b ∧ (b = true ↔ Valid h) := by
  simp only [slotmeshref22_Valid.f]
  by_cases c : (h.length : Int) > 60
  · exact ⟨false, Ev.pos c Ev.pure, fun x => (by cases x), fun v => by have := v.len; omega⟩
  · obtain ⟨b, hb, hb2⟩ := valid_lens h (by omega) h.length 0 (by omega) (fun a ha => by omega)
    exact ⟨b, Ev.neg c hb, hb2⟩

/-! ### R.Depths -/
theorem rdepths_rounds (h : List (List Bool)) (v : Valid h) (r : Nat) (hr : r < h.length) (e : Nat) :
    ∀ (d : Nat) (out : List Int), 1 ≤ d → d + e = h.length → DR h r out d 0 0 → ∃ o, IsDist h r o ∧ Ev (fun k => slotmeshref22_Depths.l1 k h (h.length : Int) out (d : Int)) (o, 0) := by
  have h60 := v.len
  induction e with
  | zero =>
    intro d out hd he s
    obtain rfl : d = h.length := by omega
    refine ⟨out, s.done v, Ev.un ?_⟩
    simp only [slotmeshref22_Depths.l1]
    exact Ev.neg (by omega) Ev.pure
  | succ e ih =>
    intro d out hd he s
    have nodes : ∀ (f i : Nat) (out : List Int), i + f = h.length → DR h r out d i 0 → ∃ o, IsDist h r o ∧ Ev (fun k => slotmeshref22_Depths.l2 k h (h.length : Int) out (d : Int) (i : Int)) (o, 0) := by
      intro f
      induction f with
      | zero =>
        intro i out hi s
        obtain rfl : i = h.length := by omega
        obtain ⟨o, ho, hE⟩ := ih (d + 1) out (by omega) (by omega) s.nextd
        refine ⟨o, ho, Ev.un ?_⟩
        simp only [slotmeshref22_Depths.l2]
        refine Ev.neg (by omega) ?_
        rw [nx (by omega)]
        exact hE
      | succ f ihf =>
        intro i out hi s
        have nbs : ∀ (g k : Nat) (out : List Int), k + g = h.length → DR h r out d i k → ∃ o, IsDist h r o ∧ Ev (fun q => slotmeshref22_Depths.l3 q h (h.length : Int) out (d : Int) (i : Int) (k : Int)) (o, 0) := by
          intro g
          induction g with
          | zero =>
            intro k out hk s
            obtain rfl : k = h.length := by omega
            obtain ⟨o, ho, hE⟩ := ihf (i + 1) out (by omega) s.nexti
            refine ⟨o, ho, Ev.un ?_⟩
            simp only [slotmeshref22_Depths.l3]
            refine Ev.neg (by omega) ?_
            rw [nx (by omega)]
            exact hE
          | succ g ihg =>
            intro k out hk s
            have hlen := s.len
            have r1 : ((rd_L2 h (i : Int)).length : Int) = (h.length : Int) := congrArg Int.ofNat (v.row i (by omega))
            have ew : wrap64 ((d : Int) - 1) = (d : Int) - 1 := w64' (by omega)
            by_cases c : ov out i < 0 ∧ cell h i k = true ∧ ov out k + 1 = d
            · obtain ⟨o, ho, hE⟩ := ihg (k + 1) _ (by omega) (s.put v hd (by omega) (by omega) c.1 c.2.1 c.2.2)
              refine ⟨o, ho, Ev.un ?_⟩
              simp only [slotmeshref22_Depths.l3]
              rw [nx (by omega), ew, cell_rd, rd_ov, rd_ov]
              refine Ev.pos (by omega) (Ev.pos (by omega) (Ev.pos (by omega) (Ev.pos c.1 (Ev.pos (by omega) (Ev.pos (by omega) (Ev.pos (by omega) (Ev.pos c.2.1 (Ev.pos (by omega) (Ev.pos (by omega) ?_)))))))))
              rw [Int.toNat_natCast]
              exact hE
            · obtain ⟨o, ho, hE⟩ := ihg (k + 1) _ (by omega) (s.pass c)
              refine ⟨o, ho, Ev.un ?_⟩
              simp only [slotmeshref22_Depths.l3]
              rw [nx (by omega), ew, cell_rd, rd_ov, rd_ov]
              refine Ev.pos (by omega) (Ev.pos (by omega) (Ev.pos (by omega) ?_))
              by_cases c1 : ov out i < 0
              · refine Ev.pos c1 (Ev.pos (by omega) (Ev.pos (by omega) (Ev.pos (by omega) ?_)))
                by_cases c2 : cell h i k = true
                · refine Ev.pos c2 (Ev.pos (by omega) (Ev.neg (fun x => c ⟨c1, c2, by omega⟩) hE))
                · exact Ev.neg c2 hE
              · exact Ev.neg c1 hE
        obtain ⟨o, ho, hE⟩ := nbs h.length 0 out (by omega) s
        refine ⟨o, ho, Ev.un ?_⟩
        simp only [slotmeshref22_Depths.l2]
        exact Ev.pos (by omega) hE
    obtain ⟨o, ho, hE⟩ := nodes h.length 0 out (by omega) s
    refine ⟨o, ho, Ev.un ?_⟩
    simp only [slotmeshref22_Depths.l1]
    exact Ev.pos (by omega) hE
theorem rdepths_init (h : List (List Bool)) (v : Valid h) (r : Nat) (hr : r < h.length) (e : Nat) :
    ∀ (i : Nat) (out : List Int), i + e = h.length → out.length = h.length → (∀ j, j < i → ov out j = -1) → ∃ o, IsDist h r o ∧ Ev (fun k => slotmeshref22_Depths.l0 k h (r : Int) (h.length : Int) out (i : Int)) (o, 0) := by
  have h60 := v.len
  induction e with
  | zero =>
    intro i out hi hl hq
    have e1 : out = List.replicate h.length (-1) := ov_ext (by simp [hl]) fun j hj => by
      rw [hq j (by omega)]
      simp [ov, List.getD_eq_getElem?_getD, show j < h.length by omega]
    subst e1
    obtain ⟨o, ho, hE⟩ := rdepths_rounds h v r hr (h.length - 1) 1 _ (by omega) (by omega) (DR.start hr)
    refine ⟨o, ho, Ev.un ?_⟩
    simp only [slotmeshref22_Depths.l0]
    refine Ev.neg (by omega) (Ev.pos (by omega) (Ev.pos (by omega) ?_))
    rw [Int.toNat_natCast]
    exact hE
  | succ e ih =>
    intro i out hi hl hq
    have e2 : ∀ j, ov (out.set i (-1)) j = if j = i then -1 else ov out j := fun j => ov_set out i j (-1) (by omega)
    obtain ⟨o, ho, hE⟩ := ih (i + 1) (out.set i (-1)) (by omega) (by rw [List.length_set]; exact hl) (fun j hj => by
      rw [e2]; split
      · rfl
      · exact hq j (by omega))
    refine ⟨o, ho, Ev.un ?_⟩
    simp only [slotmeshref22_Depths.l0]
    refine Ev.pos (by omega) (Ev.pos (by omega) (Ev.pos (by omega) ?_))
    rw [nx (by omega), Int.toNat_natCast]
    exact hE
theorem rdepths_some (h : List (List Bool)) (v : Valid h) (r : Nat) (hr : r < h.length) : ∃ o, IsDist h r o ∧ Ev (fun k => slotmeshref22_Depths.l0 k h (r : Int) (h.length : Int) (List.replicate h.length 0) 0) (o, 0) :=
  rdepths_init h v r hr h.length 0 _ (by omega) (by simp) (fun j hj => by omega)
/-- Distances exist. -/
theorem dist_exists {h : List (List Bool)} (v : Valid h) {r : Nat} (hr : r < h.length) : IsDist h r (distL h r) := by
  obtain ⟨o, ho, _⟩ := rdepths_some h v r hr
  rw [distL_eq v ho]
  exact ho
theorem RDepths_ev (h : List (List Bool)) (r : Int) : Ev (fun k => slotmeshref22_Depths.f k h r) (depthsV h r) := by
  simp only [slotmeshref22_Depths.f]
  obtain ⟨b, hb, hb2⟩ := RValid_ev h
  refine Ev.bind hb ?_
  have bad : ¬ (Valid h ∧ 0 ≤ r ∧ r < (h.length : Int)) → Ev (fun k => slotmeshref22_Depths.j0 k h r (h.length : Int) true) (depthsV h r) := fun q => by
    refine Ev.un ?_
    simp only [slotmeshref22_Depths.j0]
    exact Ev.pos (by simp) (Ev.pure' (by unfold depthsV; rw [if_neg q]))
  by_cases v : Valid h
  · have hbt : b = true := hb2.2 v
    have h60 := v.len
    subst hbt
    refine Ev.pos rfl ?_
    by_cases h0 : r < 0
    · exact Ev.pos h0 (bad (fun q => by omega))
    · refine Ev.neg h0 ?_
      by_cases h1 : r ≥ (h.length : Int)
      · have : decide (r ≥ (h.length : Int)) = true := decide_eq_true h1
        rw [this]
        exact bad (fun q => by omega)
      · have : decide (r ≥ (h.length : Int)) = false := decide_eq_false h1
        rw [this]
        refine Ev.un ?_
        simp only [slotmeshref22_Depths.j0]
        refine Ev.neg (by simp) (Ev.pos (by omega) (Ev.pos (by omega) ?_))
        obtain ⟨o, ho, hE⟩ := rdepths_some h v r.toNat (by omega)
        rw [Int.toNat_natCast]
        rw [show ((r.toNat : Nat) : Int) = r by omega] at hE
        refine hE.cong ?_
        unfold depthsV
        rw [if_pos ⟨v, by omega, by omega⟩, distL_eq v ho]
  · have hbf : b = false := Bool.eq_false_iff.mpr fun x => v (hb2.1 x)
    subst hbf
    exact Ev.neg (by simp) (bad (fun q => v q.1))

/-! ### R.Islands -/
theorem mn_of (a b : Int) : (mn a b = a ∨ mn a b = b) ∧ mn a b ≤ a ∧ mn a b ≤ b := by unfold mn; split <;> omega
theorem rislands_rounds (h : List (List Bool)) (v : Valid h) (D : Nat → List Int) (hD : ∀ a, a < h.length → IsDist h a (D a)) (e : Nat) :
    ∀ (t : Nat) (out : List Int), t + e = h.length → IR h D out t 0 0 → ∃ o, IsIsl h o ∧ Ev (fun k => slotmeshref22_Islands.l1 k h (h.length : Int) out (t : Int)) (o, 0) := by
  have h60 := v.len
  induction e with
  | zero =>
    intro t out he s
    obtain rfl : t = h.length := by omega
    refine ⟨out, s.done v hD, Ev.un ?_⟩
    simp only [slotmeshref22_Islands.l1]
    exact Ev.neg (by omega) Ev.pure
  | succ e ih =>
    intro t out he s
    have nodes : ∀ (f i : Nat) (out : List Int), i + f = h.length → IR h D out t i 0 → ∃ o, IsIsl h o ∧ Ev (fun k => slotmeshref22_Islands.l2 k h (h.length : Int) out (t : Int) (i : Int)) (o, 0) := by
      intro f
      induction f with
      | zero =>
        intro i out hi s
        obtain rfl : i = h.length := by omega
        obtain ⟨o, ho, hE⟩ := ih (t + 1) out (by omega) s.nextt
        refine ⟨o, ho, Ev.un ?_⟩
        simp only [slotmeshref22_Islands.l2]
        refine Ev.neg (by omega) ?_
        rw [nx (by omega)]
        exact hE
      | succ f ihf =>
        intro i out hi s
        have nbs : ∀ (g k : Nat) (out : List Int), k + g = h.length → IR h D out t i k → ∃ o, IsIsl h o ∧ Ev (fun q => slotmeshref22_Islands.l3 q h (h.length : Int) out (t : Int) (i : Int) (k : Int)) (o, 0) := by
          intro g
          induction g with
          | zero =>
            intro k out hk s
            obtain rfl : k = h.length := by omega
            obtain ⟨o, ho, hE⟩ := ihf (i + 1) out (by omega) (s.nexti hD)
            refine ⟨o, ho, Ev.un ?_⟩
            simp only [slotmeshref22_Islands.l3]
            refine Ev.neg (by omega) ?_
            rw [nx (by omega)]
            exact hE
          | succ g ihg =>
            intro k out hk s
            have hlen := s.len
            have r1 : ((rd_L2 h (i : Int)).length : Int) = (h.length : Int) := congrArg Int.ofNat (v.row i (by omega))
            cases c : cell h i k with
            | true =>
              obtain ⟨o, ho, hE⟩ := ihg (k + 1) _ (by omega) (s.put v (by omega) (by omega) c _ (mn_of (ov out i) (ov out k)))
              refine ⟨o, ho, Ev.un ?_⟩
              simp only [slotmeshref22_Islands.l3]
              rw [nx (by omega), cell_rd, rd_ov, rd_ov, Int.toNat_natCast]
              exact Ev.pos (by omega) (Ev.pos (by omega) (Ev.pos (by omega) (Ev.pos (by omega) (Ev.pos (by omega) (Ev.pos c (Ev.pos (by omega) (Ev.pos (by omega) hE)))))))
            | false =>
              obtain ⟨o, ho, hE⟩ := ihg (k + 1) _ (by omega) (s.pass c)
              refine ⟨o, ho, Ev.un ?_⟩
              simp only [slotmeshref22_Islands.l3]
              rw [nx (by omega), cell_rd]
              exact Ev.pos (by omega) (Ev.pos (by omega) (Ev.pos (by omega) (Ev.pos (by omega) (Ev.pos (by omega) (Ev.neg (by rw [c]; simp) hE)))))
        obtain ⟨o, ho, hE⟩ := nbs h.length 0 out (by omega) s
        refine ⟨o, ho, Ev.un ?_⟩
        simp only [slotmeshref22_Islands.l2]
        exact Ev.pos (by omega) hE
    obtain ⟨o, ho, hE⟩ := nodes h.length 0 out (by omega) s
    refine ⟨o, ho, Ev.un ?_⟩
    simp only [slotmeshref22_Islands.l1]
    exact Ev.pos (by omega) hE
theorem rislands_init (h : List (List Bool)) (v : Valid h) (D : Nat → List Int) (hD : ∀ a, a < h.length → IsDist h a (D a)) (e : Nat) :
    ∀ (i : Nat) (out : List Int), i + e = h.length → out.length = h.length → (∀ j, j < i → ov out j = j) → ∃ o, IsIsl h o ∧ Ev (fun k => slotmeshref22_Islands.l0 k h (h.length : Int) out (i : Int)) (o, 0) := by
  have h60 := v.len
  induction e with
  | zero =>
    intro i out hi hl hq
    obtain ⟨o, ho, hE⟩ := rislands_rounds h v D hD h.length 0 out (by omega) (IR.start hD hl (fun j hj => hq j (by omega)))
    refine ⟨o, ho, Ev.un ?_⟩
    simp only [slotmeshref22_Islands.l0]
    exact Ev.neg (by omega) hE
  | succ e ih =>
    intro i out hi hl hq
    have e2 : ∀ j, ov (out.set i (i : Int)) j = if j = i then (i : Int) else ov out j := fun j => ov_set out i j _ (by omega)
    obtain ⟨o, ho, hE⟩ := ih (i + 1) (out.set i (i : Int)) (by omega) (by rw [List.length_set]; exact hl) (fun j hj => by
      rw [e2]; split
      · rename_i g; rw [g]
      · exact hq j (by omega))
    refine ⟨o, ho, Ev.un ?_⟩
    simp only [slotmeshref22_Islands.l0]
    refine Ev.pos (by omega) (Ev.pos (by omega) (Ev.pos (by omega) ?_))
    rw [nx (by omega), Int.toNat_natCast]
    exact hE
theorem rislands_some (h : List (List Bool)) (v : Valid h) : ∃ o, IsIsl h o ∧ Ev (fun k => slotmeshref22_Islands.l0 k h (h.length : Int) (List.replicate h.length 0) 0) (o, 0) :=
  rislands_init h v (distL h) (fun a ha => dist_exists v ha) h.length 0 _ (by omega) (by simp) (fun j hj => by omega)
/-- Islands exist. -/
theorem isl_exists {h : List (List Bool)} (v : Valid h) : IsIsl h (islL h) := by
  obtain ⟨o, ho, _⟩ := rislands_some h v
  rw [islL_eq ho]
  exact ho
theorem RIslands_ev (h : List (List Bool)) : Ev (fun k => slotmeshref22_Islands.f k h) (islandsV h) := by
  simp only [slotmeshref22_Islands.f]
  obtain ⟨b, hb, hb2⟩ := RValid_ev h
  refine Ev.bind hb ?_
  by_cases v : Valid h
  · have hbt : b = true := hb2.2 v
    have h60 := v.len
    subst hbt
    refine Ev.pos rfl (Ev.pos (by omega) (Ev.pos (by omega) ?_))
    obtain ⟨o, ho, hE⟩ := rislands_some h v
    rw [Int.toNat_natCast]
    refine hE.cong ?_
    unfold islandsV
    rw [if_pos v, islL_eq ho]
  · have hbf : b = false := Bool.eq_false_iff.mpr fun x => v (hb2.1 x)
    subst hbf
    exact Ev.neg (by simp) (Ev.pure' (by unfold islandsV; rw [if_neg v]))
end Go.Proofs.Ytppkmmifjfcfiaa.P
