/- graph.Loop as a plain function, and its contract: the nodes that come to themselves again. -/
import Derived.Test.YtppkmmifjfcfiaaDf
import Derived.Deep.LoopGhost
namespace Go.Proofs.Ytppkmmifjfcfiaa.P
open Go.RowKit Go.Proofs.YtppkmmifjfcfiaaW.PrintWords Go.Proofs.YtppkmmifjfcfiaaW.PrintLast Go.Proofs.YtppkmmifjfcfiaaW.PrintMore
open Go.Proofs.Ytppkmmifjfcfiaa.V
set_option linter.unusedVariables false
set_option linter.unusedSimpArgs false

/-- Does the way from 'at' come to i within so many steps? -/
def hit (l : List Int) (i : Nat) : Nat → Int → Bool
  | 0, _ => false
  | f + 1, a => if 0 ≤ a ∧ a < (l.length : Int) then (if rd l a = (i : Int) then true else hit l i f (rd l a)) else false
def inLoop (l : List Int) (i : Nat) : Bool := hit l i l.length (i : Int)
/-- The nodes below m that are in loops. -/
def loopTo (l : List Int) (m : Nat) : List Int := ((List.range m).filter (inLoop l)).map (fun (i : Nat) => (i : Int))
theorem loopTo_succ (l : List Int) (m : Nat) : loopTo l (m + 1) = loopTo l m ++ (if inLoop l m then [(m : Int)] else []) := by
  unfold loopTo
  rw [List.range_succ, List.filter_append, List.map_append]
  congr 1
  by_cases h : inLoop l m <;> simp [h]
theorem loopTo_stay {l : List Int} {i : Nat} (h : inLoop l i = false) : loopTo l (i + 1) = loopTo l i := by rw [loopTo_succ, h]; simp
theorem loopTo_put {l : List Int} {i : Nat} (h : inLoop l i = true) : loopTo l (i + 1) = loopTo l i ++ [(i : Int)] := by rw [loopTo_succ, h]; simp
theorem hit_out {l : List Int} {i g : Nat} {a : Int} (hr : ¬ (0 ≤ a ∧ a < (l.length : Int))) (h : hit l i (g + 1) a = inLoop l i) : inLoop l i = false := by
  rw [← h]; unfold hit; rw [if_neg hr]
theorem hit_next {l : List Int} {i g : Nat} {a : Int} (hr : 0 ≤ a ∧ a < (l.length : Int)) (he : ¬ rd l a = (i : Int)) (h : hit l i (g + 1) a = inLoop l i) : hit l i g (rd l a) = inLoop l i := by
  rw [← h]; conv => rhs; unfold hit
  rw [if_pos hr, if_neg he]
theorem hit_yes {l : List Int} {i g : Nat} {a : Int} (hr : 0 ≤ a ∧ a < (l.length : Int)) (he : rd l a = (i : Int)) (h : hit l i (g + 1) a = inLoop l i) : inLoop l i = true := by
  rw [← h]; unfold hit; rw [if_pos hr, if_pos he]
theorem isIdx_yes {a n : Int} (hr : 0 ≤ a ∧ a < n) : (decide (0 ≤ a) && decide (a < n)) = true := by simp [hr]
theorem isIdx_no {a n : Int} (hr : ¬ (0 ≤ a ∧ a < n)) : (decide (0 ≤ a) && decide (a < n)) = false := by
  by_cases h : 0 ≤ a
  · have : ¬ a < n := fun h2 => hr ⟨h, h2⟩
    simp [this]
  · simp [h]
theorem nxt60 {i : Nat} (h : i < 61) : Value.int .i64 (wrap64 ((i : Int) + 1)) = Value.int .i64 ((i + 1 : Nat) : Int) := by
  congr 1
  have : wrap64 ((i : Int) + 1) = (i : Int) + 1 := by simp only [wrap64]; omega
  rw [this]; simp
theorem loopTo_le (l : List Int) (m : Nat) : (loopTo l m).length ≤ m := by
  unfold loopTo
  rw [List.length_map]
  exact Nat.le_trans (List.length_filter_le _ _) (by simp)

set_option maxHeartbeats 4000000 in
set_option maxRecDepth 100000 in
theorem loop_yes (A0 : Option Addr) (c0 : Nat) (l : List Int) (w : World) (hr0 : Kd.C (Kd.int .i64) w A0 l.length l) (hc0 : l.length ≤ c0) (hn : l.length ≤ 60) :
    Calls Try.prog 12 #[.slice A0 l.length c0] w fun e w' => ∃ v, e = .returned v ∧ Kd.R (Kd.int .i64) 3 w' w.heap.size (fun _ => True) v (loopTo l l.length) ∧ Below w.heap.size w w' := by
  have HR0 := Aside0.mk hr0
  have HB := Aside0.mk (Below.refl w.heap.size w)
  have hn' : ¬ ((l.length : Int) > 60) := by omega
  clear hr0 hc0
  go_enter Try.func12, Try.ntmps12
  go_wp2; go_step3
  go_wp2; go_step3
  go_wp2
  go_loopg [3, 11] l.length (fun g v3 v11 w' => ∃ (i : Nat), v11 = .int .i64 (i : Int) ∧ Aside0 (i + g = l.length) ∧ Aside0 (Kd.R (Kd.int .i64) 3 w' w.heap.size (fun _ => True) v3 (loopTo l i)) ∧ Aside0 (Below w.heap.size w w'))
  case atStart => exact ⟨0, rfl, ⟨by omega⟩, ⟨Kd.R_nil _ _ _ _ _⟩, HB⟩
  case round =>
    obtain ⟨i, rfl, HIG, HO, HB1⟩ := hrel
    cases gk with
    | zero =>
      have hiz : ¬ ((i : Int) < (l.length : Int)) := by have := HIG.out; omega
      have hi2 : i = l.length := by have := HIG.out; omega
      subst hi2
      go_wp2
      try rw [Exit.noGoto_ret]
      go_ret
      exact ⟨_, rfl, HO.out, HB1.out⟩
    | succ g =>
      have hiz : (i : Int) < (l.length : Int) := by have := HIG.out; omega
      go_wp2
      clear hiz
      go_loopg [3, 5, 17] l.length (fun g2 v3 v5 v17 w2 => ∃ (m : Nat) (a : Int), v17 = .int .i64 (m : Int) ∧ v5 = .int .i64 a ∧ Aside0 (m + g2 = l.length) ∧ Aside0 (hit l i g2 a = inLoop l i) ∧ Aside0 (Kd.R (Kd.int .i64) 3 w2 w.heap.size (fun _ => True) v3 (loopTo l i)) ∧ Aside0 (Below w.heap.size w w2))
      case atStart => exact ⟨0, (i : Int), rfl, rfl, ⟨by omega⟩, ⟨rfl⟩, HO, HB1⟩
      case round =>
        clear HO HB1
        obtain ⟨m, a, rfl, rfl, HMG, HH, HO, HB1⟩ := hrel
        cases gk with
        | zero =>
          have hmz : ¬ ((m : Int) < (l.length : Int)) := by have := HMG.out; omega
          have HE := Aside0.mk (loopTo_stay (show inLoop l i = false from HH.out.symm.trans rfl))
          go_wp2
          go_roundg g
          case measure => omega
          case rel => exact ⟨i + 1, nxt60 (by have := HIG.out; omega), ⟨by have := HIG.out; omega⟩, ⟨by rw [HE.out]; exact HO.out⟩, HB1⟩
        | succ g2 =>
          have hmz : (m : Int) < (l.length : Int) := by have := HMG.out; omega
          by_cases hr : 0 ≤ a ∧ a < (l.length : Int)
          · have H27 := Aside0.mk (isIdx_yes hr)
            obtain ⟨ad, rfl, hcell⟩ := Kd.at_int (Kd.C_below HR0.out HB1.out) a hr.1 hr.2
            have hr1 := hr.1
            have hr2 := hr.2
            have HR := Aside0.mk hr
            clear hr
            by_cases he : rd l a = (i : Int)
            · have HE := Aside0.mk (loopTo_put (hit_yes HR.out he HH.out))
              rw [he] at hcell
              have heb : ((i : Int) == (i : Int)) = true := beq_iff_eq.mpr rfl
              clear he
              have hi17 := Aside0.mk (show (loopTo l i).length < 17592186044416 by have := loopTo_le l i; have := HIG.out; omega)
              go_wp2_with (fail)
              refine (isIndex_c _ _ true _ H27.out).mono ?_
              rintro _ w3 ⟨rfl, ⟨nd, rfl⟩⟩
              go_wp2_with (first | ((with_reducible refine gate_builtin (b := .append) (xs := #[.tmp 31, .tmp 33]) rfl ?_); (try (refine gate_guard (by rfl) ?_; dsimp only)); at_builtin; refine Kd.R_append (Kd.int .i64) (w0 := w) w.heap.size rfl (.tmp 31) (.tmp 33) 22 3 (.int .i64 0) 8 rfl Try.underlying22 info3 rfl (by decide) (by omega) u3 (loopTo l i) (i : Int) [.int .i64 (i : Int)] (fun _ => True) (fun _ => False) rfl rfl ?aP (fun _ hk => hk.elim) ?aF ?aO ?aB ?aS ?aL ?_; (case aP => exact rfl); (case aB => exact (by repeat (first | (with_reducible first | exact HB1.out | apply below_alloc | apply pw_below_drewN | apply below_drew1) | exact HB1.out))); (case aF => exact (fun _ _ => trivial)); (case aO => exact (by (with_reducible repeat (first | apply Kd.R_alloc | apply Kd.R_drewN | apply Kd.R_drew)); exact HO.out)); (case aS => exact (below_size (by repeat (first | (with_reducible first | exact HB1.out | apply below_alloc | apply pw_below_drewN | apply below_drew1) | exact HB1.out)))); (case aL => have := hi17.out; omega); intro v9 w8 ho hb hg hat; rw [← HE.out] at ho; have n0_ := Aside0.mk (hb); have n1_ := Aside0.mk (ho); clear HB1; clear HO; have HB1 := n0_; have HO := n1_; clear n0_ n1_; clear ho hb hg hat))
              go_roundg g
              case measure => omega
              case rel => exact ⟨i + 1, nxt60 (by have := HIG.out; omega), ⟨by have := HIG.out; omega⟩, ⟨by (with_reducible repeat (first | apply Kd.R_alloc | apply Kd.R_drewN | apply Kd.R_drew)); exact HO.out⟩, ⟨by repeat (first | (with_reducible first | exact HB1.out | apply below_alloc | apply pw_below_drewN | apply below_drew1) | exact HB1.out)⟩⟩
            · have HE := Aside0.mk (hit_next HR.out he HH.out)
              have heb : ((rd l a) == (i : Int)) = false := beq_eq_false_iff_ne.mpr he
              clear he
              go_wp2_with (fail)
              refine (isIndex_c _ _ true _ H27.out).mono ?_
              rintro _ w3 ⟨rfl, ⟨nd, rfl⟩⟩
              go_wp2
              go_roundg g2
              case measure => omega
              case rel => exact ⟨m + 1, rd l a, (by first | rfl | simp | exact nxt60 (by have := HMG.out; omega)), rfl, ⟨by have := HMG.out; omega⟩, HE, ⟨by (with_reducible repeat (first | apply Kd.R_alloc | apply Kd.R_drewN | apply Kd.R_drew)); exact HO.out⟩, ⟨by repeat (first | (with_reducible first | exact HB1.out | apply below_alloc | apply pw_below_drewN | apply below_drew1) | exact HB1.out)⟩⟩
          · have H27 := Aside0.mk (isIdx_no hr)
            have HE := Aside0.mk (loopTo_stay (hit_out hr HH.out))
            clear hr
            go_wp2_with (fail)
            refine (isIndex_c _ _ false _ H27.out).mono ?_
            rintro _ w3 ⟨rfl, ⟨nd, rfl⟩⟩
            go_wp2
            go_roundg g
            case measure => omega
            case rel => exact ⟨i + 1, nxt60 (by have := HIG.out; omega), ⟨by have := HIG.out; omega⟩, ⟨by rw [HE.out]; (with_reducible repeat (first | apply Kd.R_alloc | apply Kd.R_drewN | apply Kd.R_drew)); exact HO.out⟩, ⟨by repeat (first | (with_reducible first | exact HB1.out | apply below_alloc | apply pw_below_drewN | apply below_drew1) | exact HB1.out)⟩⟩

set_option maxHeartbeats 4000000 in
set_option maxRecDepth 100000 in
theorem loop_no (A0 : Option Addr) (c0 : Nat) (l : List Int) (w : World) (hn : ¬ l.length ≤ 60) :
    Calls Try.prog 12 #[.slice A0 l.length c0] w fun e w' => ∃ v, e = .returned v ∧ Kd.R (Kd.int .i64) 3 w' w.heap.size (fun _ => True) v ([] : List Int) ∧ Below w.heap.size w w' := by
  have HB := Aside0.mk (Below.refl w.heap.size w)
  have hn' : (60 : Int) < (l.length : Int) := by omega
  clear hn
  go_enter Try.func12, Try.ntmps12
  go_wp2; go_step3
  go_wp2
  try rw [Exit.noGoto_ret]
  go_ret
  exact ⟨_, rfl, Kd.R_nil _ _ _ _ _, HB.out⟩

/-- The nodes that are in loops. -/
def loopV (l : List Int) : List Int := if 60 < l.length then [] else loopTo l l.length
theorem loop_c (A0 : Option Addr) (c0 : Nat) (l : List Int) (w : World) (hr0 : Kd.C (Kd.int .i64) w A0 l.length l) (hc0 : l.length ≤ c0) :
    Calls Try.prog 12 #[.slice A0 l.length c0] w fun e w' => ∃ v, e = .returned v ∧ Kd.R (Kd.int .i64) 3 w' w.heap.size (fun _ => True) v (loopV l) ∧ Below w.heap.size w w' := by
  unfold loopV
  by_cases h : 60 < l.length
  · rw [if_pos h]; exact loop_no A0 c0 l w (by omega)
  · rw [if_neg h]; exact loop_yes A0 c0 l w hr0 hc0 (by omega)

def graph_Loop.f (_ : Nat) (l0 : List Int) : Option (List Int) := some (loopV l0)
theorem graph_Loop.mono : ∀ a0 k, LeO (graph_Loop.f k a0) (graph_Loop.f (k + 1) a0) := fun _ _ => LeO.refl _
theorem graph_Loop.calls (k : Nat) (A0 : Option Addr) (c0 : Nat) (l0 : List Int) (r : List Int) (w : World) (hr0 : Kd.C (Kd.int .i64) w A0 l0.length l0) (hc0 : l0.length ≤ c0) (h : graph_Loop.f k l0 = some r) :
    Calls Try.prog 12 #[.slice A0 l0.length c0] w fun e w' => ∃ v0_ : Value, e = .returned (v0_) ∧ Kd.R (Kd.int .i64) 3 w' w.heap.size (fun _ => True) v0_ r ∧ Below w.heap.size w w' := by
  obtain rfl := Option.some.inj h
  exact loop_c A0 c0 l0 w hr0 hc0
end Go.Proofs.Ytppkmmifjfcfiaa.P
