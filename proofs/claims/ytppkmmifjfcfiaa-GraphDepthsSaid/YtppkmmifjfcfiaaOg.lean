/- A table of bools that came in, read as lists: what every row over tables opens. -/
import Derived.Test.YtppkmmifjfcfiaaRows
import Derived.Test.YtppkmmifjfcfiaaPx0
import Derived.Deep.Grids
import Derived.WalkKit
import Derived.ProofKit
import Derived.OpenShut
import Derived.ShutString
import Derived.ChangeOld
import Derived.Below
import Derived.SizedLaws
import Derived.Test.YtppkmmifjfcfiaaWSized
namespace Go.Proofs.Ytppkmmifjfcfiaa.Og
open Go.ChangeShapes Go.WideShapes Go.ChangeAt Go.RowKit Go.Deep
open Go.Proofs.YtppkmmifjfcfiaaW.PrintWords Go.Proofs.YtppkmmifjfcfiaaW.PrintLast Go.Proofs.YtppkmmifjfcfiaaW.PrintMore
set_option linter.unusedVariables false
set_option linter.unusedSimpArgs false
theorem own : ownKnob Try.prog.godebug = none := by kernel_rfl
theorem laidOut : laidOutB Try.prog = true := by kernel_rfl

/-- One row of bools, as a list. -/
theorem row_of {W : World} {A : Option Addr} {L C : Nat} {B : Nat → Bool} (h1 : L ≤ C) (h2 : C ≤ maxLen) (h3 : A = none → C = 0) (h4 : ∀ a', A = some a' → ∀ c, c < C → W.cell? (a'.add c) = some (.bool (B c))) :
    Kd.C Kd.bool W A L ((List.range L).map B) := by
  refine ⟨by simp, by unfold maxLen at h2; omega, fun hL => ?_⟩
  cases A with
  | none => have := h3 rfl; omega
  | some a =>
    refine ⟨a, rfl, fun j p hj => ⟨[.bool p], rfl, rfl, fun i u hu => ?_⟩⟩
    rw [List.getElem?_map] at hj
    obtain ⟨x, hx, rfl⟩ := Option.map_eq_some_iff.mp hj
    obtain ⟨hl, rfl⟩ := List.getElem?_eq_some_iff.mp hx
    simp at hl
    cases i with
    | zero =>
      simp at hu
      subst hu
      have := h4 a rfl j (by omega)
      simpa [Kd.bool, Kd.scalar] using this
    | succ i => simp at hu
/-- The table that came in. -/
theorem open_grid {H : Type} {enc : TypeId × Value → H} {W : World} {a0 : Option Addr} {len0 cap0 : Nat} {d : DataW H} {p : List MemPlace} (h : DataW.Trod enc Try.prog W 0 (fun _ => true) true 29 (.slice a0 len0 cap0) d p) :
    ∃ l : List (List Bool), len0 = l.length ∧ Kd.C (Kd.slice 4 Kd.bool) W a0 l.length l ∧ l.length ≤ cap0 := by
  obtain ⟨fuel, hf⟩ := h
  rcases open_bool_rows Try.underlying29 Try.underlying24 Try.underlying4 (by kernel_rfl) (by kernel_rfl) hf with ⟨hcs, _⟩ | ⟨x, l, c, A, L, C, B, hcs, _, hl, hm, _, hr⟩
  · simp [Value.cells] at hcs
    obtain ⟨rfl, rfl, rfl⟩ := hcs
    exact ⟨[], rfl, ⟨rfl, by simp, fun h => absurd h (by simp)⟩, by simp⟩
  · simp [Value.cells] at hcs
    obtain ⟨rfl, rfl, rfl⟩ := hcs
    refine ⟨(List.range len0).map fun r => (List.range (L r)).map (B r), by simp, ⟨rfl, by simp; unfold maxLen at hm; omega, fun _ => ⟨x, rfl, fun j q hj => ?_⟩⟩, by simpa using hl⟩
    rw [List.getElem?_map] at hj
    obtain ⟨y, hy, rfl⟩ := Option.map_eq_some_iff.mp hj
    obtain ⟨hlt, rfl⟩ := List.getElem?_eq_some_iff.mp hy
    simp at hlt
    simp only [List.getElem_range]
    obtain ⟨e1, e2, e3, e4, e5⟩ := hr j (by omega)
    refine ⟨[.slice (A j) (L j) (C j)], rfl, ⟨A j, C j, by simp, by simpa using e2, ?_⟩, fun i u hu => ?_⟩
    · have := row_of (W := W) (B := B j) e2 e3 e4 (fun a' ha c hc => (e5 a' ha).2 c hc)
      simpa using this
    · cases i with
      | zero =>
        simp at hu
        subst hu
        simpa [Kd.slice] using e1
      | succ i => simp at hu
/-- A list of numbers that came in. -/
theorem open_list {H : Type} {enc : TypeId × Value → H} {W : World} {a0 : Option Addr} {len0 cap0 : Nat} {d : DataW H} {p : List MemPlace} (h : DataW.Trod enc Try.prog W 0 (fun _ => true) true 22 (.slice a0 len0 cap0) d p) :
    ∃ l : List Int, len0 = l.length ∧ Kd.C (Kd.int .i64) W a0 l.length l ∧ l.length ≤ cap0 ∧ ∀ x ∈ l, (Lit.int .i64 x).wf = true := by
  have z : ∃ zs : List Int, (a0 = none ∧ len0 = 0 ∧ cap0 = 0 ∧ zs = []) ∨ ∃ x, a0 = some x ∧ len0 ≤ cap0 ∧ cap0 ≤ maxLen ∧ zs.length = cap0 ∧ (∀ i, i < zs.length → W.cell? (x.add i) = some (.int .i64 (zs.getD i 0))) ∧ ∀ n ∈ zs, (Lit.int .i64 n).wf = true := by
    obtain ⟨fuel, hf⟩ := h
    rcases open_ints Try.underlying22 Try.underlying3 (by kernel_rfl) hf with ⟨hcs, _⟩ | ⟨x, l, c, zs, hcs, _, hl, hm, hz, _, hcell, hwz⟩
    · simp [Value.cells] at hcs
      obtain ⟨rfl, rfl, rfl⟩ := hcs
      exact ⟨[], .inl ⟨rfl, rfl, rfl, rfl⟩⟩
    · simp [Value.cells] at hcs
      obtain ⟨rfl, rfl, rfl⟩ := hcs
      exact ⟨zs, .inr ⟨_, rfl, hl, hm, by simpa using hz, hcell, hwz⟩⟩
  obtain ⟨zs, hz⟩ := z
  obtain ⟨l, rfl, hr, hm, hw, hc⟩ := ReadsInt.ofRowC hz
  exact ⟨l, rfl, Kd.C_of_reads (d := (0 : Int)) (h1 := fun _ => rfl) hr, hc, hw⟩
end Go.Proofs.Ytppkmmifjfcfiaa.Og
