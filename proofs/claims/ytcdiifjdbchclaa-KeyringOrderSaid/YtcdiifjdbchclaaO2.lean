/- Opens and shuts the two arrays of KeyringOrder: three bytes, three truth values. -/
import Derived.Test.YtcdiifjdbchclaaO
import Derived.Laws.IdiomArrays
namespace Go.Proofs.Ytcdiifjdbchclaa.O
open Go.ChangeShapes Go.WideShapes Go.ChangeAt Go.RowKit Go.Joins
theorem cells39 : Try.prog.cellsOf 39 = 3 := by kernel_rfl
theorem cells40 : Try.prog.cellsOf 40 = 3 := by kernel_rfl
theorem cells5 : Try.prog.cellsOf 5 = 1 := by kernel_rfl
theorem cells4 : Try.prog.cellsOf 4 = 1 := by kernel_rfl
theorem okWide_array {P : Program} {w : World} {r : Reach} {base : Nat} {t e : TypeId} {n : Nat} {v : Value} (ht : P.underlying t = some (.array n e)) (h : Value.okWide P w r base t v) : ∃ cs, v = .agg cs ∧ cs.size = P.cellsOf t := by
  simp only [Value.okWide, ht] at h
  obtain ⟨cs, h1, h2, _⟩ := h
  exact ⟨cs, h1, h2⟩
section
variable {H : Type} {enc : TypeId × Value → H} {w : World} {base : Nat} {spare : Nat → Bool} {held : Bool}
/-- Three bytes, opened. -/
theorem open_bytes3 {r : Reach} {b0 : Nat} {v : Value} {d : DataW H} {p : List MemPlace} (hv : Value.okWide Try.prog w r b0 39 v) (h : DataW.Trod enc Try.prog w base spare held 39 v d p) :
    ∃ a b c : Int, v = .agg #[.int .u8 a, .int .u8 b, .int .u8 c] ∧ d = .agg [.lit (.int .u8 a), .lit (.int .u8 b), .lit (.int .u8 c)] ∧ p = [] ∧
      (Lit.int .u8 a).wf = true ∧ (Lit.int .u8 b).wf = true ∧ (Lit.int .u8 c).wf = true := by
  obtain ⟨cs, rfl, hsz⟩ := okWide_array Try.underlying39 hv
  obtain ⟨c0, c1, c2, rfl⟩ := array3 (hsz.trans cells39)
  obtain ⟨fuel, hf⟩ := h
  obtain ⟨y0, y1, y2, m, hx, h0, h1, h2⟩ := trod_array3 Try.underlying39 cells5 (c0 := c0) (c1 := c1) (c2 := c2) (by simpa [Value.cells] using hf)
  obtain ⟨a, e0, rfl, wa⟩ := DataW.trod_int Try.underlying5 h0
  obtain ⟨b, e1, rfl, wb⟩ := DataW.trod_int Try.underlying5 h1
  obtain ⟨c, e2, rfl, wc⟩ := DataW.trod_int Try.underlying5 h2
  simp at e0 e1 e2
  subst e0 e1 e2
  simp only [Prod.mk.injEq] at hx
  exact ⟨a, b, c, rfl, hx.1, hx.2, wa, wb, wc⟩
/-- Three truth values, opened. -/
theorem open_bools3 {r : Reach} {b0 : Nat} {v : Value} {d : DataW H} {p : List MemPlace} (hv : Value.okWide Try.prog w r b0 40 v) (h : DataW.Trod enc Try.prog w base spare held 40 v d p) :
    ∃ a b c : Bool, v = .agg #[.bool a, .bool b, .bool c] ∧ d = .agg [.lit (.bool a), .lit (.bool b), .lit (.bool c)] ∧ p = [] := by
  obtain ⟨cs, rfl, hsz⟩ := okWide_array Try.underlying40 hv
  obtain ⟨c0, c1, c2, rfl⟩ := array3 (hsz.trans cells40)
  obtain ⟨fuel, hf⟩ := h
  obtain ⟨y0, y1, y2, m, hx, h0, h1, h2⟩ := trod_array3 Try.underlying40 cells4 (c0 := c0) (c1 := c1) (c2 := c2) (by simpa [Value.cells] using hf)
  obtain ⟨a, e0, rfl⟩ := DataW.trod_bool Try.underlying4 h0
  obtain ⟨b, e1, rfl⟩ := DataW.trod_bool Try.underlying4 h1
  obtain ⟨c, e2, rfl⟩ := DataW.trod_bool Try.underlying4 h2
  simp at e0 e1 e2
  subst e0 e1 e2
  simp only [Prod.mk.injEq] at hx
  exact ⟨a, b, c, rfl, hx.1, hx.2⟩
theorem shut_bytes3 {a b c : Int} (wa : (Lit.int .u8 a).wf = true) (wb : (Lit.int .u8 b).wf = true) (wc : (Lit.int .u8 c).wf = true) :
    DataW.Trod enc Try.prog w base spare held 39 (.agg #[.int .u8 a, .int .u8 b, .int .u8 c]) (.agg [.lit (.int .u8 a), .lit (.int .u8 b), .lit (.int .u8 c)]) [] := by
  have r3 : List.range 3 = [0, 1, 2] := rfl
  exact ⟨2, by simp [DataW.trod, Value.cells, Try.underlying39, Try.underlying5, cells39, cells5, r3, wa, wb, wc]⟩
theorem shut_bools3 {a b c : Bool} :
    DataW.Trod enc Try.prog w base spare held 40 (.agg #[.bool a, .bool b, .bool c]) (.agg [.lit (.bool a), .lit (.bool b), .lit (.bool c)]) [] := by
  have r3 : List.range 3 = [0, 1, 2] := rfl
  exact ⟨2, by simp [DataW.trod, Value.cells, Try.underlying40, Try.underlying4, cells40, cells4, r3]⟩
end
end Go.Proofs.Ytcdiifjdbchclaa.O
