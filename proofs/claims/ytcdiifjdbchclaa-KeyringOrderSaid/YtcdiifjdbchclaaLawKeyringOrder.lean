/- KeyringOrder holds: for every input the law returns true and every argument reads as before. No condition. -/
import Derived.Test.YtcdiifjdbchclaaO2
import Derived.Test.YtcdiifjdbchclaaQ5
namespace Go.Proofs.Ytcdiifjdbchclaa.keyringOrder
open Go.ChangeShapes Go.WideShapes Go.ChangeAt Go.RowKit
set_option linter.unusedVariables false
set_option linter.unusedSimpArgs false
set_option maxRecDepth 100000 in
theorem lifted (os : Os) (started : os.Started) (H : Type) (enc : TypeId × Value → H) :
    ReturnsInHanded {} Try.checked os 7 .any (Rows.keyringOrderSpec.pre6 enc Try.prog Try.f7 Rows.keyringOrderRow.domain false) (Rows.keyringOrderSpec.post enc Try.prog Try.f7 false true false false) := by
  refine returnsInHanded_of_change_sized (C := Try.checked) O.own started (by kernel_rfl) Try.func7
    (ChangeSpec.witness6 (enc := enc) (C := Try.checked) false ⟨#[], #[.int .u32 0, .agg #[.int .u8 0, .int .u8 0, .int .u8 0], .agg #[.bool false, .bool false, .bool false]], []⟩ 8 (by kernel_rfl) (by kernel_rfl) (by kernel_rfl) (by kernel_rfl)) ?_
  intro W base args ds gs before hval0 hW hcnd hsz0 _
  have hval : ∀ (j : Nat) t v, Try.f7.params[j]? = some t → args[j]? = some v → Value.okWide Try.prog W .any base t v := hval0
  have hW' := hW
  obtain ⟨p, q, hA0, hV, rfl, hfz, hnd⟩ := hW
  have hA : DataW.TrodAll enc Try.prog W 0 (fun _ => true) true Try.f7.params.toList args.toList ds p := hA0
  rw [Try.params7] at hA hval
  obtain ⟨v0, vs0, d0, ds0, p0, q0, hargs, rfl, rfl, h0, r0⟩ := trodAll_cons hA
  obtain ⟨v1, vs1, d1, ds1, p1, q1, rfl, rfl, rfl, h1, r1⟩ := trodAll_cons r0
  obtain ⟨v2, vs2, d2, ds2, p2, q2, rfl, rfl, rfl, h2, r2⟩ := trodAll_cons r1
  obtain ⟨rfl, rfl, rfl⟩ := trodAll_nil r2
  obtain rfl : args = #[v0, v1, v2] := by cases args; simp_all
  obtain ⟨rfl, rfl⟩ := trodVars_none hV
  obtain ⟨a0, rfl, rfl, rfl, w0⟩ := open_int Try.underlying33 (hval 0 33 v0 rfl rfl) h0
  obtain ⟨b0, b1, b2, rfl, rfl, rfl, y0, y1, y2⟩ := O.open_bytes3 (hval 1 39 v1 rfl rfl) h1
  obtain ⟨x0, x1, x2, rfl, rfl, rfl⟩ := O.open_bools3 (hval 2 40 v2 rfl rfl) h2
  clear hA0 hval0 hsz0
  simp only [List.append_nil, List.nil_append] at hW'
  have g0 : 0 ≤ a0 ∧ a0 < 4294967296 := by simp [Lit.wf, IntKind.min, IntKind.max, IntKind.signed, IntKind.bits] at w0; omega
  have k0 : 0 ≤ b0 ∧ b0 < 256 := by simp [Lit.wf, IntKind.min, IntKind.max, IntKind.signed, IntKind.bits] at y0; omega
  have k1 : 0 ≤ b1 ∧ b1 < 256 := by simp [Lit.wf, IntKind.min, IntKind.max, IntKind.signed, IntKind.bits] at y1; omega
  have k2 : 0 ≤ b2 ∧ b2 < 256 := by simp [Lit.wf, IntKind.min, IntKind.max, IntKind.signed, IntKind.bits] at y2; omega
  refine (P.order_c a0 b0 b1 b2 x0 x1 x2 W g0 k0 k1 k2).mono fun e W' ⟨he, bel⟩ => ?_
  subst he
  exact ⟨_, rfl, _, _, _, [], _, [], hW', trodAll_mk1 (shut_bool Try.underlying4 _), (trodAll_cons_mk (shut_int Try.underlying33 w0) (trodAll_cons_mk (O.shut_bytes3 y0 y1 y2) (trodAll_cons_mk O.shut_bools3 trodAll_mk0))), rfl, bel.frame _, fun h => by cases h⟩
theorem over : Rows.keyringOrderRow.holds Try.pinned (OpenSpec.ofChange Rows.keyringOrderSpec) :=
  OpenClaim.holds_of_wide 7 Try.f7 rfl rfl rfl rfl rfl rfl rfl ⟨rfl, rfl, rfl, rfl, rfl⟩ rfl rfl rfl rfl rfl (by kernel_rfl) Try.func7 (by kernel_rfl)
    (of_decide_eq_true (by kernel_rfl)) (by unfold Func.isWrapper; first | (rw [if_pos (by decide +kernel)]; kernel_rfl) | (rw [if_neg (by decide +kernel)]; exact ⟨rfl, rfl⟩))
    (fun os started H enc _ => lifted os started H enc)
end Go.Proofs.Ytcdiifjdbchclaa.keyringOrder
namespace Go.Proofs.Ytcdiifjdbchclaa
/-- The row, under a short name, for the claim. -/
theorem keyringOrder_holds : Rows.KeyringOrderSaid := keyringOrder.over
#print axioms keyringOrder_holds
end Go.Proofs.Ytcdiifjdbchclaa
