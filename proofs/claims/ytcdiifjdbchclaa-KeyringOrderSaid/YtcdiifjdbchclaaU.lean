import Derived.Test.YtcdiifjdbchclaaC
namespace Go.Proofs.Ytcdiifjdbchclaa.P
open Go.RowKit Go.Proofs.YtcdiifjdbchclaaW.PrintWords Go.Proofs.YtcdiifjdbchclaaW.PrintLast
set_option linter.unusedVariables false
set_option linter.unusedSimpArgs false
theorem wf_u32 {a : Int} (h : (Lit.int .u32 a).wf = true) : 0 ≤ a ∧ a < 4294967296 := by
  simp [Lit.wf, IntKind.min, IntKind.max, IntKind.signed, IntKind.bits] at h; omega
theorem wf_u16 {a : Int} (h : (Lit.int .u16 a).wf = true) : 0 ≤ a ∧ a < 65536 := by
  simp [Lit.wf, IntKind.min, IntKind.max, IntKind.signed, IntKind.bits] at h; omega
theorem wf_u8 {a : Int} (h : (Lit.int .u8 a).wf = true) : 0 ≤ a ∧ a < 256 := by
  simp [Lit.wf, IntKind.min, IntKind.max, IntKind.signed, IntKind.bits] at h; omega
theorem wf_i64 {a : Int} (h : (Lit.int .i64 a).wf = true) : -9223372036854775808 ≤ a ∧ a ≤ 9223372036854775807 := by
  simp [Lit.wf, IntKind.min, IntKind.max, IntKind.signed, IntKind.bits] at h; omega
theorem slot_eq {a : Int} (h : 0 ≤ a ∧ a < 4294967296) : slotmeshlaw32_slot.f a = some (a % 999996000) := by
  unfold slotmeshlaw32_slot.f
  rw [w64 (by omega), Int.tmod_eq_emod_of_nonneg h.1]
theorem slot_c (a : Int) (w : World) (h : 0 ≤ a ∧ a < 4294967296) : Calls Try.prog 21 #[.int .u32 a] w fun e w' => e = .returned (.int .i64 (a % 999996000)) ∧ Drawn0 w w' :=
  slotmeshlaw32_slot.calls a _ w (slot_eq h)
end Go.Proofs.Ytcdiifjdbchclaa.P
