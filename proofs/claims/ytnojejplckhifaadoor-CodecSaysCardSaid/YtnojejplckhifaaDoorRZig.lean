/- The contracts of overdriveref1.Zig and Zag. -/
import Derived.Test.YtnojejplckhifaaDoorZz
namespace Go.Proofs.YtnojejplckhifaaDoor
open Go.RowKit
set_option linter.unusedVariables false

theorem rzig_any (n : Int) (h : I64 n) (w : World) : Calls Tryd.prog 24 #[.int .i64 n] w fun e w' => e = .returned (.int .u64 (zig n)) ∧ w = w' := by
  by_cases h0 : 0 ≤ n
  · have h0' : decide (0 ≤ n) = true := by simpa using h0
    have HZ := Lib.hid (zig_pos n h h0)
    have H := Lib.hid h
    clear h h0
    go_enter Tryd.func24, Tryd.ntmps24
    go_wp2
    go_ret
    refine ⟨?_, rfl⟩
    rw [HZ.out]
    refine ret_int ?_
    rw [IntKind.wrap_u64, IntKind.wrap_u64]
    have := H.out
    unfold I64 at this
    have h0 : 0 ≤ n := by simpa using h0'
    omega
  · have h0' : decide (0 ≤ n) = false := by simpa using h0
    have HZ := Lib.hid (zig_neg n h (by omega))
    have H := Lib.hid h
    clear h h0
    go_enter Tryd.func24, Tryd.ntmps24
    go_wp2
    go_ret
    refine ⟨?_, rfl⟩
    rw [HZ.out]
    refine ret_int ?_
    have := H.out
    unfold I64 at this
    have h0 : ¬ 0 ≤ n := by simpa using h0'
    rw [IntKind.wrap_u64, IntKind.wrap_u64, IntKind.wrap_u64]
    have e1 : wrap64 (n + 1) = n + 1 := w_in (by unfold I64; omega)
    have e2 : wrap64 (-(n + 1)) = -(n + 1) := w_in (by unfold I64; omega)
    first | rw [e1, e2] | skip
    omega
theorem rzag_any (u : Nat) (h : U64 u) (w : World) : Calls Tryd.prog 52 #[.int .u64 (u : Int)] w fun e w' => e = .returned (.int .i64 (zag (u : Int))) ∧ w = w' := by
  by_cases h0 : u % 2 = 0
  · have HZ := Lib.hid (zag_even u h h0)
    have h0' : ((u : Int) % 2 == 0) = true := by simp; omega
    have H := Lib.hid h
    clear h h0
    go_enter Tryd.func52, Tryd.ntmps52
    go_wp2
    go_ret
    refine ⟨?_, rfl⟩
    rw [HZ.out]
    refine ret_int ?_
    have := H.out
    unfold U64 at this
    have e0 : IntKind.u64.wrap ((u : Int) / 2) = (u : Int) / 2 := by rw [IntKind.wrap_u64]; omega
    rw [e0, w_in (by unfold I64; omega)]
  · have HZ := Lib.hid (zag_odd u h (by omega))
    have h0' : ((u : Int) % 2 == 0) = false := by simp; omega
    have H := Lib.hid h
    clear h h0
    go_enter Tryd.func52, Tryd.ntmps52
    go_wp2
    go_ret
    refine ⟨?_, rfl⟩
    rw [HZ.out]
    refine ret_int ?_
    have := H.out
    unfold U64 at this
    have e1 : wrap64 ((u : Int) / 2) = (u : Int) / 2 := w_in (by unfold I64; omega)
    have e2 : wrap64 (-((u : Int) / 2)) = -((u : Int) / 2) := w_in (by unfold I64; omega)
    have e3 : wrap64 (-((u : Int) / 2) - 1) = -((u : Int) / 2) - 1 := w_in (by unfold I64; omega)
    have e0 : IntKind.u64.wrap ((u : Int) / 2) = (u : Int) / 2 := by rw [IntKind.wrap_u64]; omega
    rw [e0, e1, e2, e3]
end Go.Proofs.YtnojejplckhifaaDoor
