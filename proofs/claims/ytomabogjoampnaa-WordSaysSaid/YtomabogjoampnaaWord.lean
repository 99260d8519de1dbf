/- The contracts of package word's small functions over this seat's program. -/
import Derived.Test.YtomabogjoampnaaRows
import Derived.Test.YtomabogjoampnaaMath
import Derived.WalkKit
import Derived.Outline
import Derived.Lib.Hide
namespace Go.Proofs.Ytomabogjoampnaa
open Go.RowKit
set_option linter.unusedVariables false

theorem truth_t (w : World) : Calls Try.prog 28 #[.bool true] w fun e w' => e = .returned (.int .i64 1) ∧ w = w' := by
  go_enter Try.func28, Try.ntmps28
  go_wp2
  go_ret
  exact ⟨rfl, rfl⟩
theorem truth_f (w : World) : Calls Try.prog 28 #[.bool false] w fun e w' => e = .returned (.int .i64 0) ∧ w = w' := by
  go_enter Try.func28, Try.ntmps28
  go_wp2
  go_ret
  exact ⟨rfl, rfl⟩
theorem cut_any (op a b : Int) (hop : op = 11 ∨ op = 12) (w : World) : Calls Try.prog 27 #[.int .i64 op, .int .i64 a, .int .i64 b] w fun e w' => e = .returned (.tuple #[.int .i64 (tv op a b), .int .i64 (tt op b)]) ∧ w = w' := by
  by_cases h0 : b = 0
  · subst h0
    go_enter Try.func27, Try.ntmps27
    go_wp2
    go_ret2
    rcases hop with rfl | rfl <;> exact ⟨by simp [tv, tt, cutq, cutr], rfl⟩
  have h0' : (b == 0) = false := beq_eq_false_iff_ne.2 h0
  by_cases h1 : b = -1
  · subst h1
    by_cases h2 : a = -9223372036854775808
    · subst h2
      rcases hop with rfl | rfl
      · go_enter Try.func27, Try.ntmps27
        go_wp2
        go_ret2
        exact ⟨by simp [tv, tt, cutq, cutr], rfl⟩
      · go_enter Try.func27, Try.ntmps27
        go_wp2
        go_ret2
        exact ⟨by simp [tv, tt, cutq, cutr], rfl⟩
    have h2' : (a == -9223372036854775808) = false := beq_eq_false_iff_ne.2 h2
    rcases hop with rfl | rfl
    · go_enter Try.func27, Try.ntmps27
      go_wp2
      go_ret2
      exact ⟨by simp [tv, tt, cutq, cutr, h2], rfl⟩
    · go_enter Try.func27, Try.ntmps27
      go_wp2
      go_ret2
      exact ⟨by simp [tv, tt, cutq, cutr], rfl⟩
  have h1' : (b == -1) = false := beq_eq_false_iff_ne.2 h1
  have H1 := Lib.hid h1
  have H0 := Lib.hid h0
  by_cases h2 : a = -9223372036854775808
  · have h2' : (a == -9223372036854775808) = true := beq_iff_eq.2 h2
    clear h2
    rcases hop with rfl | rfl <;> (go_enter Try.func27, Try.ntmps27; go_wp2; go_ret2; exact ⟨by simp [tv, tt, cutq, cutr, H0.out, H1.out], rfl⟩)
  have h2' : (a == -9223372036854775808) = false := beq_eq_false_iff_ne.2 h2
  have H2 := Lib.hid h2
  rcases hop with rfl | rfl <;> (go_enter Try.func27, Try.ntmps27; go_wp2; go_ret2; exact ⟨by simp [tv, tt, cutq, cutr, H0.out, H1.out, H2.out], rfl⟩)

theorem two_any (op a b : Int) (w : World) : Calls Try.prog 12 #[.int .i64 op, .int .i64 a, .int .i64 b] w fun e w' => e = .returned (.tuple #[.int .i64 (tv op a b), .int .i64 (tt op b)]) ∧ w = w' := by
  have e63 := and63 b
  have p63 : 0 ≤ b % 64 := Int.emod_nonneg _ (by decide)
  have l63 : b % 64 < 64 := Int.emod_lt_of_pos _ (by decide)
  have m63 : min (b % 64).toNat 64 = (b % 64).toNat := by omega
  by_cases c : op = 11 ∨ op = 12
  · rcases c with rfl | rfl
    all_goals
      go_enter Try.func12, Try.ntmps12
      go_wp2_with fail
      refine (cut_any _ _ _ (by decide) _).mono ?_
      rintro e w' ⟨rfl, rfl⟩
      go_wp2_with fail
      go_ret2
      exact ⟨rfl, rfl⟩
  have c1 : (op == 11) = false := by simp; omega
  have c2 : (op == 12) = false := by simp; omega
  clear c
  by_cases d : op = 19 ∨ op = 20
  · rcases d with rfl | rfl
    · by_cases hl : a < b
      · have hl' : decide (a < b) = true := by simpa using hl
        go_enter Try.func12, Try.ntmps12
        go_wp2_with fail
        refine (truth_t _).mono ?_
        rintro e w' ⟨rfl, rfl⟩
        go_wp2_with fail
        go_ret2
        exact ⟨by simp [tv, tt, hl], rfl⟩
      · have hl' : decide (a < b) = false := by simpa using hl
        go_enter Try.func12, Try.ntmps12
        go_wp2_with fail
        refine (truth_f _).mono ?_
        rintro e w' ⟨rfl, rfl⟩
        go_wp2_with fail
        go_ret2
        exact ⟨by simp [tv, tt, hl], rfl⟩
    · by_cases hl : a = b
      · have hl' : (a == b) = true := by simpa using hl
        have HL := Lib.hid hl
        clear hl
        go_enter Try.func12, Try.ntmps12
        go_wp2_with fail
        refine (truth_t _).mono ?_
        rintro e w' ⟨rfl, rfl⟩
        go_wp2_with fail
        go_ret2
        exact ⟨by simp [tv, tt, HL.out], rfl⟩
      · have hl' : (a == b) = false := by simpa using hl
        go_enter Try.func12, Try.ntmps12
        go_wp2_with fail
        refine (truth_f _).mono ?_
        rintro e w' ⟨rfl, rfl⟩
        go_wp2_with fail
        go_ret2
        exact ⟨by simp [tv, tt, hl], rfl⟩
  have d1 : (op == 19) = false := by simp; omega
  have d2 : (op == 20) = false := by simp; omega
  clear d
  go_enter Try.func12, Try.ntmps12
  go_wp2
  all_goals go_ret2
  all_goals refine ⟨?_, rfl⟩
  all_goals simp_all [tv, tt]
theorem func2_any (op a b : Int) (w : World) : Calls Try.prog 11 #[.int .i64 op, .int .i64 a, .int .i64 b] w fun e w' => e = .returned (.int .i64 (tv op a b)) ∧ w = w' := by
  go_enter Try.func11, Try.ntmps11
  go_wp2_with fail
  refine (two_any _ _ _ _).mono ?_
  rintro e w' ⟨rfl, rfl⟩
  go_wp2_with fail
  go_ret
  exact ⟨rfl, rfl⟩
end Go.Proofs.Ytomabogjoampnaa
