/- The contracts of the document's own answers of chapter 1 (package overdriveref1): Two, Pure, Zig, Zag. -/
import Derived.Test.YtomabogjoampnaaFirst
namespace Go.Proofs.Ytomabogjoampnaa
open Go.RowKit
set_option linter.unusedVariables false

theorem cutq_m1 (a : Int) : cutq a (-1) = wrap64 (-a) := by
  unfold cutq
  rw [if_neg (by decide)]
  by_cases h : a = -9223372036854775808
  · rw [if_pos ⟨h, rfl⟩, h]; decide +kernel
  · rw [if_neg (fun x => h x.1), Int.tdiv_neg, Int.tdiv_one]
set_option maxRecDepth 100000 in
theorem rtwo_any (op a b : Int) (w : World) : Calls Try.prog 19 #[.int .i64 op, .int .i64 a, .int .i64 b] w fun e w' => e = .returned (.tuple #[.int .i64 (tv op a b), .int .i64 (tt op b)]) ∧ w = w' := by
  have e63 := and63' b
  have p63 : 0 ≤ b % 64 := Int.emod_nonneg _ (by decide)
  have l63 : b % 64 < 64 := Int.emod_lt_of_pos _ (by decide)
  have m63 : min (b % 64).toNat 64 = (b % 64).toNat := by omega
  by_cases hq : op = 11 ∨ op = 12
  · by_cases h0 : b = 0
    · subst h0
      rcases hq with rfl | rfl <;> (go_enter Try.func19, Try.ntmps19; go_wp2; go_ret2; exact ⟨by simp [tv, tt, cutq, cutr], rfl⟩)
    have h0' : (b == 0) = false := beq_eq_false_iff_ne.2 h0
    have H0 := Lib.hid h0
    by_cases h1 : b = -1
    · subst h1
      have HQ := Lib.hid (cutq_m1 a)
      clear e63 p63 l63 m63
      rcases hq with rfl | rfl
      · go_enter Try.func19, Try.ntmps19
        go_wp2
        go_ret2
        exact ⟨by simp [tv, tt, HQ.out], rfl⟩
      · go_enter Try.func19, Try.ntmps19
        go_wp2
        go_ret2
        exact ⟨by simp [tv, tt, cutr], rfl⟩
    have h1' : (b == -1) = false := beq_eq_false_iff_ne.2 h1
    have H1 := Lib.hid h1
    clear h0 h1
    rcases hq with rfl | rfl <;> (go_enter Try.func19, Try.ntmps19; go_wp2; go_ret2; exact ⟨by simp [tv, tt, cutq, cutr, H0.out, H1.out], rfl⟩)
  have c1 : (op == 11) = false := by simp; omega
  have c2 : (op == 12) = false := by simp; omega
  clear hq
  by_cases hlt : a < b
  · have hl : decide (a < b) = true := by simpa using hlt
    have hne : (a == b) = false := by simp; omega
    have HNE : Hid (¬ a = b) := Lib.hid (by omega)
    go_enter Try.func19, Try.ntmps19
    go_wp2
    all_goals go_ret2
    all_goals refine ⟨?_, rfl⟩
    all_goals have hne' := HNE.out
    all_goals simp_all [tv, tt]
  · have hl : decide (a < b) = false := by simpa using hlt
    by_cases he : a = b
    · have hne : (a == b) = true := by simpa using he
      have HE := Lib.hid he
      clear he
      go_enter Try.func19, Try.ntmps19
      go_wp2
      all_goals go_ret2
      all_goals refine ⟨?_, rfl⟩
      all_goals have he := HE.out
      all_goals simp_all [tv, tt]
    · have hne : (a == b) = false := by simpa using he
      have HE := Lib.hid he
      clear he
      go_enter Try.func19, Try.ntmps19
      go_wp2
      all_goals go_ret2
      all_goals refine ⟨?_, rfl⟩
      all_goals have he := HE.out
      all_goals simp_all [tv, tt]

theorem rzig_any (n : Int) (h : I64 n) (w : World) : Calls Try.prog 25 #[.int .i64 n] w fun e w' => e = .returned (.int .u64 (zig n)) ∧ w = w' := by
  by_cases h0 : 0 ≤ n
  · have h0' : decide (0 ≤ n) = true := by simpa using h0
    have HZ := Lib.hid (zig_pos n h h0)
    have H := Lib.hid h
    clear h h0
    go_enter Try.func25, Try.ntmps25
    go_wp2
    go_ret
    refine ⟨?_, rfl⟩
    rw [HZ.out]
    refine ret_int ?_
    rw [IntKind.wrap_u64, IntKind.wrap_u64]
    have := H.out
    unfold I64 at this
    have h0 : 0 ≤ n := by simpa using h0'
    omega
  · have h0' : decide (0 ≤ n) = false := by simpa using h0
    have HZ := Lib.hid (zig_neg n h (by omega))
    have H := Lib.hid h
    clear h h0
    go_enter Try.func25, Try.ntmps25
    go_wp2
    go_ret
    refine ⟨?_, rfl⟩
    rw [HZ.out]
    refine ret_int ?_
    have := H.out
    unfold I64 at this
    have h0 : ¬ 0 ≤ n := by simpa using h0'
    rw [IntKind.wrap_u64, IntKind.wrap_u64, IntKind.wrap_u64]
    have e1 : wrap64 (n + 1) = n + 1 := w_in (by unfold I64; omega)
    have e2 : wrap64 (-(n + 1)) = -(n + 1) := w_in (by unfold I64; omega)
    first | rw [e1, e2] | skip
    omega
theorem rzag_any (u : Nat) (h : U64 u) (w : World) : Calls Try.prog 26 #[.int .u64 (u : Int)] w fun e w' => e = .returned (.int .i64 (zag (u : Int))) ∧ w = w' := by
  by_cases h0 : u % 2 = 0
  · have HZ := Lib.hid (zag_even u h h0)
    have h0' : ((u : Int) % 2 == 0) = true := by simp; omega
    have H := Lib.hid h
    clear h h0
    go_enter Try.func26, Try.ntmps26
    go_wp2
    go_ret
    refine ⟨?_, rfl⟩
    rw [HZ.out]
    refine ret_int ?_
    have := H.out
    unfold U64 at this
    have e0 : IntKind.u64.wrap ((u : Int) / 2) = (u : Int) / 2 := by rw [IntKind.wrap_u64]; omega
    rw [e0, w_in (by unfold I64; omega)]
  · have HZ := Lib.hid (zag_odd u h (by omega))
    have h0' : ((u : Int) % 2 == 0) = false := by simp; omega
    have H := Lib.hid h
    clear h h0
    go_enter Try.func26, Try.ntmps26
    go_wp2
    go_ret
    refine ⟨?_, rfl⟩
    rw [HZ.out]
    refine ret_int ?_
    have := H.out
    unfold U64 at this
    have e1 : wrap64 ((u : Int) / 2) = (u : Int) / 2 := w_in (by unfold I64; omega)
    have e2 : wrap64 (-((u : Int) / 2)) = -((u : Int) / 2) := w_in (by unfold I64; omega)
    have e3 : wrap64 (-((u : Int) / 2) - 1) = -((u : Int) / 2) - 1 := w_in (by unfold I64; omega)
    have e0 : IntKind.u64.wrap ((u : Int) / 2) = (u : Int) / 2 := by rw [IntKind.wrap_u64]; omega
    rw [e0, e1, e2, e3]
end Go.Proofs.Ytomabogjoampnaa
