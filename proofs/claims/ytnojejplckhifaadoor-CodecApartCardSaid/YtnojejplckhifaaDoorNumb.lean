/- The contract of overdriveworld.Number at a positive bound. -/
import Derived.Test.YtnojejplckhifaaDoorLaw5
namespace Go.Proofs.YtnojejplckhifaaDoor
open Go.RowKit
set_option linter.unusedVariables false

theorem numb_any (a : Int) (n : Nat) (h0 : 0 < n) (hn : n ≤ 1048576) (ha : I64 a) (w : World) :
    Calls Tryd.prog 20 #[.int .i64 a, .int .i64 (n : Int)] w fun e w' => (∃ t : Nat, t < n ∧ e = .returned (.int .i64 (t : Int))) ∧ w = w' := by
  have hne : ¬ (n : Int) = 0 := by omega
  have hz : ((n : Int) == 0) = false := by simp; omega
  have b1 : -(n : Int) < a.tmod n := Int.lt_tmod_of_pos a (by omega)
  have b2 : a.tmod n < (n : Int) := Int.tmod_lt_of_pos a (by omega)
  have c1 : 0 ≤ (a.tmod n + n) % (n : Int) := Int.emod_nonneg _ hne
  have c2 : (a.tmod n + n) % (n : Int) < n := Int.emod_lt_of_pos _ (by omega)
  have HT : Hid (∃ t : Nat, t < n ∧ Ending.returned (.int .i64 ((a.tmod n + n) % (n : Int))) = .returned (.int .i64 (t : Int))) := Lib.hid ⟨((a.tmod n + n) % (n : Int)).toNat, by omega, by rw [Int.toNat_of_nonneg c1]⟩
  clear c1 c2
  go_enter Tryd.func20, Tryd.ntmps20
  go_wp2
  go_ret
  exact ⟨HT.out, rfl⟩
end Go.Proofs.YtnojejplckhifaaDoor
