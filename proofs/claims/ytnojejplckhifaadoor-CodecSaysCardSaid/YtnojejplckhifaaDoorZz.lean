/- The contracts of word.Zig and Zag. -/
import Derived.Test.YtnojejplckhifaaDoorTake
import Derived.Test.YtnojejplckhifaaDoorPA
namespace Go.Proofs.YtnojejplckhifaaDoor
open Go.RowKit
theorem zig_any (n : Int) (w : World) : Calls Tryd.prog 32 #[.int .i64 n] w fun e w' => e = .returned (.int .u64 (zig n)) ∧ w = w' := by
  go_enter Tryd.func32, Tryd.ntmps32
  go_wp2
  go_ret
  exact ⟨rfl, rfl⟩
theorem zag_any (n : Int) (w : World) : Calls Tryd.prog 78 #[.int .u64 n] w fun e w' => e = .returned (.int .i64 (zag n)) ∧ w = w' := by
  go_enter Tryd.func78, Tryd.ntmps78
  go_wp2
  go_ret
  exact ⟨rfl, rfl⟩
end Go.Proofs.YtnojejplckhifaaDoor
