/- The contracts of overdriveref.None, Bare, Placed: faults as plain data. -/
import Derived.Test.YtnojejplckhifaaDoorMem
import Derived.Test.YtnojejplckhifaaDoorRows
import Derived.WalkKit
import Derived.Outline
import Derived.Lib.Hide
namespace Go.Proofs.YtnojejplckhifaaDoor
open Go.RowKit
set_option linter.unusedVariables false

/-- a fault: its number, its places' slice -/
def fV (code : Int) (s : Value) : Value := .agg #[.int .i64 code, s]
def FPost (w : World) (v : Value) (e : Ending) (w' : World) : Prop := e = .returned v ∧ Below w.heap.size w w'
theorem none_any (w : World) : Calls Tryd.prog 37 #[] w (FPost w (fV 0 (.slice none 0 0))) := by
  go_enter Tryd.func37, Tryd.ntmps37
  go_wp2
  exact bodyPost_ret (v := fV 0 (.slice none 0 0)) (by simp [results, Tryd.results37, go_sem, fV]) rfl ⟨rfl, (Below.refl _ _).alloc (Nat.le_refl _) _⟩
theorem bare_any (c : Int) (w : World) : Calls Tryd.prog 33 #[.int .i64 c] w (FPost w (fV c (.slice none 0 0))) := by
  go_enter Tryd.func33, Tryd.ntmps33
  go_wp2
  exact bodyPost_ret (v := fV c (.slice none 0 0)) (by simp [results, Tryd.results33, go_sem, fV]) rfl ⟨rfl, (Below.refl _ _).alloc (Nat.le_refl _) _⟩
/-- a fault with one place -/
def PlPost (w : World) (c p : Int) (e : Ending) (w' : World) : Prop :=
  ∃ b, e = .returned (fV c (.slice (some ⟨b, 0, none⟩) 1 1)) ∧ w.heap.size ≤ b ∧ Blk w' b 3 #[.int .i64 p] ∧ Below w.heap.size w w'
theorem placed_any (c p : Int) (w : World) (h : (c == 0) = false) : Calls Tryd.prog 22 #[.int .i64 c, .int .i64 p] w (PlPost w c p) := by
  go_enter Tryd.func22, Tryd.ntmps22
  go_wp2
  refine bodyPost_ret (v := fV c (.slice (some ⟨w.heap.size + 1, 0, none⟩) 1 1)) (by simp [results, Tryd.results22, go_sem, fV]) rfl ⟨w.heap.size + 1, rfl, by omega, ?_, ((Below.refl _ _).alloc (Nat.le_refl _) _).alloc (by simp) _⟩
  have := Blk.new (w.alloc (Obj.cells #[Value.int IntKind.i64 c, Value.slice (some { block := w.heap.size + 1, off := 0 }) 1 1] 35)) 3 #[Value.int IntKind.i64 p]
  simpa using this
end Go.Proofs.YtnojejplckhifaaDoor
