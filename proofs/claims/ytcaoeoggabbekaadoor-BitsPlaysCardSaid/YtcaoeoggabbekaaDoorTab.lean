/- The table that the rows list: a world that holds it, for the rows' witnesses; and what a row's list gives a walk. -/
import Derived.Test.YtcaoeoggabbekaaDoorFirstB
import Derived.Test.YtcaoeoggabbekaaDoorLaw
import Derived.Lib.LaidTab
import Derived.Deep.DeepHandedRow
import Derived.Deep.DeepWitnessRowRef
namespace Go.Proofs.YtcaoeoggabbekaaDoor
open Go.RowKit Go.ChangeShapes Go.WideShapes

/-- a world that holds the table -/
noncomputable def laidWorld (os : Os) : World :=
  let w0 := World.holding Tryd.prog os ⟨#[], #[], []⟩
  { w0 with heap := w0.heap.modify 0 fun
      | .cells _ t frozen => .cells #[.int .u8 0, .int .u8 1, .int .u8 56, .int .u8 2, .int .u8 57, .int .u8 49, .int .u8 28, .int .u8 3, .int .u8 61, .int .u8 58, .int .u8 42, .int .u8 50, .int .u8 38, .int .u8 29, .int .u8 17, .int .u8 4, .int .u8 62, .int .u8 47, .int .u8 59, .int .u8 36, .int .u8 45, .int .u8 43, .int .u8 51, .int .u8 22, .int .u8 53, .int .u8 39, .int .u8 33, .int .u8 30, .int .u8 24, .int .u8 18, .int .u8 12, .int .u8 5, .int .u8 63, .int .u8 55, .int .u8 48, .int .u8 27, .int .u8 60, .int .u8 41, .int .u8 37, .int .u8 16, .int .u8 46, .int .u8 35, .int .u8 44, .int .u8 21, .int .u8 52, .int .u8 32, .int .u8 23, .int .u8 11, .int .u8 54, .int .u8 26, .int .u8 40, .int .u8 15, .int .u8 34, .int .u8 20, .int .u8 31, .int .u8 10, .int .u8 25, .int .u8 14, .int .u8 19, .int .u8 9, .int .u8 13, .int .u8 8, .int .u8 7, .int .u8 6] t frozen
      | o => o }
theorem tab_of {W : World} (h : laidMet Tryd.prog [("math/bits.deBruijn64tab", Lib.tabData .u8 (Lib.deBruijn64tab.map fun n : Nat => (n : Int)))] W) : TabIn W := by
  have hT := Lib.tabIs_of_head (g := 0) (by kernel_rfl) (by kernel_rfl) Tryd.underlying52 Tryd.underlying5 (by kernel_rfl) (by kernel_rfl) h
  intro j hj
  have := hT.cell (g := 0) (by kernel_rfl) j (by simpa using hj)
  rw [this]
  simp [List.getD, List.getElem?_map, List.getElem?_eq_getElem hj]
theorem bitsBounds_met (os : Os) (args : Array Value) : laidMet Tryd.prog Rows.bitsBoundsRow.laid ((laidWorld os).forCall (fun _ _ => 0) ⟨#[], args, []⟩).memory :=
  laidMet_of_run' 8 (by kernel_rfl) (by kernel_rfl)
theorem bitsBounds_tab {W : World} (h : laidMetH Tryd.prog Rows.bitsBoundsRow.laid W) : TabIn W := tab_of h
theorem bitsOrder_met (os : Os) (args : Array Value) : laidMet Tryd.prog Rows.bitsOrderRow.laid ((laidWorld os).forCall (fun _ _ => 0) ⟨#[], args, []⟩).memory :=
  laidMet_of_run' 8 (by kernel_rfl) (by kernel_rfl)
theorem bitsOrder_tab {W : World} (h : laidMetH Tryd.prog Rows.bitsOrderRow.laid W) : TabIn W := tab_of h
theorem bitsPlays_met (os : Os) (args : Array Value) : laidMet Tryd.prog Rows.bitsPlaysRow.laid ((laidWorld os).forCall (fun _ _ => 0) ⟨#[], args, []⟩).memory :=
  laidMet_of_run' 8 (by kernel_rfl) (by kernel_rfl)
theorem bitsPlays_tab {W : World} (h : laidMetH Tryd.prog Rows.bitsPlaysRow.laid W) : TabIn W := tab_of h
theorem bitsAlgebra_met (os : Os) (args : Array Value) : laidMet Tryd.prog Rows.bitsAlgebraRow.laid ((laidWorld os).forCall (fun _ _ => 0) ⟨#[], args, []⟩).memory :=
  laidMet_of_run' 8 (by kernel_rfl) (by kernel_rfl)
theorem bitsAlgebra_tab {W : World} (h : laidMetH Tryd.prog Rows.bitsAlgebraRow.laid W) : TabIn W := tab_of h
theorem bitsApart_met (os : Os) (args : Array Value) : laidMet Tryd.prog Rows.bitsApartRow.laid ((laidWorld os).forCall (fun _ _ => 0) ⟨#[], args, []⟩).memory :=
  laidMet_of_run' 8 (by kernel_rfl) (by kernel_rfl)
theorem bitsApart_tab {W : World} (h : laidMetH Tryd.prog Rows.bitsApartRow.laid W) : TabIn W := tab_of h
end Go.Proofs.YtcaoeoggabbekaaDoor
