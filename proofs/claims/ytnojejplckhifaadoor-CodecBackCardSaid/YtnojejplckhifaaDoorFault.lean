/- The contracts of overdrivesee.fault, Fault, Same, Is and overdriveref.SameFault. -/
import Derived.Test.YtnojejplckhifaaDoorSee
import Derived.Test.YtnojejplckhifaaDoorSameI
namespace Go.Proofs.YtnojejplckhifaaDoor
open Go.RowKit
set_option linter.unusedVariables false

theorem as_no_at (v : Value) (w : World) : (Instr.typeAssert (.iface 147 v) 30 104 true).run Tryd.prog w = .ok (.tuple #[.pointer none, .bool false]) w := by kernel_rfl
theorem as_no_where (v : Value) (w : World) : (Instr.typeAssert (.iface 147 v) 30 96 true).run Tryd.prog w = .ok (.tuple #[.pointer none, .bool false]) w := by kernel_rfl
theorem as_at (v : Value) (w : World) : (Instr.typeAssert (.iface 104 v) 30 104 true).run Tryd.prog w = .ok (.tuple #[v, .bool true]) w := by kernel_rfl
set_option maxRecDepth 100000 in
set_option maxHeartbeats 400000 in
theorem fault_leaf (ad : Nat → Addr) (k : Nat) (hk : k < 14) (left : Int) (hl : (left == 0) = false) (w : World) (h : Errs w ad) :
    Calls Tryd.prog 56 #[.iface 147 (.pointer (some (ad k))), .int .i64 left] w (FPost w (fV (101 + k) (.slice none 0 0))) := by
  have HE := Lib.hid h
  clear h
  go_enter Tryd.func56, Tryd.ntmps56
  have n1 := as_no_at
  have n2 := as_no_where
  go_wp2_with fail
  refine (sentinel_any ad k hk _ (HE.out.below ((Below.refl _ _).alloc (Nat.le_refl _) _))).mono ?_
  rintro e w1 ⟨rfl, hb1⟩
  go_wp2_with fail
  refine (bare_any _ _).mono ?_
  rintro e w2 ⟨rfl, hb2⟩
  unfold fV
  have hb12 := hb1.trans (hb2.mono hb1.size)
  have c4 : w2.cell? ⟨w.heap.size, 0, none⟩ = some (.int .i64 0) := (hb12.cell (p := ⟨w.heap.size, 0, none⟩) (by simp)).trans ((Blk.new w _ _).cell 0)
  have c5 : w2.cell? ⟨w.heap.size, 1, none⟩ = some (.slice none 0 0) := (hb12.cell (p := ⟨w.heap.size, 1, none⟩) (by simp)).trans ((Blk.new w _ _).cell 1)
  have f4 : w2.frozen? ⟨w.heap.size, 0, none⟩ = false := (hb12.frozen (p := ⟨w.heap.size, 0, none⟩) (by simp)).trans ((Blk.new w _ _).frozen 0)
  have f5 : w2.frozen? ⟨w.heap.size, 1, none⟩ = false := (hb12.frozen (p := ⟨w.heap.size, 1, none⟩) (by simp)).trans ((Blk.new w _ _).frozen 1)
  go_wp2
  have hbw : Below w.heap.size w w2 := ((Below.refl _ _).alloc (Nat.le_refl _) _).trans (hb12.mono (by simp))
  refine bodyPost_ret (v := fV (101 + k) (.slice none 0 0)) ?_ rfl ⟨rfl, (hbw.setCell (p := ⟨w.heap.size, 0, none⟩) (Nat.le_refl _) _).setCell (p := ⟨w.heap.size, 1, none⟩) (Nat.le_refl _) _⟩
  simp [results, Tryd.results56, go_sem, fV, c4, c5]
set_option maxRecDepth 100000 in
set_option maxHeartbeats 400000 in
theorem fault_at (ad : Nat → Addr) (k : Nat) (hk : k < 14) (b : Nat) (pos : Int) (w : World) (h : Errs w ad) (hblk : Blk w b 106 #[.int .i64 pos, .iface 147 (.pointer (some (ad k)))]) :
    Calls Tryd.prog 56 #[.iface 104 (.pointer (some ⟨b, 0, none⟩)), .int .i64 9] w (PlPost w (101 + k) pos) := by
  have HE := Lib.hid h
  have HBK := Lib.hid hblk
  have hlt := hblk.lt
  clear h hblk
  have n1 := as_at
  have q0 : (w.alloc (Obj.cells #[Value.int IntKind.i64 0, Value.slice none 0 0] 35)).cell? ⟨b, 0, none⟩ = some (.int .i64 pos) := (HBK.out.alloc _).cell 0
  have q1 : (w.alloc (Obj.cells #[Value.int IntKind.i64 0, Value.slice none 0 0] 35)).cell? ⟨b, 1, none⟩ = some (.iface 147 (.pointer (some (ad k)))) := (HBK.out.alloc _).cell 1
  go_enter Tryd.func56, Tryd.ntmps56
  go_wp2_with fail
  refine (fault_leaf ad k hk _ (by decide) _ (HE.out.below ((Below.refl _ _).alloc (Nat.le_refl _) _))).mono ?_
  rintro e w1 ⟨rfl, hb1⟩
  unfold fV
  go_wp2_with fail
  have hbw : Below w.heap.size w w1 := ((Below.refl _ _).alloc (Nat.le_refl _) _).trans (hb1.mono (by simp))
  have hsz : w.heap.size + 1 ≤ w1.heap.size := by have := hb1.size; simpa using this
  have p0 : w1.cell? ⟨b, 0, none⟩ = some (.int .i64 pos) := (hbw.cell (p := ⟨b, 0, none⟩) hlt).trans (HBK.out.cell 0)
  have c4 : w1.cell? ⟨w.heap.size, 0, none⟩ = some (.int .i64 0) := (hb1.cell (p := ⟨w.heap.size, 0, none⟩) (by simp)).trans ((Blk.new w _ _).cell 0)
  have c5 : w1.cell? ⟨w.heap.size, 1, none⟩ = some (.slice none 0 0) := (hb1.cell (p := ⟨w.heap.size, 1, none⟩) (by simp)).trans ((Blk.new w _ _).cell 1)
  have f4 : w1.frozen? ⟨w.heap.size, 0, none⟩ = false := (hb1.frozen (p := ⟨w.heap.size, 0, none⟩) (by simp)).trans ((Blk.new w _ _).frozen 0)
  have f5 : w1.frozen? ⟨w.heap.size, 1, none⟩ = false := (hb1.frozen (p := ⟨w.heap.size, 1, none⟩) (by simp)).trans ((Blk.new w _ _).frozen 1)
  have b1 : b < w1.heap.size := by omega
  have b2 : w.heap.size < w1.heap.size := by omega
  clear q0 q1
  go_region
  all_goals go_wp2
  have hB := (hbw.setCell (p := ⟨w.heap.size, 0, none⟩) (Nat.le_refl _) (Value.int IntKind.i64 (101 + k))).setCell (p := ⟨w.heap.size, 1, none⟩) (Nat.le_refl _) (Value.slice (some { block := w1.heap.size + 1, off := 0 }) 1 1)
  have hS : ((w1.setCell ⟨w.heap.size, 0, none⟩ (Value.int IntKind.i64 (101 + k))).setCell ⟨w.heap.size, 1, none⟩ (Value.slice (some { block := w1.heap.size + 1, off := 0 }) 1 1)).heap.size = w1.heap.size := by simp [World.setCell]
  refine bodyPost_ret (v := fV (101 + k) (.slice (some ⟨w1.heap.size + 1, 0, none⟩) 1 1)) ?_ rfl ⟨w1.heap.size + 1, rfl, by omega, ?_, ((hB.alloc (by rw [hS]; omega) _).alloc (by simp [World.setCell]; omega) _).drew⟩
  · simp [results, Tryd.results56, go_sem, fV, c4, c5, b2]
  · have := Blk.new (((w1.setCell ⟨w.heap.size, 0, none⟩ (Value.int IntKind.i64 (101 + k))).setCell ⟨w.heap.size, 1, none⟩ (Value.slice (some { block := w1.heap.size + 1, off := 0 }) 1 1)).alloc (Obj.cells #[Value.int IntKind.i64 (101 + k), Value.slice none 0 0] 35)) 3 #[Value.int IntKind.i64 pos]
    have e : (((w1.setCell ⟨w.heap.size, 0, none⟩ (Value.int IntKind.i64 (101 + k))).setCell ⟨w.heap.size, 1, none⟩ (Value.slice (some { block := w1.heap.size + 1, off := 0 }) 1 1)).alloc (Obj.cells #[Value.int IntKind.i64 (101 + k), Value.slice none 0 0] 35)).heap.size = w1.heap.size + 1 := by simp [World.setCell]
    rw [e] at this
    exact this.drew
end Go.Proofs.YtnojejplckhifaaDoor
