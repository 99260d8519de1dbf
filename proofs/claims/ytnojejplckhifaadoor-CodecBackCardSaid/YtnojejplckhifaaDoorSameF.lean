/- The contracts of overdriveref.SameFault, overdrivesee.Fault, Same, Is. -/
import Derived.Test.YtnojejplckhifaaDoorFault
namespace Go.Proofs.YtnojejplckhifaaDoor
open Go.RowKit
set_option linter.unusedVariables false

set_option maxRecDepth 100000 in
theorem sameF_any (c c' : Int) (A B : Option Addr) (n m d d' : Nat) (l l' : List Int) (w : World) (ha : Reads w w.heap.size 1 A n (l.map (Value.int .i64))) (hb : Reads w w.heap.size 1 B m (l'.map (Value.int .i64))) (hn : n ≤ 1000) :
    Calls Tryd.prog 38 #[fV c (.slice A n d), fV c' (.slice B m d')] w (SameIPost w (decide (c = c') && sameI l l')) := by
  unfold fV
  have HA := Lib.hid ha
  have HB := Lib.hid hb
  clear ha hb
  go_enter Tryd.func38, Tryd.ntmps38
  go_wp2_with fail
  refine (sameI_any A B n m d d' l l' _ (by exact ((HA.out.alloc (Nat.le_refl _) _).alloc (by simp) _).more (by simp; omega)) (by exact ((HB.out.alloc (Nat.le_refl _) _).alloc (by simp) _).more (by simp; omega)) (by omega)).mono ?_
  rintro e w1 ⟨rfl, hb1⟩
  have hbw : Below w.heap.size w w1 := (((Below.refl _ _).alloc (Nat.le_refl _) _).alloc (by simp) _).trans (hb1.mono (by simp; omega))
  have q0 : w1.cell? ⟨w.heap.size, 0, none⟩ = some (.int .i64 c) := (hb1.cell (p := ⟨w.heap.size, 0, none⟩) (by simp; omega)).trans (((Blk.new w _ _).alloc _).cell 0)
  have q1 : w1.cell? ⟨w.heap.size + 1, 0, none⟩ = some (.int .i64 c') := by
    refine (hb1.cell (p := ⟨w.heap.size + 1, 0, none⟩) (by simp)).trans ?_
    simp
  by_cases hc : c = c'
  · have hc' : (c == c') = true := by simpa using hc
    have HC : Hid (decide (c = c') = true) := Lib.hid (by simpa using hc)
    clear hc
    go_wp2
    all_goals go_ret
    all_goals refine ⟨?_, hbw⟩
    all_goals rw [HC.out]
    all_goals simp_all
  · have hc' : (c == c') = false := by simpa using hc
    have HC : Hid (decide (c = c') = false) := Lib.hid (by simpa using hc)
    clear hc
    go_wp2
    go_ret
    refine ⟨?_, hbw⟩
    rw [HC.out]
    rfl
end Go.Proofs.YtnojejplckhifaaDoor
