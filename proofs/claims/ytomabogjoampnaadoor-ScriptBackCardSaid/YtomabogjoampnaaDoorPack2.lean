/- The contract of script.Pack. -/
import Derived.Test.YtomabogjoampnaaDoorMem
import Derived.Test.YtomabogjoampnaaDoorRows
import Derived.WalkKit
import Derived.Outline
import Derived.Lib.Hide
namespace Go.Proofs.YtomabogjoampnaaDoor
open Go.RowKit
set_option linter.unusedVariables false

def bl (b0 b1 b2 b3 b4 : Bool) : List Value := [.bool b0, .bool b1, .bool b2, .bool b3, .bool b4]
def pk0 (r : Int) : Int := (min (max r 1) 16 - 1) * 32
def orK (n : Int) (i : Nat) (b : Bool) : Int := if b then bits .or .i64 n (2 ^ i) else n
def pkK (bs : List Bool) (n0 : Int) : Nat → Int
  | 0 => n0
  | k + 1 => orK (pkK bs n0 k) k (bs.getD k false)
def PackRel (bs : List Bool) (n0 : Int) (sn si : Value) : Prop := ∃ (k : Nat), k ≤ 5 ∧ si = .int .i64 (k : Int) ∧ sn = .int .i64 (pkK bs n0 k)
def PackPost (w : World) (n : Int) (e : Ending) (w' : World) : Prop := e = .returned (.int .i64 n) ∧ Below w.heap.size w w'
set_option maxRecDepth 100000 in
set_option maxHeartbeats 1000000 in
theorem pack_any (b0 b1 b2 b3 b4 : Bool) (r : Int) (w : World) : Calls Tryd.prog 21 #[.agg #[.bool b0, .bool b1, .bool b2, .bool b3, .bool b4, .int .i64 r]] w (PackPost w (pkK [b0, b1, b2, b3, b4] (pk0 r) 5)) := by
  go_enter Tryd.func21, Tryd.ntmps21
  go_wp2
  all_goals
    obtain ⟨W, hW⟩ : ∃ W, W = (w.alloc (Obj.cells #[Value.bool b0, Value.bool b1, Value.bool b2, Value.bool b3, Value.bool b4, Value.int IntKind.i64 r] 47)).alloc (Obj.cells #[Value.bool b0, Value.bool b1, Value.bool b2, Value.bool b3, Value.bool b4] 4) := ⟨_, rfl⟩
    rw [← hW]
    have hk : Blk W (w.heap.size + 1) 4 #[Value.bool b0, Value.bool b1, Value.bool b2, Value.bool b3, Value.bool b4] := by
      rw [hW]
      have := Blk.new (w.alloc (Obj.cells #[Value.bool b0, Value.bool b1, Value.bool b2, Value.bool b3, Value.bool b4, Value.int IntKind.i64 r] 47)) 4 #[Value.bool b0, Value.bool b1, Value.bool b2, Value.bool b3, Value.bool b4]
      rwa [show (w.alloc (Obj.cells #[Value.bool b0, Value.bool b1, Value.bool b2, Value.bool b3, Value.bool b4, Value.int IntKind.i64 r] 47)).heap.size = w.heap.size + 1 by simp] at this
    have HB : Hid (Below w.heap.size w W) := Lib.hid (by rw [hW]; exact ((Below.refl _ _).alloc (Nat.le_refl _) _).alloc (by simp) _)
    clear hW
    have c0 : W.cell? ⟨w.heap.size + 1, 0, none⟩ = some (.bool b0) := hk.cell 0
    have c1 : W.cell? ⟨w.heap.size + 1, 1, none⟩ = some (.bool b1) := hk.cell 1
    have c2 : W.cell? ⟨w.heap.size + 1, 2, none⟩ = some (.bool b2) := hk.cell 2
    have c3 : W.cell? ⟨w.heap.size + 1, 3, none⟩ = some (.bool b3) := hk.cell 3
    have c4 : W.cell? ⟨w.heap.size + 1, 4, none⟩ = some (.bool b4) := hk.cell 4
    clear hk
    go_loop [3, 24] (fun sn si => PackRel [b0, b1, b2, b3, b4] (pk0 r) sn si) (fun _ si => 5 - (intOf si).toNat)
    case atStart => exact ⟨0, by omega, rfl, by unfold pkK pk0; congr 1; omega⟩
    case round =>
      obtain ⟨k, hk, rfl, rfl⟩ := hrel
      obtain ⟨bs, hbs⟩ : ∃ x, x = [b0, b1, b2, b3, b4] := ⟨_, rfl⟩
      obtain ⟨m, hm⟩ : ∃ x, x = pkK bs (pk0 r) k := ⟨_, rfl⟩
      have HM := Lib.hid hm
      have HBS := Lib.hid hbs
      rw [← hbs, ← hm]
      clear hm hbs
      obtain rfl | rfl | rfl | rfl | rfl | rfl : k = 0 ∨ k = 1 ∨ k = 2 ∨ k = 3 ∨ k = 4 ∨ k = 5 := by omega
      · cases b0
        all_goals (go_wp2)
        all_goals (go_roundw)
        case rel => exact ⟨1, by omega, rfl, by rw [HM.out, HBS.out]; rfl⟩
        case measure => simp [intOf]
        case rel => exact ⟨1, by omega, rfl, by rw [HM.out, HBS.out]; rfl⟩
        case measure => simp [intOf]
      · cases b1
        all_goals (go_wp2)
        all_goals (go_roundw)
        case rel => exact ⟨2, by omega, rfl, by rw [HM.out, HBS.out]; rfl⟩
        case measure => simp [intOf]
        case rel => exact ⟨2, by omega, rfl, by rw [HM.out, HBS.out]; rfl⟩
        case measure => simp [intOf]
      · cases b2
        all_goals (go_wp2)
        all_goals (go_roundw)
        case rel => exact ⟨3, by omega, rfl, by rw [HM.out, HBS.out]; rfl⟩
        case measure => simp [intOf]
        case rel => exact ⟨3, by omega, rfl, by rw [HM.out, HBS.out]; rfl⟩
        case measure => simp [intOf]
      · cases b3
        all_goals (go_wp2)
        all_goals (go_roundw)
        case rel => exact ⟨4, by omega, rfl, by rw [HM.out, HBS.out]; rfl⟩
        case measure => simp [intOf]
        case rel => exact ⟨4, by omega, rfl, by rw [HM.out, HBS.out]; rfl⟩
        case measure => simp [intOf]
      · cases b4
        all_goals (go_wp2)
        all_goals (go_roundw)
        case rel => exact ⟨5, by omega, rfl, by rw [HM.out, HBS.out]; rfl⟩
        case measure => simp [intOf]
        case rel => exact ⟨5, by omega, rfl, by rw [HM.out, HBS.out]; rfl⟩
        case measure => simp [intOf]
      · go_wp2
        go_ret
        refine ⟨?_, HB.out⟩
        rw [HM.out, HBS.out]
        rfl
end Go.Proofs.YtomabogjoampnaaDoor
