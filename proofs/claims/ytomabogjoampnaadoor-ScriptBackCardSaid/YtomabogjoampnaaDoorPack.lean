/- The contracts of script.Pack and script.Unpack. -/
import Derived.Test.YtomabogjoampnaaDoorMem
import Derived.Test.YtomabogjoampnaaDoorRows
import Derived.WalkKit
import Derived.Outline
import Derived.Lib.Hide
import Derived.Deep.QuietTactic
import Derived.BigQuiet
import Derived.Deep.RegionWith
import Derived.StillTailTactics
namespace Go.Proofs.YtomabogjoampnaaDoor
open Go.RowKit
set_option linter.unusedVariables false

def bitB (b i : Int) : Bool := bits .and .i64 (b / 2 ^ min i.toNat 64) 1 == 1
theorem bit_any (i b : Int) (g : Nat) (w : World) (hi : 0 ≤ i) (hc : w.cell? ⟨g, 0, none⟩ = some (.int .i64 b)) :
    Calls Tryd.prog 32 #[.int .i64 i, .pointer (some ⟨g, 0, none⟩)] w fun e w' => e = .returned (.bool (bitB b i)) ∧ w = w' := by
  go_enter Tryd.func32, Tryd.ntmps32
  go_wp2
  go_ret
  exact ⟨rfl, rfl⟩
/-- options as a value -/
def oV (b0 b1 b2 b3 b4 : Bool) (r : Int) : Value := .agg #[.bool b0, .bool b1, .bool b2, .bool b3, .bool b4, .int .i64 r]
def regsOf (b : Int) : Int := wrap64 (1 + bits .and .i64 (b / 32) 15)
def UnpackPost (w : World) (b : Int) (e : Ending) (w' : World) : Prop :=
  e = .returned (oV (bitB b 0) (bitB b 1) (bitB b 2) (bitB b 3) (bitB b 4) (regsOf b)) ∧ Below w.heap.size w w'
set_option maxRecDepth 100000 in
set_option maxHeartbeats 1000000 in
theorem unpack_any (b : Int) (w : World) : Calls Tryd.prog 22 #[.int .i64 b] w (UnpackPost w b) := by
  go_enter Tryd.func22, Tryd.ntmps22
  go_wp2_with fail
  obtain ⟨W, hW⟩ : ∃ W, W = (w.alloc (Obj.cells #[Value.int IntKind.i64 b] 3)).alloc (Obj.cells #[Value.bool false, Value.bool false, Value.bool false, Value.bool false, Value.bool false, Value.int IntKind.i64 0] 47) := ⟨_, rfl⟩
  rw [← hW]
  have k0 : W.cell? ⟨w.heap.size, 0, none⟩ = some (.int .i64 b) := by rw [hW]; exact ((Blk.new w _ _).alloc _).cell 0
  have HK : Hid (Blk W (w.heap.size + 1) 47 #[Value.bool false, Value.bool false, Value.bool false, Value.bool false, Value.bool false, Value.int IntKind.i64 0] ∧ Below w.heap.size w W) := Lib.hid (by
    rw [hW]
    refine ⟨?_, ((Below.refl _ _).alloc (Nat.le_refl _) _).alloc (by simp) _⟩
    have := Blk.new (w.alloc (Obj.cells #[Value.int IntKind.i64 b] 3)) 47 #[Value.bool false, Value.bool false, Value.bool false, Value.bool false, Value.bool false, Value.int IntKind.i64 0]
    rwa [show (w.alloc (Obj.cells #[Value.int IntKind.i64 b] 3)).heap.size = w.heap.size + 1 by simp] at this)
  clear hW
  refine wp_region_still_tail 15 (by kernel_rfl) (by kernel_rfl) ?_
  simp only [List.take_succ_cons, List.take_zero, List.drop_succ_cons, List.drop_zero]
  repeat (first | still_step | (still_call ((bit_any _ b w.heap.size W.drew (by decide) k0).mono fun _ _ h => ⟨h.1, h.2.symm⟩)))
  refine wpStill_nil ?_
  have k1 := HK.out.1.drew
  have hb := HK.out.2.drew
  change wpList _ _ _ _ _ W.drew
  generalize W.drew = V at *
  have c0 : V.cell? ⟨w.heap.size + 1, 0, none⟩ = some (.bool false) := k1.cell 0
  have c1 : V.cell? ⟨w.heap.size + 1, 1, none⟩ = some (.bool false) := k1.cell 1
  have c2 : V.cell? ⟨w.heap.size + 1, 2, none⟩ = some (.bool false) := k1.cell 2
  have c3 : V.cell? ⟨w.heap.size + 1, 3, none⟩ = some (.bool false) := k1.cell 3
  have c4 : V.cell? ⟨w.heap.size + 1, 4, none⟩ = some (.bool false) := k1.cell 4
  have c5 : V.cell? ⟨w.heap.size + 1, 5, none⟩ = some (.int .i64 0) := k1.cell 5
  have f0 := k1.frozen 0
  have f1 := k1.frozen 1
  have f2 := k1.frozen 2
  have f3 := k1.frozen 3
  have f4 := k1.frozen 4
  have f5 := k1.frozen 5
  clear HK k1
  go_wp2
  refine bodyPost_ret (v := oV (bitB b 0) (bitB b 1) (bitB b 2) (bitB b 3) (bitB b 4) (regsOf b)) ?_ rfl ⟨rfl, (((((hb.setCell (p := ⟨w.heap.size + 1, 0, none⟩) (Nat.le_succ _) _).setCell (p := ⟨w.heap.size + 1, 1, none⟩) (Nat.le_succ _) _).setCell (p := ⟨w.heap.size + 1, 2, none⟩) (Nat.le_succ _) _).setCell (p := ⟨w.heap.size + 1, 3, none⟩) (Nat.le_succ _) _).setCell (p := ⟨w.heap.size + 1, 4, none⟩) (Nat.le_succ _) _).setCell (p := ⟨w.heap.size + 1, 5, none⟩) (Nat.le_succ _) _⟩
  simp [results, Tryd.results22, go_sem, oV, regsOf, c0, c1, c2, c3, c4, c5]
end Go.Proofs.YtomabogjoampnaaDoor
