/- The chapter's examples (the law package's own function first) come out true; and the contracts of Zig, Zag, One. -/
import Derived.Test.YtomabogjoampnaaWord
import Derived.Test.YtomabogjoampnaaTake
import Derived.Test.YtomabogjoampnaaSame
import Derived.Test.YtomabogjoampnaaZig
namespace Go.Proofs.Ytomabogjoampnaa
open Go.RowKit
set_option linter.unusedVariables false

theorem zig_any (n : Int) (w : World) : Calls Try.prog 14 #[.int .i64 n] w fun e w' => e = .returned (.int .u64 (zig n)) ∧ w = w' := by
  go_enter Try.func14, Try.ntmps14
  go_wp2
  go_ret
  exact ⟨rfl, rfl⟩
theorem zag_any (n : Int) (w : World) : Calls Try.prog 16 #[.int .u64 n] w fun e w' => e = .returned (.int .i64 (zag n)) ∧ w = w' := by
  go_enter Try.func16, Try.ntmps16
  go_wp2
  go_ret
  exact ⟨rfl, rfl⟩

theorem one_neg (a : Int) (w : World) : Calls Try.prog 18 #[.int .i64 18, .int .i64 a] w fun e w' => e = .returned (.tuple #[.int .i64 (wrap64 (-a)), .bool true]) ∧ w = w' := by
  go_enter Try.func18, Try.ntmps18
  go_wp2
  go_ret2
  exact ⟨rfl, rfl⟩
theorem one_not (op a : Int) (w : World) (h : (op == 18) = false) : Calls Try.prog 18 #[.int .i64 op, .int .i64 a] w fun e w' => e = .returned (.tuple #[.int .i64 0, .bool false]) ∧ w = w' := by
  go_enter Try.func18, Try.ntmps18
  go_wp2
  go_ret2
  exact ⟨rfl, rfl⟩

theorem e1 : tv 11 (-7) 2 = -3 := by decide +kernel
theorem e2 : tv 12 (-7) 2 = -1 := by decide +kernel
theorem e3 : tv 17 (-8) 65 = -4 := by decide +kernel
theorem e4 : zig (-1) = 1 := by decide +kernel
theorem e5 : zig 2 = 4 := by decide +kernel
theorem e6 : tk [128, 0] 0 = none := by decide +kernel
theorem e7 : [] ++ enc 300 = [172, 2] := by decide +kernel

def FirstPost (w : World) (e : Ending) (w' : World) : Prop := e = .returned (.bool true) ∧ Below w.heap.size w w'
set_option maxRecDepth 100000 in
theorem first_any (w : World) : Calls Try.prog 10 #[] w (FirstPost w) := by
  go_enter Try.func10, Try.ntmps10
  go_wp2_with fail
  refine (two_any _ _ _ _).mono ?_
  rintro e w' ⟨rfl, rfl⟩
  rw [e1]
  go_wp2_with fail
  refine (two_any _ _ _ _).mono ?_
  rintro e w' ⟨rfl, rfl⟩
  rw [e2]
  go_wp2_with fail
  refine (two_any _ _ _ _).mono ?_
  rintro e w' ⟨rfl, rfl⟩
  rw [e3]
  go_wp2_with fail
  refine (take_any _ _ _ _ [128, 0] _ (by exact reads_new _ _ _ _ _ rfl rfl) (by decide) (by decide)).mono ?_
  rintro e w' ⟨rfl, rfl⟩
  rw [e6]
  simp only [takeVal]
  go_wp2_with fail
  have HF : Hid (Below w.heap.size w (w.alloc (Obj.cells #[Value.int IntKind.u8 128, Value.int IntKind.u8 0] 5))) := Lib.hid ((Below.refl _ _).alloc (Nat.le_refl _) _)
  refine (put_any none 0 0 300 [] _ (by exact Reads.none_) (by decide) (u64_low (by decide))).mono ?_
  rintro e w' ⟨A, c, rfl, hown, hrd, hbel⟩
  rw [e7] at hown hrd ⊢
  have HB : Hid (Below w.heap.size w w') := Lib.hid (HF.out.trans (hbel.mono (by simp)))
  have HR := Lib.hid hrd
  clear hown hrd hbel HF
  go_wp2_with fail
  refine (zig_any _ _).mono ?_
  rintro e w2 ⟨rfl, rfl⟩
  rw [e4]
  go_wp2_with fail
  refine (zig_any _ _).mono ?_
  rintro e w2 ⟨rfl, rfl⟩
  rw [e5]
  go_wp2_with fail
  refine (same_any _ _ _ _ _ _ [172, 2] [172, 2] _ (by exact (HR.out.alloc (Nat.le_refl _) _).more (by simp)) (by exact reads_new _ _ _ _ _ rfl rfl) (by decide)).mono ?_
  rintro e w2 ⟨rfl, hbel⟩
  rw [show sameB [172, 2] [172, 2] = true by decide]
  go_wp2_with fail
  go_ret
  exact ⟨rfl, HB.out.trans (((Below.refl _ _).alloc (Nat.le_refl _) _).trans (hbel.mono (by simp)) |>.mono (HB.out.size))⟩
end Go.Proofs.Ytomabogjoampnaa
