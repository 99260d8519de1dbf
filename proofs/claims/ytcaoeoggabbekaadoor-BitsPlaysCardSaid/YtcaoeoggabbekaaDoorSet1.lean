/- Sets of numbers: New, Len, Clone; the counts of the library. -/
import Derived.Test.YtcaoeoggabbekaaDoorSet0
import Derived.Laws.Cover3
import Derived.Laws.OwnMore
namespace Go.Proofs.YtcaoeoggabbekaaDoor
open Go.RowKit
set_option linter.unusedVariables false
theorem and_lit (x m : Nat) (M : Int) (hM : M = (m : Int)) (hx : x < 18446744073709551616) (hm : m < 18446744073709551616) : bits BinOp.and IntKind.u64 (x : Int) M = ((x &&& m : Nat) : Int) := by
  rw [hM, bits_and_u64_nat x m hx hm]
theorem sum_wrap (a b : Nat) (h : a + b < 18446744073709551616) : IntKind.u64.wrap ((a : Int) + (b : Int)) = ((a + b : Nat) : Int) := by
  rw [← Int.natCast_add]
  exact wrap_small _ h
theorem Lib.and_i64_127 (t : Nat) (h : t < 9223372036854775808) : bits BinOp.and IntKind.i64 (t : Int) 127 = ((t % 128 : Nat) : Int) := by
  have h1 : (BitVec.ofInt 64 (t : Int)).toNat = t := by
    rw [BitVec.ofInt_natCast, BitVec.toNat_ofNat]; exact Nat.mod_eq_of_lt (by omega)
  show IntKind.i64.wrap ((BitVec.ofInt 64 (t : Int) &&& BitVec.ofInt 64 127).toNat : Int) = _
  rw [BitVec.toNat_and, h1, show (BitVec.ofInt 64 127).toNat = 127 from by decide, show (127 : Nat) = 2 ^ 7 - 1 from rfl, Nat.and_two_pow_sub_one_eq_mod]
  exact IntWalk.i64_in _ (by omega)
set_option maxRecDepth 100000 in
theorem ones_any (x : Nat) (hx : x < 18446744073709551616) (w : World) : Calls Tryd.prog 27 #[.int .u64 (x : Int)] w fun e w' => e = .returned (.int .i64 (popc x : Int)) ∧ w = w' := by
  go_enter Tryd.func27, Tryd.ntmps27
  go_wp2
  go_ret
  refine ⟨ret_int ?_, rfl⟩
  obtain ⟨a, b, c, d, e, ha, ha2, hb, hb2, hc, hd, hd2, he, he2, hf2, hp⟩ := pop_chain x hx
  have m1 : msk 85 8 = 6148914691236517205 := by decide
  have m2 : msk 51 8 = 3689348814741910323 := by decide
  have m3 : msk 15 8 = 1085102592571150095 := by decide
  rw [m1] at ha
  rw [m2] at hb
  rw [m3] at hc
  have s1 : IntKind.u64.wrap (bits BinOp.and IntKind.u64 (↑x / 2) 6148914691236517205 + bits BinOp.and IntKind.u64 (↑x) 6148914691236517205) = (a : Int) := by
    rw [show (x : Int) / 2 = ((x / 2 : Nat) : Int) by simp, and_lit (x / 2) 6148914691236517205 6148914691236517205 rfl (by omega) (by decide), and_lit x 6148914691236517205 6148914691236517205 rfl hx (by decide), sum_wrap _ _ (by omega), ha]
  have s2 : IntKind.u64.wrap (bits BinOp.and IntKind.u64 (↑a / 4) 3689348814741910323 + bits BinOp.and IntKind.u64 (↑a) 3689348814741910323) = (b : Int) := by
    rw [show (a : Int) / 4 = ((a / 4 : Nat) : Int) by simp, and_lit (a / 4) 3689348814741910323 3689348814741910323 rfl (by omega) (by decide), and_lit a 3689348814741910323 3689348814741910323 rfl ha2 (by decide), sum_wrap _ _ (by omega), hb]
  have s3 : bits BinOp.and IntKind.u64 (IntKind.u64.wrap (↑b / 16 + ↑b)) 1085102592571150095 = (c : Int) := by
    rw [show (b : Int) / 16 = ((b / 16 : Nat) : Int) by simp, sum_wrap _ _ hb2, and_lit _ 1085102592571150095 1085102592571150095 rfl hb2 (by decide), hc]
  have s4 : IntKind.u64.wrap (↑c + ↑c / 256) = (d : Int) := by
    rw [show (c : Int) / 256 = ((c / 256 : Nat) : Int) by simp, sum_wrap _ _ (by omega), hd]
  have s5 : IntKind.u64.wrap (↑d + ↑d / 65536) = (e : Int) := by
    rw [show (d : Int) / 65536 = ((d / 65536 : Nat) : Int) by simp, sum_wrap _ _ (by omega), he]
  have s6 : IntKind.u64.wrap (↑e + ↑e / 4294967296) = ((e + e / 4294967296 : Nat) : Int) := by
    rw [show (e : Int) / 4294967296 = ((e / 4294967296 : Nat) : Int) by simp, sum_wrap _ _ (by omega)]
  rw [s1, s2, s3, s4, s5, s6, hp]
  generalize e + e / 4294967296 = t at hf2
  have hw : wrap64 (t : Int) = (t : Int) := by unfold wrap64; omega
  rw [hw]
  have h := Lib.and_i64_127 t hf2
  exact h
theorem info_u64 : (Tryd.prog.info? 48).map (fun i => (i.zero, i.size, i.bytes)) = some (some (.int .u64 0), 1, 8) := by kernel_rfl
def words0 (c : Nat) : Array Value := madeCells #[.int .u64 0] c
theorem words0_at (c j : Nat) (hj : j < c) : (words0 c)[j]? = some (.int .u64 ((0 : Nat) : Int)) := by
  have h := toList_madeCells_one (.int .u64 0) c
  rw [← Array.getElem?_toList, words0, h, List.getElem?_replicate, if_pos hj]
  rfl
theorem make_words (c : Nat) (hc : c ≤ 16384) (w : World) : (Instr.makeSlice 45 (.int .i64 (c : Int)) (.int .i64 (c : Int))).run Tryd.prog w = .ok (.slice (some ⟨w.heap.size, 0, none⟩) c c) (w.alloc (.cells (words0 c) 48)) := by
  obtain ⟨i0, hi0, hz0, hz1, hz2⟩ := info_parts info_u64
  have h := run_makeSlice (P := Tryd.prog) w 45 48 i0 (.int .u64 0) Tryd.underlying45 hi0 hz0 .i64 .i64 c c (by omega) (Int.le_refl _) (by rw [hz1]; simp; omega) (by rw [hz2]; simp; omega) (by omega)
  rw [h, hz1, Int.toNat_natCast, Nat.mul_one]
  rfl
def clampN (z : Int) : Nat := (min (max z 0) 1048576).toNat
def NewPost (w : World) (n : Nat) (e : Ending) (w' : World) : Prop :=
  ∃ b g, e = .returned (.pointer (some ⟨b, 0, none⟩)) ∧ w.heap.size ≤ b ∧ w.heap.size ≤ g ∧ SetAt w' b g n (fun _ => false) ∧ Below w.heap.size w w'
theorem new_post (w : World) (n c : Nat) (hw : 0 < w.heap.size) (hn : n ≤ 1048576) (hc : c = (n + 63) / 64) :
    NewPost w n (.returned (.pointer (some ⟨w.heap.size + 1, 0, none⟩))) ((w.alloc (.cells (words0 c) 48)).alloc (.cells #[.int .i64 (n : Int), .slice (some ⟨w.heap.size, 0, none⟩) c c] 47)) := by
  have hb := Blk.new (w.alloc (.cells (words0 c) 48)) 47 #[.int .i64 (n : Int), .slice (some ⟨w.heap.size, 0, none⟩) c c]
  rw [World.size_alloc] at hb
  refine ⟨w.heap.size + 1, w.heap.size, rfl, by omega, Nat.le_refl _, ⟨some ⟨w.heap.size, 0, none⟩, c, List.replicate c 0, by rw [List.length_replicate]; exact hb, ⟨by simp; omega, fun _ => ⟨rfl, _, (Blk.new w _ _).alloc _, fun j x hj => ?_⟩⟩, ⟨by rw [List.length_replicate, hc], fun x hx => ?_, fun i => ?_, fun i h => by cases h⟩, by omega, hw, hn⟩, ((Below.refl _ _).alloc (Nat.le_refl _) _).alloc (by simp) _⟩
  · rw [List.getElem?_replicate] at hj
    split at hj
    · rename_i h
      obtain rfl : 0 = x := by simpa using hj
      exact words0_at c j h
    · cases hj
  · rw [(List.mem_replicate.1 hx).2]; decide
  · rw [bit, List.getElem?_replicate]
    split <;> simp
set_option maxHeartbeats 1000000 in
theorem new_any (z : Int) (w : World) (hw : 0 < w.heap.size) : Calls Tryd.prog 9 #[.int .i64 z] w (NewPost w (clampN z)) := by
  by_cases h0 : z < 0
  · have HC : Hid (clampN z = 0) := Lib.hid (by unfold clampN; omega)
    have hm : ∀ w, (Instr.makeSlice 45 (.int .i64 0) (.int .i64 0)).run Tryd.prog w = .ok (.slice (some ⟨w.heap.size, 0, none⟩) 0 0) (w.alloc (.cells (words0 0) 48)) := make_words 0 (by decide)
    go_enter Tryd.func9, Tryd.ntmps9
    go_wp2
    go_ret
    rw [HC.out]
    exact new_post w 0 0 hw (by decide) (by decide)
  · by_cases h1 : 1048576 < z
    · have HC : Hid (clampN z = 1048576) := Lib.hid (by unfold clampN; omega)
      have hm : ∀ w, (Instr.makeSlice 45 (.int .i64 16384) (.int .i64 16384)).run Tryd.prog w = .ok (.slice (some ⟨w.heap.size, 0, none⟩) 16384 16384) (w.alloc (.cells (words0 16384) 48)) := make_words 16384 (by decide)
      have h2 : ¬ z ≤ 1048576 := by omega
      go_enter Tryd.func9, Tryd.ntmps9
      go_wp2
      go_ret
      rw [HC.out]
      exact new_post w 1048576 16384 hw (by decide) (by decide)
    · obtain ⟨k, rfl⟩ : ∃ k : Nat, z = (k : Int) := ⟨z.toNat, by omega⟩
      have HC : Hid (clampN (k : Int) = k) := Lib.hid (by unfold clampN; omega)
      obtain ⟨c, hc⟩ : ∃ c, c = (k + 63) / 64 := ⟨_, rfl⟩
      have hm := make_words c (by omega)
      have h2 : (k : Int) ≤ 1048576 := by omega
      have h3 : (0 : Int) ≤ (k : Int) := by omega
      have h4 : ((k : Int) + 63) / 64 = (c : Int) := by omega
      have HCC := Lib.hid hc
      clear hc
      go_enter Tryd.func9, Tryd.ntmps9
      go_wp2
      go_ret
      rw [HC.out]
      exact new_post w k c hw (by omega) HCC.out
end Go.Proofs.YtcaoeoggabbekaaDoor
