/- The contract of word.Put: for every slice of bytes and every number: the bytes, and behind them the number's, in new memory. -/
import Derived.Test.YtnojejplckhifaaDoorRows
import Derived.Test.YtnojejplckhifaaDoorPA
import Derived.Test.YtnojejplckhifaaDoorPB
import Derived.WalkKit
import Derived.Outline
import Derived.Lib.Hide
import Derived.Deep.DeepMust
namespace Go.Proofs.YtnojejplckhifaaDoor
open Go.RowKit
set_option linter.unusedVariables false

theorem byte_info : (Tryd.prog.info? 5).map (fun i => (i.zero, i.size, i.bytes)) = some (some (.int .u8 0), 1, 1) := by kernel_rfl

/-- what Put leaves: a row of the call's own -/
def PutPost (w : World) (l : List Nat) (e : Ending) (w' : World) : Prop :=
  ∃ A c, e = .returned (.slice A l.length c) ∧ w'.ownsRow w.heap.size 5 1 (.slice A l.length c) l.length (l.map bv) ∧ Reads w' w'.heap.size 1 A l.length (l.map bv) ∧ Below w.heap.size w w'
theorem putPost_of {w w2 : World} {v : Value} {m : Nat} {L L' : List Nat} (h : w2.ownsRow w.heap.size 5 1 v m (L.map bv)) (hm : 0 < m) (hb : Below w.heap.size w w2) (hL : L = L') : PutPost w L' (.returned v) w2 := by
  subst hL
  have hl : L.length = m := by have := h.1; simpa using this
  subst hl
  obtain ⟨g, cap, hv, hlt⟩ := h.form hm
  subst hv
  exact ⟨_, _, rfl, h, Reads.of_own h, hb⟩

def PutRel (w : World) (n u : Nat) (l : List Nat) (out su : Value) (wr : World) : Prop :=
  ∃ (f m x : Nat) (ys : List Nat), su = .int .u64 (x : Int) ∧ x < 128 ^ (f + 1) ∧ m + f ≤ n + 9 ∧ wr.ownsRow w.heap.size 5 1 out m (ys.map bv) ∧
      ys ++ encF (f + 1) x = l ++ enc u ∧ Below w.heap.size w wr ∧ U64 x

set_option maxRecDepth 100000 in
theorem put_any (A : Option Addr) (n c u : Nat) (l : List Nat) (w : World) (ha : Reads w w.heap.size 1 A n (l.map bv)) (hn : n ≤ 1048576) (hu : U64 u) :
    Calls Tryd.prog 28 #[.slice A n c, .int .u64 (u : Int)] w (PutPost w (l ++ enc u)) := by
  obtain ⟨i0, hi0, hz0, hz1, hz2⟩ := info_parts byte_info
  have HU64 := Lib.hid hu
  have HU : Hid (u < 128 ^ 10) := Lib.hid (Nat.lt_of_lt_of_le hu (by decide))
  have HL : Hid (l.length = n) := Lib.hid (by have := ha.1; simpa using this)
  have HN := Lib.hid hn
  clear hu
  go_enter Tryd.func28, Tryd.ntmps28
  go_wp2_with (first
    | (at_make
       go_must (refine wpList_make_own _ rfl _ _ 26 rfl w.heap.size 5 i0 (.int .u8 0) 1 Tryd.underlying26 hi0 hz0 hz1 _ _ _ (n + 10) rfl rfl (by omega) (by have := HN.out; rw [hz2]; omega) (by have := HN.out; unfold maxLen; omega) (Nat.le_refl _) ?_)
       intro w0 hown0 hg0
       have hb0 : Below w.heap.size w w0 := (Below.refl _ _).grown hg0 (Nat.le_refl _) (fun k h => by cases h))
    | (at_builtin
       go_must (refine wpList_append_any _ rfl (.tmp 9) (.tmp 10) _ rfl w.heap.size 5 i0 _ 1 1 Tryd.underlying26 hi0 hz0 hz1 hz2 rfl (by omega) (.slice (some ⟨w.heap.size, 0, none⟩) 0 (n + 10)) 0 [] rfl hown0 w.heap.size A n c (l.map bv) rfl (ha.below hb0) (bvs_one l) (by have := HN.out; unfold maxLen; omega) (by have := HN.out; omega) hb0.size ?_)
       intro v1 w1 hown1 hg1 hat1
       go_must (have hb1 : Below w.heap.size w w1 := hb0.grown hg1 hb0.size (fun k hk => by simp [Value.ownBlock] at hk; omega))))
  have HO : Hid (∃ y, w1.ownsRow w.heap.size 5 1 v1 y (l.map bv) ∧ y = n) := Lib.hid ⟨n, by simpa using hown1, rfl⟩
  have HB : Hid (∀ k, v1.ownBlock = some k → w.heap.size ≤ k) := Lib.hid (by
    intro k hk
    rcases hat1 with e | e <;> rw [e] at hk
    · simp [Value.ownBlock] at hk; omega
    · simp at hk; have := hb0.size; omega)
  clear hat1 hg1 hown1 hg0 hown0 hn
  go_loopw [5, 1] (fun out su wr => PutRel w n u l out su wr)
    (fun _ su _ => (intOf su).toNat)
  case atStart =>
    obtain ⟨y, hy, rfl⟩ := HO.out
    exact ⟨9, y, u, l, rfl, HU.out, Nat.le_refl _, hy, rfl, hb1, HU64.out⟩
  case round =>
    obtain ⟨f, m, x, ys, rfl, hx, hm, hown, hys, hbr, hx64⟩ := hrel
    have HX := Lib.hid hx
    have HYS := Lib.hid hys
    have HX64 := Lib.hid hx64
    clear hx hys hx64
    by_cases hlt : x < 128
    · have hlt' : decide (x ≥ 128) = false := by simp; omega
      have hwx := wrapu8_low x hlt
      go_wp2_with (at_builtin
                   go_must (refine wpList_append_any _ rfl (.tmp 22) (.tmp 25) _ rfl w.heap.size 5 i0 _ 1 1 Tryd.underlying26 hi0 hz0 hz1 hz2 rfl (by omega) u5 m (ys.map bv) rfl (hown.alloc _) (wr.heap.size + 1) (some ⟨wr.heap.size, 0, none⟩) 1 1 [bv x] rfl (by exact reads_box _ _ _) (bvs_one [x]) (by have := HN.out; unfold maxLen; omega) (by have := HN.out; omega) (by have := hbr.size; simp; omega) ?_)
                   intro v2 w2 hown2 hg2 hat2)
      go_ret
      refine putPost_of (L := ys ++ [x]) (by simpa using hown2) (by omega) ((hbr.alloc hbr.size _).grown hg2 (by have := hbr.size; simp; omega) (fun k hk => own_ge hown hk)) ?_
      rw [← HYS.out, encF_low _ _ hlt]
    · have hlt' : decide (x ≥ 128) = true := by simp; omega
      have h128 := or128' x
      go_wp2_with (at_builtin
                   go_must (refine wpList_append_any _ rfl (.tmp 16) (.tmp 20) _ rfl w.heap.size 5 i0 _ 1 1 Tryd.underlying26 hi0 hz0 hz1 hz2 rfl (by omega) u5 m (ys.map bv) rfl (hown.alloc _) (wr.heap.size + 1) (some ⟨wr.heap.size, 0, none⟩) 1 1 [bv (x % 128 + 128)] rfl (by exact reads_box _ _ _) (bvs_one [x % 128 + 128]) (by have := HN.out; unfold maxLen; omega) (by have := HN.out; omega) (by have := hbr.size; simp; omega) ?_)
                   intro v2 w2 hown2 hg2 hat2)
      obtain ⟨f, rfl⟩ : ∃ g, f = g + 1 := by
        rcases f with _ | f
        · exact absurd HX.out (by simpa using hlt)
        · exact ⟨f, rfl⟩
      go_roundw
      case rel => exact ⟨f, m + 1, x / 128, ys ++ [x % 128 + 128], by go_num, pow128_div HX.out, by omega, by simpa using hown2, by rw [← HYS.out, encF_more _ _ hlt]; simp, (hbr.alloc hbr.size _).grown hg2 (by have := hbr.size; simp; omega) (fun k hk => own_ge hown hk), Nat.lt_of_le_of_lt (Nat.div_le_self _ _) HX64.out⟩
      case measure => simp [intOf]; omega
/-- the same, what it comes to under a name -/
theorem put_is (L : List Nat) (A : Option Addr) (n c u : Nat) (l : List Nat) (w : World) (hL : L = l ++ enc u) (ha : Reads w w.heap.size 1 A n (l.map bv)) (hn : n ≤ 1048576) (hu : U64 u) :
    Calls Tryd.prog 28 #[.slice A n c, .int .u64 (u : Int)] w (PutPost w L) := hL ▸ put_any A n c u l w ha hn hu
end Go.Proofs.YtnojejplckhifaaDoor
