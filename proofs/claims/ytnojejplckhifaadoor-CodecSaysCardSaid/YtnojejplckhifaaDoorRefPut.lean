/- The contracts of overdriveref1.Put and overdriveref.Bytes: a number's bytes, a copy of bytes, in new memory. -/
import Derived.Test.YtnojejplckhifaaDoorPut
namespace Go.Proofs.YtnojejplckhifaaDoor
open Go.RowKit
set_option linter.unusedVariables false

theorem add128 (x : Nat) : IntKind.u8.wrap (IntKind.u8.wrap ((x : Int) % 128) + 128) = ((x % 128 + 128 : Nat) : Int) := by
  rw [IntKind.wrap_u8', IntKind.wrap_u8']; omega
theorem wdiv128 (x : Nat) (h : U64 x) : IntKind.u64.wrap ((x : Int) / 128) = (x : Int) / 128 := by unfold U64 at h; rw [IntKind.wrap_u64]; omega
def RPutRel (w : World) (u : Nat) (out su : Value) (wr : World) : Prop :=
  ∃ (f m x : Nat) (ys : List Nat), su = .int .u64 (x : Int) ∧ x < 128 ^ (f + 1) ∧ m + f ≤ 9 ∧ wr.ownsRow w.heap.size 5 1 out m (ys.map bv) ∧
      ys ++ encF (f + 1) x = enc u ∧ Below w.heap.size w wr ∧ U64 x

set_option maxRecDepth 100000 in
theorem rput_any (u : Nat) (w : World) (hu : U64 u) :
    Calls Tryd.prog 23 #[.int .u64 (u : Int)] w (PutPost w (enc u)) := by
  obtain ⟨i0, hi0, hz0, hz1, hz2⟩ := info_parts byte_info
  have HU64 := Lib.hid hu
  have HU : Hid (u < 128 ^ 10) := Lib.hid (Nat.lt_of_lt_of_le hu (by decide))
  clear hu
  go_enter Tryd.func23, Tryd.ntmps23
  go_wp2
  go_loopw [3, 0] (fun out su wr => RPutRel w u out su wr)
    (fun _ su _ => (intOf su).toNat)
  case atStart => exact ⟨9, 0, u, [], rfl, HU.out, Nat.le_refl _, ⟨rfl, .inl ⟨rfl, rfl⟩⟩, rfl, Below.refl _ _, HU64.out⟩
  case round =>
    obtain ⟨f, m, x, ys, rfl, hx, hm, hown, hys, hbr, hx64⟩ := hrel
    have HX := Lib.hid hx
    have HYS := Lib.hid hys
    have HX64 := Lib.hid hx64
    clear hx hys hx64
    by_cases hlt : x < 128
    · have hlt' : decide (x ≥ 128) = false := by simp; omega
      have hwx := wrapu8_low x hlt
      go_wp2_with (at_builtin
                   go_must (refine wpList_append_any _ rfl (.tmp 15) (.tmp 18) _ rfl w.heap.size 5 i0 _ 1 1 Tryd.underlying26 hi0 hz0 hz1 hz2 rfl (by omega) u3 m (ys.map bv) rfl (hown.alloc _) (wr.heap.size + 1) (some ⟨wr.heap.size, 0, none⟩) 1 1 [bv x] rfl (by exact reads_box _ _ _) (bvs_one [x]) (by unfold maxLen; omega) (by omega) (by have := hbr.size; simp; omega) ?_)
                   intro v2 w2 hown2 hg2 hat2)
      go_ret
      refine putPost_of (L := ys ++ [x]) (by simpa using hown2) (by omega) ((hbr.alloc hbr.size _).grown hg2 (by have := hbr.size; simp; omega) (fun k hk => own_ge hown hk)) ?_
      rw [← HYS.out, encF_low _ _ hlt]
    · have hlt' : decide (x ≥ 128) = true := by simp; omega
      have h128 := add128 x
      have hdw := wdiv128 x HX64.out
      go_wp2_with (at_builtin
                   go_must (refine wpList_append_any _ rfl (.tmp 6) (.tmp 11) _ rfl w.heap.size 5 i0 _ 1 1 Tryd.underlying26 hi0 hz0 hz1 hz2 rfl (by omega) u3 m (ys.map bv) rfl (hown.alloc _) (wr.heap.size + 1) (some ⟨wr.heap.size, 0, none⟩) 1 1 [bv (x % 128 + 128)] rfl (by exact reads_box _ _ _) (bvs_one [x % 128 + 128]) (by unfold maxLen; omega) (by omega) (by have := hbr.size; simp; omega) ?_)
                   intro v2 w2 hown2 hg2 hat2)
      obtain ⟨f, rfl⟩ : ∃ g, f = g + 1 := by
        rcases f with _ | f
        · exact absurd HX.out (by simpa using hlt)
        · exact ⟨f, rfl⟩
      go_roundw
      case rel => exact ⟨f, m + 1, x / 128, ys ++ [x % 128 + 128], by go_num, pow128_div HX.out, by omega, by simpa using hown2, by rw [← HYS.out, encF_more _ _ hlt]; simp, (hbr.alloc hbr.size _).grown hg2 (by have := hbr.size; simp; omega) (fun k hk => own_ge hown hk), Nat.lt_of_le_of_lt (Nat.div_le_self _ _) HX64.out⟩
      case measure => simp [intOf]; omega

def BytesPost (w : World) (l : List Nat) (e : Ending) (w' : World) : Prop :=
  ∃ A c, e = .returned (.slice A l.length c) ∧ w'.ownsRow w.heap.size 5 1 (.slice A l.length c) l.length (l.map bv) ∧ Below w.heap.size w w'
theorem bytesPost_of {w w2 : World} {v : Value} {m : Nat} {L : List Nat} (h : w2.ownsRow w.heap.size 5 1 v m (L.map bv)) (hb : Below w.heap.size w w2) : BytesPost w L (.returned v) w2 := by
  have hl : L.length = m := by have := h.1; simpa using this
  subst hl
  rcases h.2 with ⟨hv, hn⟩ | ⟨g, cap, cur, hv, _⟩
  · subst hv
    refine ⟨none, 0, ?_, ?_, hb⟩
    · rw [hn]
    · rw [hn] at *; exact h
  · subst hv
    exact ⟨_, _, rfl, h, hb⟩
def BytesRel (w : World) (l : List Nat) (out si : Value) (wr : World) : Prop :=
  ∃ k : Nat, k ≤ l.length ∧ si = .int .i64 (k : Int) ∧ wr.ownsRow w.heap.size 5 1 out k ((l.take k).map bv) ∧ Below w.heap.size w wr
set_option maxRecDepth 100000 in
theorem bytes_any (A : Option Addr) (n c : Nat) (l : List Nat) (w : World) (ha : Reads w w.heap.size 1 A n (l.map bv)) (hn : n ≤ 65000) :
    Calls Tryd.prog 21 #[.slice A n c] w (BytesPost w l) := by
  obtain ⟨i0, hi0, hz0, hz1, hz2⟩ := info_parts byte_info
  have hl : l.length = n := by have := ha.1; simpa using this
  subst hl
  go_enter Tryd.func21, Tryd.ntmps21
  go_wp2_with (at_make
               go_must (refine wpList_make_own _ rfl _ _ 26 rfl w.heap.size 5 i0 (.int .u8 0) 1 Tryd.underlying26 hi0 hz0 hz1 _ _ _ l.length rfl rfl (by omega) (by rw [hz2]; omega) (by unfold maxLen; omega) (Nat.le_refl _) ?_)
               intro w0 hown0 hg0
               have hb0 : Below w.heap.size w w0 := (Below.refl _ _).grown hg0 (Nat.le_refl _) (fun k h => by cases h))
  go_loopw [3, 4] (fun out si wr => BytesRel w l out si wr) (fun _ si _ => l.length - (intOf si).toNat)
  case atStart => exact ⟨0, Nat.zero_le _, rfl, by simpa using hown0, hb0⟩
  case round =>
    obtain ⟨k, hk, rfl, hown, hbr⟩ := hrel
    by_cases hlt : k < l.length
    · obtain ⟨ad, v, rfl, had, hv, hcell⟩ := (ha.below hbr).at_ hlt
      obtain ⟨x, hx⟩ : ∃ x, x = l[k] := ⟨_, rfl⟩
      have hvx : v = .int .u8 (x : Int) := by
        rw [List.getElem?_map, List.getElem?_eq_getElem hlt, ← hx] at hv
        simpa [bv] using hv.symm
      subst hvx
      have HX := Lib.hid hx
      clear hv hx
      go_wp2_with (at_builtin
                   go_must (refine wpList_append_any _ rfl (.tmp 14) (.tmp 19) _ rfl w.heap.size 5 i0 _ 1 1 Tryd.underlying26 hi0 hz0 hz1 hz2 rfl (by omega) u3 k ((l.take k).map bv) rfl (hown.alloc _) (wr.heap.size + 1) (some ⟨wr.heap.size, 0, none⟩) 1 1 [bv x] rfl (by exact reads_box _ _ _) (bvs_one [x]) (by unfold maxLen; omega) (by omega) (by have := hbr.size; simp; omega) ?_)
                   intro v2 w2 hown2 hg2 hat2)
      go_roundw
      case rel => exact ⟨k + 1, by omega, by go_num, by rw [List.take_succ_eq_append_getElem hlt, List.map_append, ← HX.out]; exact hown2, (hbr.alloc hbr.size _).grown hg2 (by have := hbr.size; simp; omega) (fun k hk => own_ge hown hk)⟩
      case measure => simp [intOf]; omega
    · go_wp2
      go_ret
      refine bytesPost_of (m := k) ?_ hbr
      rw [List.take_of_length_le (by omega)] at hown
      exact hown
end Go.Proofs.YtnojejplckhifaaDoor
