/- Sets of numbers: the words in memory, what they say. -/
import Derived.Test.YtcaoeoggabbekaaDoorMem
import Derived.Test.YtcaoeoggabbekaaDoorRows
import Derived.Test.YtcaoeoggabbekaaDoorPop
import Derived.Test.YtcaoeoggabbekaaDoorBut
import Derived.Laws.BitsAllLaws
import Derived.RegionTactic
import Derived.WalkKit
import Derived.Outline
import Derived.Lib.Hide
import Derived.Deep.QuietTactic
import Derived.BigQuiet
import Derived.Deep.RegionHeld3
import Derived.IntWalk
import Derived.Laws.Bits64b
import Derived.Lib.TrailingZeros
namespace Go.Proofs.YtcaoeoggabbekaaDoor
open Go.RowKit
set_option linter.unusedVariables false

theorem may_any (b : Nat) (n i : Int) (w : World) (h : w.cell? ⟨b, 0, none⟩ = some (.int .i64 n)) (q : Bool) (hq : decide (0 ≤ i ∧ i < n) = q) : Calls Tryd.prog 26 #[.pointer (some ⟨b, 0, none⟩), .int .i64 i] w fun e w' => e = .returned (.bool q) ∧ w = w' := by
  by_cases h0 : 0 ≤ i
  · have t0 : decide (0 ≤ i) = true := by simpa using h0
    by_cases h1 : i < n
    · obtain rfl : true = q := by rw [← hq]; simp [h0, h1]
      clear hq
      go_enter Tryd.func26, Tryd.ntmps26
      go_wp2
      go_ret
      exact ⟨rfl, rfl⟩
    · obtain rfl : false = q := by rw [← hq]; simp [h0, h1]
      clear hq
      go_enter Tryd.func26, Tryd.ntmps26
      go_wp2
      go_ret
      exact ⟨rfl, rfl⟩
  · obtain rfl : false = q := by rw [← hq]; simp [h0]
    clear hq
    go_enter Tryd.func26, Tryd.ntmps26
    go_wp2
    go_ret
    exact ⟨rfl, rfl⟩

theorem shr_bit (x k : Nat) (hx : x < 18446744073709551616) : (bits BinOp.and IntKind.u64 ((x : Int) / 2 ^ k) 1 == 1) = x.testBit k := by
  have e : (x : Int) / 2 ^ k = ((x / 2 ^ k : Nat) : Int) := by simp
  have h := bits_and_u64_nat (x / 2 ^ k) 1 (Nat.lt_of_le_of_lt (Nat.div_le_self _ _) hx) (by decide)
  rw [e]
  simp only [Int.natCast_one] at h
  rw [h, Nat.and_one_is_mod, Nat.testBit_eq_decide_div_mod_eq, Bool.eq_iff_iff]
  simp
  omega
/-- the bit of a number among words -/
def bit (ws : List Nat) (i : Nat) : Bool := (ws[i / 64]?.getD 0).testBit (i % 64)
structure Fits (n : Nat) (ws : List Nat) (p : Nat → Bool) : Prop where
  len : ws.length = (n + 63) / 64
  small : ∀ x ∈ ws, x < 18446744073709551616
  is : ∀ i, p i = bit ws i
  lt : ∀ i, p i = true → i < n
/-- words in memory -/
def WordsAt (w : World) (g : Nat) (A : Option Addr) (ws : List Nat) : Prop :=
  g < w.heap.size ∧ (ws ≠ [] → A = some ⟨g, 0, none⟩ ∧ ∃ cs : Array Value, Blk w g 48 cs ∧ ∀ (j x : Nat), ws[j]? = some x → cs[j]? = some (Value.int .u64 (x : Int)))
/-- the set in block b, its words in block g: below n, these numbers -/
def SetAt (w : World) (b g n : Nat) (p : Nat → Bool) : Prop :=
  ∃ (A : Option Addr) (c : Nat) (ws : List Nat), Blk w b 47 #[.int .i64 n, .slice A ws.length c] ∧ WordsAt w g A ws ∧ Fits n ws p ∧ 0 < b ∧ 0 < g ∧ n ≤ 1048576
theorem Fits.at_ {n i : Nat} {ws : List Nat} {p : Nat → Bool} (h : Fits n ws p) (hi : i < n) : ∃ x, ws[i / 64]? = some x ∧ i / 64 < ws.length ∧ x < 18446744073709551616 ∧ (∀ j, j / 64 = i / 64 → p j = x.testBit (j % 64)) := by
  have hl : i / 64 < ws.length := by rw [h.len]; omega
  refine ⟨ws[i / 64], List.getElem?_eq_getElem hl, hl, h.small _ (List.getElem_mem hl), fun j hj => ?_⟩
  rw [h.is, bit, hj, List.getElem?_eq_getElem hl]
  rfl
/-- what the walk needs of a place in it -/
theorem SetAt.at_ {w : World} {b g n i : Nat} {p : Nat → Bool} (h : SetAt w b g n p) (hi : i < n) :
    ∃ L c x : Nat, w.cell? ⟨b, 0, none⟩ = some (.int .i64 n) ∧ w.cell? ⟨b, 1, none⟩ = some (.slice (some ⟨g, 0, none⟩) L c) ∧ i / 64 < L ∧ L ≤ 16384 ∧ w.cell? ⟨g, i / 64, none⟩ = some (.int .u64 (x : Int)) ∧ w.frozen? ⟨g, i / 64, none⟩ = false ∧ x < 18446744073709551616 ∧ (∀ j, j / 64 = i / 64 → p j = x.testBit (j % 64)) := by
  obtain ⟨A, c, ws, hB, hW, hF, _, _, hn⟩ := h
  obtain ⟨x, hx, hl, hx2, hp⟩ := hF.at_ hi
  obtain ⟨rfl, cs, hg, hcs⟩ := hW.2 (fun e => by rw [e] at hl; simp at hl)
  exact ⟨_, c, x, hB.cell 0, hB.cell 1, hl, by rw [hF.len]; omega, (hg.cell _).trans (hcs _ _ hx), hg.frozen _, hx2, hp⟩
theorem SetAt.n_ {w : World} {b g n : Nat} {p : Nat → Bool} (h : SetAt w b g n p) : w.cell? ⟨b, 0, none⟩ = some (.int .i64 n) := by
  obtain ⟨A, c, ws, hB, _⟩ := h
  exact hB.cell 0
/-- in it? -/
def hasZ (p : Nat → Bool) (i : Int) : Bool := decide (0 ≤ i) && p i.toNat
theorem has_in (b g n i : Nat) (p : Nat → Bool) (w : World) (h : SetAt w b g n p) (hi : i < n) : Calls Tryd.prog 12 #[.pointer (some ⟨b, 0, none⟩), .int .i64 (i : Int)] w fun e w' => e = .returned (.bool (p i)) ∧ w = w' := by
  obtain ⟨L, c, x, h0, h1, hL, hL2, hx, hxf, hxl, hp⟩ := h.at_ hi
  have HP := Lib.hid (hp i rfl)
  have HB := Lib.hid (shr_bit x (i % 64) hxl)
  have HM : Hid (decide ((0 : Int) ≤ i ∧ (i : Int) < n) = true) := Lib.hid (by simp; omega)
  clear hp h hxf
  go_enter Tryd.func12, Tryd.ntmps12
  go_wp2_with (go_at_call 26; refine (may_any _ _ _ _ h0 true HM.out).mono ?_; rintro e w2 ⟨rfl, rfl⟩)
  go_ret
  rw [HP.out, ← HB.out]
  exact ⟨rfl, rfl⟩
theorem has_out (b g n : Nat) (i : Int) (p : Nat → Bool) (w : World) (h : SetAt w b g n p) (hi : i < 0 ∨ (n : Int) ≤ i) : Calls Tryd.prog 12 #[.pointer (some ⟨b, 0, none⟩), .int .i64 i] w fun e w' => e = .returned (.bool false) ∧ w = w' := by
  have h0 := h.n_
  have HM : Hid (decide ((0 : Int) ≤ i ∧ (i : Int) < n) = false) := Lib.hid (by simp; omega)
  clear h
  go_enter Tryd.func12, Tryd.ntmps12
  go_wp2_with (go_at_call 26; refine (may_any _ _ _ _ h0 false HM.out).mono ?_; rintro e w2 ⟨rfl, rfl⟩)
  go_ret
  exact ⟨rfl, rfl⟩
theorem SetAt.lt {w : World} {b g n : Nat} {p : Nat → Bool} (h : SetAt w b g n p) {i : Nat} (hi : p i = true) : i < n := by
  obtain ⟨A, c, ws, _, _, hF, _⟩ := h
  exact hF.lt i hi
theorem has_any (b g n : Nat) (i : Int) (p : Nat → Bool) (w : World) (h : SetAt w b g n p) : Calls Tryd.prog 12 #[.pointer (some ⟨b, 0, none⟩), .int .i64 i] w fun e w' => e = .returned (.bool (hasZ p i)) ∧ w = w' := by
  by_cases hi : i < 0 ∨ (n : Int) ≤ i
  · have e : hasZ p i = false := by
      unfold hasZ
      rcases hi with hi | hi
      · simp; omega
      · cases hp : p i.toNat
        · simp
        · have := h.lt hp; omega
    rw [e]
    exact has_out b g n i p w h hi
  · obtain ⟨k, rfl⟩ : ∃ k : Nat, i = (k : Int) := ⟨i.toNat, by omega⟩
    have e : hasZ p (k : Int) = p k := by simp [hasZ]
    rw [e]
    exact has_in b g n k p w h (by omega)
theorem wrap_small (t : Nat) (h : t < 18446744073709551616) : IntKind.u64.wrap (t : Int) = (t : Int) := by
  rw [IntKind.wrap_u64]
  omega
theorem or_bit (x r : Nat) (hx : x < 18446744073709551616) (hr : r < 64) : bits BinOp.or IntKind.u64 (x : Int) (IntKind.u64.wrap (2 ^ r)) = ((x ||| 2 ^ r : Nat) : Int) := by
  have h2 : 2 ^ r < 18446744073709551616 := Nat.pow_lt_pow_right (by decide) hr
  have e : IntKind.u64.wrap (2 ^ r : Int) = ((2 ^ r : Nat) : Int) := by
    rw [show ((2 : Int) ^ r) = ((2 ^ r : Nat) : Int) by simp]
    exact wrap_small _ h2
  rw [e, bits_or_u64_nat x _ hx h2]
theorem andNot_bit (x r : Nat) (hx : x < 18446744073709551616) (hr : r < 64) : bits BinOp.andNot IntKind.u64 (x : Int) (IntKind.u64.wrap (2 ^ r)) = ((x &&& (18446744073709551615 - 2 ^ r) : Nat) : Int) := by
  have h2 : 2 ^ r < 18446744073709551616 := Nat.pow_lt_pow_right (by decide) hr
  have e : IntKind.u64.wrap (2 ^ r : Int) = ((2 ^ r : Nat) : Int) := by
    rw [show ((2 : Int) ^ r) = ((2 ^ r : Nat) : Int) by simp]
    exact wrap_small _ h2
  rw [e, u64_andNot_nat x _ hx h2]
theorem or_lt (x r : Nat) (hx : x < 18446744073709551616) (hr : r < 64) : x ||| 2 ^ r < 18446744073709551616 :=
  Nat.or_lt_two_pow (n := 64) hx (Nat.pow_lt_pow_right (by decide) hr)
theorem or_test (x r k : Nat) : (x ||| 2 ^ r).testBit k = (x.testBit k || decide (k = r)) := by
  rw [Nat.testBit_or, Nat.testBit_two_pow]
  congr 1
  simp [eq_comm]
theorem andNot_test (x r k : Nat) (hk : k < 64) (hr : r < 64) : (x &&& (18446744073709551615 - 2 ^ r)).testBit k = (x.testBit k && !decide (k = r)) := by
  have h2 : 2 ^ r < 2 ^ 64 := Nat.pow_lt_pow_right (by decide) hr
  rw [show 18446744073709551615 - 2 ^ r = 2 ^ 64 - (2 ^ r + 1) by omega, Nat.testBit_and, Nat.testBit_two_pow_sub_succ h2, Nat.testBit_two_pow]
  simp [hk, eq_comm]
/-- a word stored -/
theorem SetAt.store {w : World} {b g n i y : Nat} {p : Nat → Bool} (h : SetAt w b g n p) (hi : i < n) (hy : y < 18446744073709551616) (p' : Nat → Bool) (hp : ∀ j, p' j = if j / 64 = i / 64 then y.testBit (j % 64) else p j) (hlt : ∀ j, p' j = true → j < n) :
    SetAt (w.setCell ⟨g, i / 64, none⟩ (.int .u64 (y : Int))) b g n p' := by
  obtain ⟨A, c, ws, hB, hW, hF, hb, hg0, hn⟩ := h
  obtain ⟨x, hx, hl, hx2, _⟩ := hF.at_ hi
  have hne : ws ≠ [] := fun e => by rw [e] at hl; simp at hl
  obtain ⟨rfl, cs, hg, hcs⟩ := hW.2 hne
  have hbg : b ≠ g := Blk.ne_ hB hg (by decide)
  refine ⟨_, c, ws.set (i / 64) y, by rw [List.length_set]; exact hB.far hbg _, ⟨by simpa [World.setCell] using hW.1, fun _ => ⟨rfl, _, hg.set_ _ _, fun j u hu => ?_⟩⟩, ⟨by rw [List.length_set]; exact hF.len, fun u hu => ?_, fun j => ?_, hlt⟩, hb, hg0, hn⟩
  · rw [List.getElem?_set] at hu
    split at hu
    · rename_i e
      subst e
      simp [hl] at hu
      subst hu
      rw [Array.getElem?_setIfInBounds_self]
      have := hcs _ _ hx
      rw [if_pos (by rw [Array.getElem?_eq_some_iff] at this; exact this.1)]
    · rename_i e
      rw [Array.getElem?_setIfInBounds_ne e]
      exact hcs _ _ hu
  · rcases List.mem_or_eq_of_mem_set hu with h | rfl
    · exact hF.small _ h
    · exact hy
  · rw [hp, bit, List.getElem?_set]
    by_cases e : j / 64 = i / 64
    · rw [if_pos e, if_pos e.symm, if_pos hl]; rfl
    · rw [if_neg e, if_neg (fun h => e h.symm), hF.is]; rfl
theorem SetAt.congr {w : World} {b g n : Nat} {p q : Nat → Bool} (h : SetAt w b g n p) (e : ∀ j, p j = q j) : SetAt w b g n q := by
  obtain rfl : p = q := funext e
  exact h
theorem SetAt.drew {w : World} {b g n : Nat} {p : Nat → Bool} (h : SetAt w b g n p) : SetAt w.drew b g n p := h
theorem SetAt.drewN {w : World} {b g n : Nat} {p : Nat → Bool} (h : SetAt w b g n p) (k : Nat) : SetAt (w.drewN k) b g n p := h
def addP (p : Nat → Bool) (n : Nat) (i : Int) : Nat → Bool := fun j => p j || decide ((j : Int) = i ∧ j < n)
def dropP (p : Nat → Bool) (i : Int) : Nat → Bool := fun j => p j && !decide ((j : Int) = i)
def AddPost (w : World) (b g n : Nat) (p : Nat → Bool) (i : Int) (e : Ending) (w' : World) : Prop :=
  e = .returned (.bool (decide (0 ≤ i ∧ i < n) && !hasZ p i)) ∧ SetAt w' b g n (addP p n i) ∧ But g w w'
def DropPost (w : World) (b g n : Nat) (p : Nat → Bool) (i : Int) (e : Ending) (w' : World) : Prop :=
  e = .returned (.bool (hasZ p i)) ∧ SetAt w' b g n (dropP p i) ∧ But g w w'
theorem add_post {w : World} {b g n i q r x : Nat} {p : Nat → Bool} (h : SetAt w b g n p) (hi : i < n) (hp : p i = false) (hq : q = i / 64) (hr : r = i % 64) (hx : w.cell? ⟨g, q, none⟩ = some (.int .u64 (x : Int))) (hxl : x < 18446744073709551616) :
    AddPost w b g n p (i : Int) (.returned (.bool true)) (w.drew.setCell ⟨g, q, none⟩ (.int .u64 (bits BinOp.or IntKind.u64 (x : Int) (IntKind.u64.wrap (2 ^ r))))) := by
  subst hq hr
  obtain ⟨L, c, x', _, _, _, _, hx', _, _, hpx⟩ := h.at_ hi
  obtain rfl : x' = x := by rw [hx] at hx'; simp at hx'; omega
  rw [or_bit x' _ hxl (Nat.mod_lt _ (by decide))]
  refine ⟨?_, ?_, (But.refl.drew).setCell _ _⟩
  · have : (decide ((0 : Int) ≤ i ∧ (i : Int) < n) && !hasZ p (i : Int)) = true := by simp [hasZ, hp]; omega
    rw [this]
  · have hlt : ∀ j, addP p n (i : Int) j = true → j < n := by
      intro j hj
      simp [addP] at hj
      rcases hj with hj | hj
      · exact h.lt hj
      · exact hj.2
    refine (SetAt.drew h).store hi (or_lt _ _ hxl (Nat.mod_lt _ (by decide))) _ (fun j => ?_) hlt
    rw [or_test]
    by_cases e : j / 64 = i / 64
    · rw [if_pos e, addP, hpx j e]
      congr 1
      rw [decide_eq_decide]
      omega
    · rw [if_neg e, addP]
      have : ¬ ((j : Int) = (i : Int) ∧ j < n) := by omega
      simp [this]
theorem drop_post {w : World} {b g n i q r x : Nat} {p : Nat → Bool} (h : SetAt w b g n p) (hi : i < n) (hp : p i = true) (hq : q = i / 64) (hr : r = i % 64) (hx : w.cell? ⟨g, q, none⟩ = some (.int .u64 (x : Int))) (hxl : x < 18446744073709551616) :
    DropPost w b g n p (i : Int) (.returned (.bool true)) (w.drew.setCell ⟨g, q, none⟩ (.int .u64 (bits BinOp.andNot IntKind.u64 (x : Int) (IntKind.u64.wrap (2 ^ r))))) := by
  subst hq hr
  obtain ⟨L, c, x', _, _, _, _, hx', _, _, hpx⟩ := h.at_ hi
  obtain rfl : x' = x := by rw [hx] at hx'; simp at hx'; omega
  rw [andNot_bit x' _ hxl (Nat.mod_lt _ (by decide))]
  refine ⟨?_, ?_, (But.refl.drew).setCell _ _⟩
  · have : hasZ p (i : Int) = true := by simp [hasZ, hp]
    rw [this]
  · have hlt : ∀ j, dropP p (i : Int) j = true → j < n := by
      intro j hj
      simp [dropP] at hj
      exact h.lt hj.1
    refine (SetAt.drew h).store hi (Nat.lt_of_le_of_lt Nat.and_le_left hxl) _ (fun j => ?_) hlt
    by_cases e : j / 64 = i / 64
    · rw [if_pos e, andNot_test _ _ _ (Nat.mod_lt _ (by decide)) (Nat.mod_lt _ (by decide)), dropP, hpx j e]
      congr 2
      rw [decide_eq_decide]
      omega
    · rw [if_neg e, dropP]
      have : ¬ ((j : Int) = (i : Int)) := by omega
      simp [this]
set_option maxHeartbeats 1000000 in
theorem add_new (b g n i : Nat) (p : Nat → Bool) (w : World) (h : SetAt w b g n p) (hi : i < n) (hp : p i = false) : Calls Tryd.prog 10 #[.pointer (some ⟨b, 0, none⟩), .int .i64 (i : Int)] w (AddPost w b g n p (i : Int)) := by
  obtain ⟨L, c, x, h0, h1, hL, hL2, hx, hxf, hxl, hpx⟩ := h.at_ hi
  have HM : Hid (decide ((0 : Int) ≤ i ∧ (i : Int) < n) = true) := Lib.hid (by simp; omega)
  have HH := has_in b g n i p w h hi
  rw [hp] at HH
  have H2 := Lib.hid HH
  have HP := Lib.hid hp
  have HS := Lib.hid h
  have HX := Lib.hid hxl
  clear HH hp hpx h hxl
  obtain ⟨q, hq⟩ : ∃ q : Nat, q = i / 64 := ⟨_, rfl⟩
  obtain ⟨r, hr⟩ : ∃ r : Nat, r = i % 64 := ⟨_, rfl⟩
  rw [← hq] at hL hx hxf
  have r0 : r < 64 := by omega
  have t1 : (i : Int).tdiv 64 = (q : Int) := by rw [Int.tdiv_eq_ediv_of_nonneg (by omega)]; omega
  have t2 : (i : Int).tmod 64 = (r : Int) := by rw [Int.tmod_eq_emod_of_nonneg (by omega)]; omega
  have t3 : (i : Int) / 64 = (q : Int) := by omega
  have t4 : (i : Int) % 64 = (r : Int) := by omega
  have t5 : IntKind.i64.wrap (q : Int) = (q : Int) := IntWalk.i64_in _ (by omega)
  have t6 : IntKind.i64.wrap (r : Int) = (r : Int) := IntWalk.i64_in _ (by omega)
  have HQ := Lib.hid hq
  have HR := Lib.hid hr
  clear hq hr
  have i0 : (0 : Int) ≤ (q : Int) := by omega
  have i1 : (q : Int) < L := by omega
  go_enter Tryd.func10, Tryd.ntmps10
  go_wp2_with (first | (go_at_call 26; refine (may_any _ _ _ _ h0 true HM.out).mono ?_; rintro e w2 ⟨rfl, rfl⟩) | (go_at_call 12; refine H2.out.mono ?_; rintro e w2 ⟨rfl, rfl⟩))
  go_region
  go_wp2
  go_ret
  exact add_post HS.out hi HP.out HQ.out HR.out hx HX.out
set_option maxHeartbeats 1000000 in
theorem drop_old (b g n i : Nat) (p : Nat → Bool) (w : World) (h : SetAt w b g n p) (hi : i < n) (hp : p i = true) : Calls Tryd.prog 13 #[.pointer (some ⟨b, 0, none⟩), .int .i64 (i : Int)] w (DropPost w b g n p (i : Int)) := by
  obtain ⟨L, c, x, h0, h1, hL, hL2, hx, hxf, hxl, hpx⟩ := h.at_ hi
  have HM : Hid (decide ((0 : Int) ≤ i ∧ (i : Int) < n) = true) := Lib.hid (by simp; omega)
  have HH := has_in b g n i p w h hi
  rw [hp] at HH
  have H2 := Lib.hid HH
  have HP := Lib.hid hp
  have HS := Lib.hid h
  have HX := Lib.hid hxl
  clear HH hp hpx h hxl
  obtain ⟨q, hq⟩ : ∃ q : Nat, q = i / 64 := ⟨_, rfl⟩
  obtain ⟨r, hr⟩ : ∃ r : Nat, r = i % 64 := ⟨_, rfl⟩
  rw [← hq] at hL hx hxf
  have r0 : r < 64 := by omega
  have t1 : (i : Int).tdiv 64 = (q : Int) := by rw [Int.tdiv_eq_ediv_of_nonneg (by omega)]; omega
  have t2 : (i : Int).tmod 64 = (r : Int) := by rw [Int.tmod_eq_emod_of_nonneg (by omega)]; omega
  have t3 : (i : Int) / 64 = (q : Int) := by omega
  have t4 : (i : Int) % 64 = (r : Int) := by omega
  have t5 : IntKind.i64.wrap (q : Int) = (q : Int) := IntWalk.i64_in _ (by omega)
  have t6 : IntKind.i64.wrap (r : Int) = (r : Int) := IntWalk.i64_in _ (by omega)
  have HQ := Lib.hid hq
  have HR := Lib.hid hr
  clear hq hr
  have i0 : (0 : Int) ≤ (q : Int) := by omega
  have i1 : (q : Int) < L := by omega
  go_enter Tryd.func13, Tryd.ntmps13
  go_wp2_with (first | (go_at_call 26; refine (may_any _ _ _ _ h0 true HM.out).mono ?_; rintro e w2 ⟨rfl, rfl⟩) | (go_at_call 12; refine H2.out.mono ?_; rintro e w2 ⟨rfl, rfl⟩))
  go_region
  go_wp2
  go_ret
  exact drop_post HS.out hi HP.out HQ.out HR.out hx HX.out
theorem addP_out {p : Nat → Bool} {n : Nat} {i : Int} (hi : i < 0 ∨ (n : Int) ≤ i) : ∀ j, p j = addP p n i j := by
  intro j
  have : ¬ ((j : Int) = i ∧ j < n) := by omega
  simp [addP, this]
theorem addP_in {p : Nat → Bool} {n i : Nat} (hp : p i = true) : ∀ j, p j = addP p n (i : Int) j := by
  intro j
  by_cases e : j = i
  · subst e; simp [addP, hp]
  · have : ¬ ((j : Int) = (i : Int) ∧ j < n) := by omega
    simp [addP, this]
theorem dropP_out {p : Nat → Bool} {i : Int} (hp : hasZ p i = false) : ∀ j, p j = dropP p i j := by
  intro j
  by_cases e : (j : Int) = i
  · subst e
    have : p j = false := by simpa [hasZ] using hp
    simp [dropP, this]
  · simp [dropP, e]
theorem add_any (b g n : Nat) (i : Int) (p : Nat → Bool) (w : World) (h : SetAt w b g n p) : Calls Tryd.prog 10 #[.pointer (some ⟨b, 0, none⟩), .int .i64 i] w (AddPost w b g n p i) := by
  by_cases hi : i < 0 ∨ (n : Int) ≤ i
  · have h0 := h.n_
    have HM : Hid (decide ((0 : Int) ≤ i ∧ (i : Int) < n) = false) := Lib.hid (by simp; omega)
    have HS := Lib.hid (h.congr (addP_out hi))
    have HI := Lib.hid hi
    clear h hi
    go_enter Tryd.func10, Tryd.ntmps10
    go_wp2_with (go_at_call 26; refine (may_any _ _ _ _ h0 false HM.out).mono ?_; rintro e w2 ⟨rfl, rfl⟩)
    go_ret
    refine ⟨?_, HS.out, But.refl⟩
    rw [HM.out]
    rfl
  · obtain ⟨k, rfl⟩ : ∃ k : Nat, i = (k : Int) := ⟨i.toNat, by omega⟩
    cases hp : p k
    · exact add_new b g n k p w h (by omega) hp
    · have h0 := h.n_
      have HM : Hid (decide ((0 : Int) ≤ k ∧ (k : Int) < n) = true) := Lib.hid (by simp; omega)
      have HH := has_in b g n k p w h (by omega)
      rw [hp] at HH
      have H2 := Lib.hid HH
      have HS := Lib.hid (h.congr (addP_in (n := n) hp))
      have HP := Lib.hid hp
      clear h hi HH hp
      go_enter Tryd.func10, Tryd.ntmps10
      go_wp2_with (first | (go_at_call 26; refine (may_any _ _ _ _ h0 true HM.out).mono ?_; rintro e w2 ⟨rfl, rfl⟩) | (go_at_call 12; refine H2.out.mono ?_; rintro e w2 ⟨rfl, rfl⟩))
      go_ret
      refine ⟨?_, HS.out, But.refl⟩
      rw [HM.out]
      simp [hasZ, HP.out]
theorem drop_any (b g n : Nat) (i : Int) (p : Nat → Bool) (w : World) (h : SetAt w b g n p) : Calls Tryd.prog 13 #[.pointer (some ⟨b, 0, none⟩), .int .i64 i] w (DropPost w b g n p i) := by
  cases hz : hasZ p i
  · have HH := has_any b g n i p w h
    rw [hz] at HH
    have H2 := Lib.hid HH
    have HS := Lib.hid (h.congr (dropP_out hz))
    have HZ := Lib.hid hz
    clear h HH hz
    go_enter Tryd.func13, Tryd.ntmps13
    go_wp2_with (go_at_call 12; refine H2.out.mono ?_; rintro e w2 ⟨rfl, rfl⟩)
    go_ret
    exact ⟨by rw [HZ.out]; rfl, HS.out, But.refl⟩
  · obtain ⟨h0, h1⟩ : 0 ≤ i ∧ p i.toNat = true := by simpa [hasZ] using hz
    obtain ⟨k, rfl⟩ : ∃ k : Nat, i = (k : Int) := ⟨i.toNat, by omega⟩
    have h2 : p k = true := by simpa using h1
    exact drop_old b g n k p w h (h.lt h2) h2
end Go.Proofs.YtcaoeoggabbekaaDoor
