/- The contract of word.Take: for every slice of bytes and every place: the number there and the place behind it, or nothing. -/
import Derived.Test.YtnojejplckhifaaDoorPut
namespace Go.Proofs.YtnojejplckhifaaDoor
open Go.RowKit
set_option linter.unusedVariables false

def takeVal : Option (Nat × Nat) → Value
  | none => .tuple #[.int .u64 0, .int .i64 0, .bool false]
  | some (u, n) => .tuple #[.int .u64 (u : Int), .int .i64 (n : Int), .bool true]
theorem take_val0 (A : Option Addr) (n c : Nat) (at_ : Int) (w : World) (h : at_ < 0) :
    Calls Tryd.prog 76 #[.slice A n c, .int .i64 at_] w fun e w' => e = .returned (takeVal none) ∧ w = w' := by
  go_enter Tryd.func76, Tryd.ntmps76
  go_wp2
  go_ret3
  exact ⟨rfl, rfl⟩
theorem take_val1 (A : Option Addr) (n c : Nat) (at_ : Int) (w : World) (h0 : ¬ at_ < 0) (h : (n : Int) ≤ at_) :
    Calls Tryd.prog 76 #[.slice A n c, .int .i64 at_] w fun e w' => e = .returned (takeVal none) ∧ w = w' := by
  go_enter Tryd.func76, Tryd.ntmps76
  go_wp2
  go_ret3
  exact ⟨rfl, rfl⟩

theorem tv3 {a b n m : Int} (h1 : a = b) (h2 : n = m) : Ending.returned (.tuple #[.int .u64 a, .int .i64 n, .bool true]) = .returned (.tuple #[.int .u64 b, .int .i64 m, .bool true]) := by rw [h1, h2]

def TakeRel (l : List Nat) (t m : Nat) (si su : Value) : Prop :=
  ∃ k u : Nat, k ≤ m ∧ si = .int .i64 (k : Int) ∧ su = .int .u64 (u : Int) ∧ Sofar u k ∧ takeF 0 0 (l.drop t) = takeF k u (l.drop (t + k))

set_option maxRecDepth 100000 in
theorem take_val2 (A : Option Addr) (n c t : Nat) (l : List Nat) (w : World) (ha : Reads w w.heap.size 1 A n (l.map bv)) (hb : ∀ x ∈ l, x < 256) (hn : n ≤ 1048576) (ht : t < n) :
    Calls Tryd.prog 76 #[.slice A n c, .int .i64 (t : Int)] w fun e w' => e = .returned (takeVal (tk l t)) ∧ w = w' := by
  have hl : l.length = n := by have := ha.1; simpa using this
  have HL := Lib.hid hl
  have HB := Lib.hid hb
  have HT := Lib.hid (tk_in l t (by omega))
  clear hl hb
  obtain ⟨m, hm⟩ : ∃ m, m = min 10 (n - t) := ⟨_, rfl⟩
  have HM := Lib.hid hm
  have hmin : (if (n : Int) - t < 10 then (n : Int) - t else 10) = (m : Int) := by split <;> omega
  clear hm
  have h0 : decide ((t : Int) < 0) = false := by simp
  have h1 : decide (n ≤ t) = false := by simpa using ht
  go_enter Tryd.func76, Tryd.ntmps76
  go_wp2
  go_loop [23, 7] (fun si su => TakeRel l t m si su) (fun si _ => m - (intOf si).toNat)
  case atStart => exact ⟨0, 0, Nat.zero_le _, rfl, rfl, by simp [Sofar], rfl⟩
  case round =>
    obtain ⟨k, u, hk, rfl, rfl, hu, hr⟩ := hrel
    have HR := Lib.hid hr
    have HU := Lib.hid hu
    clear hr hu
    by_cases hlt : k < m
    · have hm := HM.out
      have hk9 : k ≤ 9 := by omega
      have htk : t + k < n := by omega
      clear hm
      obtain ⟨ad, v, rfl, had, hv, hcell⟩ := ha.at_ htk
      have hlen : t + k < l.length := by have := HL.out; omega
      have HD : Hid (l.drop (t + k) = l[t + k] :: l.drop (t + k + 1)) := Lib.hid (List.drop_eq_getElem_cons hlen)
      obtain ⟨x, hx⟩ : ∃ x, x = l[t + k] := ⟨_, rfl⟩
      have hx256 : x < 256 := by rw [hx]; exact HB.out _ (List.getElem_mem _)
      rw [← hx] at HD
      have hvx : v = .int .u8 (x : Int) := by
        rw [List.getElem?_map, List.getElem?_eq_getElem hlen, ← hx] at hv
        simpa [bv] using hv.symm
      subst hvx
      clear hv hx
      by_cases h9 : k = 9 ∧ 1 < x
      · have HN : Hid (tk l (t : Int) = none) := Lib.hid (by rw [HT.out, HR.out, HD.out, takeF_big h9.1 h9.2]; rfl)
        obtain ⟨h9a, h9b⟩ := h9
        have hk9' : ((k : Int) == 9) = true := by simp; omega
        clear h9a
        have h9b' : decide (1 < (x : Int)) = true := by simp; omega
        go_wp2
        go_ret3
        exact ⟨by rw [HN.out]; rfl, rfl⟩
      · have HS := Lib.hid (take_step u k x HU.out hk9 hx256 h9)
        have HSO := Lib.hid (sofar_step u k x HU.out)
        by_cases hc : x < 128
        · have hc' : decide (x < 128) = true := by simpa using hc
          have HX : Hid (x % 128 = x) := Lib.hid (Nat.mod_eq_of_lt hc)
          by_cases hz : x = 0 ∧ 0 < k
          · have HN : Hid (tk l (t : Int) = none) := Lib.hid (by rw [HT.out, HR.out, HD.out, hz.1, takeF_zero hk9 hz.2]; rfl)
            obtain ⟨hz1, hz2⟩ := hz
            have hx0 : ((x : Int) == 0) = true := by simp; omega
            have hx1 : decide (1 < (x : Int)) = false := by simp; omega
            clear hz1
            have hz2' : decide (0 < (k : Int)) = true := by simp; omega
            by_cases hk' : k = 9
            · have hk9' : ((k : Int) == 9) = true := by simp; omega
              clear hk' h9
              go_wp2
              go_ret3
              exact ⟨by rw [HN.out]; rfl, rfl⟩
            · have hk9' : ((k : Int) == 9) = false := by simp; omega
              go_wp2
              go_ret3
              exact ⟨by rw [HN.out]; rfl, rfl⟩
          · have HN : Hid (tk l (t : Int) = some (u + x % 128 * 128 ^ k, t + (k + 1))) := Lib.hid (by rw [HT.out, HR.out, HD.out, takeF_last hk9 h9 hc hz, HX.out]; rfl)
            by_cases hk' : k = 9
            · have hk9' : ((k : Int) == 9) = true := by simp; omega
              have hx1 : decide (1 < (x : Int)) = false := by simp; omega
              have hx0 : ((x : Int) == 0) = false := by simp; omega
              clear h9 hz hk'
              go_wp2
              go_ret3
              exact ⟨by rw [HN.out]; exact tv3 HS.out (by omega), rfl⟩
            · have hk9' : ((k : Int) == 9) = false := by simp; omega
              clear h9
              by_cases hx0 : x = 0
              · have hk0 : decide (0 < (k : Int)) = false := by simp; omega
                have hk1 : decide (0 < k) = false := by simp; omega
                have hx0' : ((x : Int) == 0) = true := by simp; omega
                clear hz hx0
                go_wp2
                go_ret3
                exact ⟨by rw [HN.out]; exact tv3 HS.out (by omega), rfl⟩
              · have hx0' : ((x : Int) == 0) = false := by simp; omega
                clear hz
                go_wp2
                go_ret3
                exact ⟨by rw [HN.out]; exact tv3 HS.out (by omega), rfl⟩
        · have hc' : decide (x < 128) = false := by simpa using hc
          by_cases hk' : k = 9
          · exact absurd ⟨hk', by omega⟩ h9
          have HN : Hid (takeF k u (l.drop (t + k)) = takeF (k + 1) (u + x % 128 * 128 ^ k) (l.drop (t + k + 1))) := Lib.hid (by
            rw [HD.out, takeF_more hk9 h9 hc, show x - 128 = x % 128 by omega])
          have hk9' : ((k : Int) == 9) = false := by simp; omega
          clear h9
          go_wp2
          rw [HS.out]
          exact ⟨⟨k + 1, _, by omega, by go_num, rfl, HSO.out, by rw [HR.out, HN.out]; rfl⟩, by simp [intOf]; omega⟩
    · have HN : Hid (tk l (t : Int) = none) := Lib.hid (by
        have hkm : k = min 10 (n - t) := by have := HM.out; omega
        rw [HT.out, HR.out]
        by_cases h10 : 10 ≤ k
        · rw [takeF_ten _ _ _ h10]; rfl
        · have : l.drop (t + k) = [] := List.drop_eq_nil_of_le (by have := HL.out; omega)
          rw [this]; rfl)
      go_wp2
      go_ret3
      exact ⟨by rw [HN.out]; rfl, rfl⟩
theorem take_any (A : Option Addr) (n c : Nat) (at_ : Int) (l : List Nat) (w : World) (ha : Reads w w.heap.size 1 A n (l.map bv)) (hb : ∀ x ∈ l, x < 256) (hn : n ≤ 1048576) :
    Calls Tryd.prog 76 #[.slice A n c, .int .i64 at_] w fun e w' => e = .returned (takeVal (tk l at_)) ∧ w = w' := by
  have hl : l.length = n := by have := ha.1; simpa using this
  by_cases h0 : at_ < 0
  · rw [tk_neg l at_ (by omega)]; exact take_val0 A n c at_ w h0
  · by_cases h1 : (n : Int) ≤ at_
    · rw [tk_neg l at_ (by omega)]; exact take_val1 A n c at_ w h0 h1
    · obtain ⟨t, rfl⟩ := Int.eq_ofNat_of_zero_le (Int.not_lt.1 h0)
      exact take_val2 A n c t l w ha hb hn (by omega)
end Go.Proofs.YtnojejplckhifaaDoor
