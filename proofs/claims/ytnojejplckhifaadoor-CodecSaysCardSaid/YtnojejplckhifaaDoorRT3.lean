/- The contract of overdriveref1.Take, with the reason: 1 it does not end, 2 it is not as Put makes it. -/
import Derived.Test.YtnojejplckhifaaDoorTake
import Derived.Test.YtnojejplckhifaaDoorPA
namespace Go.Proofs.YtnojejplckhifaaDoor
open Go.RowKit
set_option linter.unusedVariables false

def RT3 (l : List Nat) (t : Nat) (w : World) (e : Ending) (w' : World) : Prop :=
  match tk l (t : Int) with
  | none => e = .returned (.tuple #[.int .u64 0, .int .i64 0, .int .i64 (if shortB l t = true then 1 else 2)]) ∧ w = w'
  | some (u, n) => e = .returned (.tuple #[.int .u64 (u : Int), .int .i64 (n : Int), .int .i64 0]) ∧ w = w'
theorem rt3_none {l : List Nat} {t : Nat} {w : World} {y : Int} {s : Bool} (h : tk l (t : Int) = none) (hs : shortB l t = s) (hy : y = if s = true then 1 else 2) : RT3 l t w (.returned (.tuple #[.int .u64 0, .int .i64 0, .int .i64 y])) w := by
  unfold RT3; rw [h, hs, hy]; exact ⟨rfl, rfl⟩
theorem rt3_some {l : List Nat} {t u n : Nat} {w : World} {a b : Int} (h : tk l (t : Int) = some (u, n)) (ha : a = (u : Int)) (hb : b = (n : Int)) : RT3 l t w (.returned (.tuple #[.int .u64 a, .int .i64 b, .int .i64 0])) w := by
  unfold RT3; rw [h, ha, hb]; exact ⟨rfl, rfl⟩
theorem short_yes {l : List Nat} {t k : Nat} (hk : k < 10) (hl : l.length ≤ t + k) (hh : ∀ j, j < k → ∀ x, l[t + j]? = some x → 128 ≤ x) : shortB l t = true := by
  unfold shortB
  rw [Bool.and_eq_true]
  refine ⟨by simpa using (show l.length < t + 10 by omega), List.all_eq_true.2 fun x hx => ?_⟩
  obtain ⟨j, hj⟩ := List.mem_iff_getElem?.1 hx
  rw [List.getElem?_drop] at hj
  have := (List.getElem?_eq_some_iff.1 hj).1
  simpa using hh j (by omega) x hj
theorem short_no {l : List Nat} {t : Nat} (hl : t + 10 ≤ l.length) : shortB l t = false := by
  unfold shortB
  rw [Bool.and_eq_false_iff]
  exact .inl (by simpa using hl)
theorem short_low {l : List Nat} {t k x : Nat} (hx : l[t + k]? = some x) (hlt : x < 128) : shortB l t = false := by
  unfold shortB
  rw [Bool.and_eq_false_iff]
  refine .inr (Bool.eq_false_iff.2 fun h => ?_)
  have := List.all_eq_true.1 h x (List.mem_of_getElem? (by rw [List.getElem?_drop]; exact hx))
  simp at this
  omega
theorem rt3_past (A : Option Addr) (n c t : Nat) (l : List Nat) (w : World) (hl : l.length = n) (h : n ≤ t) :
    Calls Tryd.prog 67 #[.slice A n c, .int .i64 (t : Int)] w (RT3 l t w) := by
  have HN : Hid (tk l (t : Int) = none) := Lib.hid (tk_neg l t (by omega))
  have HS : Hid (shortB l t = true) := Lib.hid (short_yes (k := 0) (by omega) (by omega) (fun j hj => absurd hj (by omega)))
  have h0 : decide ((t : Int) < 0) = false := by simp
  go_enter Tryd.func67, Tryd.ntmps67
  go_wp2
  go_ret3
  exact rt3_none HN.out HS.out rfl
theorem rtv3 {a b n m : Int} (h1 : a = b) (h2 : n = m) : Ending.returned (.tuple #[.int .u64 a, .int .i64 n, .int .i64 0]) = .returned (.tuple #[.int .u64 b, .int .i64 m, .int .i64 0]) := by rw [h1, h2]

def RT3Rel (l : List Nat) (t : Nat) (si su : Value) : Prop :=
  ∃ k u : Nat, k ≤ 10 ∧ si = .int .i64 (k : Int) ∧ su = .int .u64 (u : Int) ∧ Sofar u k ∧ takeF 0 0 (l.drop t) = takeF k u (l.drop (t + k)) ∧ t + k ≤ l.length ∧ ∀ j, j < k → ∀ x, l[t + j]? = some x → 128 ≤ x

set_option maxRecDepth 100000 in
theorem rt3_in (A : Option Addr) (n c t : Nat) (l : List Nat) (w : World) (ha : Reads w w.heap.size 1 A n (l.map bv)) (hb : ∀ x ∈ l, x < 256) (hn : n ≤ 1048576) (ht : t < n) :
    Calls Tryd.prog 67 #[.slice A n c, .int .i64 (t : Int)] w (RT3 l t w) := by
  have hl : l.length = n := by have := ha.1; simpa using this
  have HL := Lib.hid hl
  have HB := Lib.hid hb
  have HT := Lib.hid (tk_in l t (by omega))
  clear hl hb
  have h0 : decide ((t : Int) < 0) = false := by simp
  have h1 : decide (n ≤ t) = false := by simpa using ht
  go_enter Tryd.func67, Tryd.ntmps67
  go_wp2
  go_loop [8, 7] (fun si su => RT3Rel l t si su) (fun si _ => 10 - (intOf si).toNat)
  case atStart => exact ⟨0, 0, Nat.zero_le _, rfl, rfl, by simp [Sofar], rfl, by have := HL.out; omega, fun j hj => absurd hj (by omega)⟩
  case round =>
    obtain ⟨k, u, hk, rfl, rfl, hu, hr, htl, hhi⟩ := hrel
    have HTL := Lib.hid htl
    have HHI := Lib.hid hhi
    clear htl hhi
    have HR := Lib.hid hr
    have HU := Lib.hid hu
    clear hr hu
    by_cases hlt : k < 10
    · have hk9 : k ≤ 9 := by omega
      by_cases htk : t + k < n
      case neg =>
        have HN : Hid (tk l (t : Int) = none) := Lib.hid (by
          rw [HT.out, HR.out, List.drop_eq_nil_of_le (by have := HL.out; omega)]; rfl)
        have htk' : (n : Int) - t ≤ k := by omega
        have htk2 : decide ((n : Int) - t ≤ k) = true := by simpa using htk'
        go_wp2
        go_ret3
        exact rt3_none HN.out (short_yes hlt (by have := HL.out; omega) HHI.out) rfl
      have htk' : ¬ (n : Int) - t ≤ k := by omega
      have htk2 : decide ((n : Int) - t ≤ k) = false := by simpa using htk'
      obtain ⟨ad, v, rfl, had, hv, hcell⟩ := ha.at_ htk
      have hlen : t + k < l.length := by have := HL.out; omega
      have HD : Hid (l.drop (t + k) = l[t + k] :: l.drop (t + k + 1)) := Lib.hid (List.drop_eq_getElem_cons hlen)
      obtain ⟨x, hx⟩ : ∃ x, x = l[t + k] := ⟨_, rfl⟩
      have hx256 : x < 256 := by rw [hx]; exact HB.out _ (List.getElem_mem _)
      rw [← hx] at HD
      have hvx : v = .int .u8 (x : Int) := by
        rw [List.getElem?_map, List.getElem?_eq_getElem hlen, ← hx] at hv
        simpa [bv] using hv.symm
      have HXE : Hid (l[t + k]? = some x) := Lib.hid (by rw [hx]; exact List.getElem?_eq_getElem hlen)
      subst hvx
      clear hv hx
      by_cases h9 : k = 9 ∧ 1 < x
      · have HN : Hid (tk l (t : Int) = none) := Lib.hid (by rw [HT.out, HR.out, HD.out, takeF_big h9.1 h9.2]; rfl)
        obtain ⟨h9a, h9b⟩ := h9
        have HK9 := Lib.hid h9a
        have hk9' : ((k : Int) == 9) = true := by simp; omega
        clear h9a
        have h9b' : decide (1 < (x : Int)) = true := by simp; omega
        go_wp2
        go_ret3
        exact rt3_none HN.out (short_no (by have := HL.out; have := HK9.out; omega)) rfl
      · have HS := Lib.hid (take_step u k x HU.out hk9 hx256 h9)
        have HSO := Lib.hid (sofar_step u k x HU.out)
        by_cases hc : x < 128
        · have hc' : decide (x < 128) = true := by simpa using hc
          have HX : Hid (x % 128 = x) := Lib.hid (Nat.mod_eq_of_lt hc)
          by_cases hz : x = 0 ∧ 0 < k
          · have HN : Hid (tk l (t : Int) = none) := Lib.hid (by rw [HT.out, HR.out, HD.out, hz.1, takeF_zero hk9 hz.2]; rfl)
            obtain ⟨hz1, hz2⟩ := hz
            have HX0 := Lib.hid hz1
            have hx0 : ((x : Int) == 0) = true := by simp; omega
            have hx1 : decide (1 < (x : Int)) = false := by simp; omega
            clear hz1
            have hz2' : decide (0 < (k : Int)) = true := by simp; omega
            by_cases hk' : k = 9
            · have hk9' : ((k : Int) == 9) = true := by simp; omega
              clear hk' h9
              go_wp2
              go_ret3
              exact rt3_none HN.out (short_low HXE.out (by have := HX0.out; omega)) rfl
            · have hk9' : ((k : Int) == 9) = false := by simp; omega
              go_wp2
              go_ret3
              exact rt3_none HN.out (short_low HXE.out (by have := HX0.out; omega)) rfl
          · have HN : Hid (tk l (t : Int) = some (u + x % 128 * 128 ^ k, t + (k + 1))) := Lib.hid (by rw [HT.out, HR.out, HD.out, takeF_last hk9 h9 hc hz, HX.out]; rfl)
            by_cases hk' : k = 9
            · have hk9' : ((k : Int) == 9) = true := by simp; omega
              have hx1 : decide (1 < (x : Int)) = false := by simp; omega
              have hx0 : ((x : Int) == 0) = false := by simp; omega
              clear h9 hz hk'
              go_wp2
              go_ret3
              exact rt3_some HN.out HS.out (by omega)
            · have hk9' : ((k : Int) == 9) = false := by simp; omega
              clear h9
              by_cases hx0 : x = 0
              · have hk0 : decide (0 < (k : Int)) = false := by simp; omega
                have hk1 : decide (0 < k) = false := by simp; omega
                have hx0' : ((x : Int) == 0) = true := by simp; omega
                clear hz hx0
                go_wp2
                go_ret3
                exact rt3_some HN.out HS.out (by omega)
              · have hx0' : ((x : Int) == 0) = false := by simp; omega
                clear hz
                go_wp2
                go_ret3
                exact rt3_some HN.out HS.out (by omega)
        · have hc' : decide (x < 128) = false := by simpa using hc
          by_cases hk' : k = 9
          · exact absurd ⟨hk', by omega⟩ h9
          have HN : Hid (takeF k u (l.drop (t + k)) = takeF (k + 1) (u + x % 128 * 128 ^ k) (l.drop (t + k + 1))) := Lib.hid (by
            rw [HD.out, takeF_more hk9 h9 hc, show x - 128 = x % 128 by omega])
          have hk9' : ((k : Int) == 9) = false := by simp; omega
          clear h9
          go_wp2
          rw [HS.out]
          exact ⟨⟨k + 1, _, by omega, by go_num, rfl, HSO.out, by rw [HR.out, HN.out]; rfl, by have := HL.out; omega, fun j hj y hy => by
            by_cases hjk : j < k
            · exact HHI.out j hjk y hy
            · obtain rfl : j = k := by omega
              obtain rfl : x = y := Option.some.inj (HXE.out.symm.trans hy)
              simp at hc'
              omega⟩, by simp [intOf]; omega⟩
    · have HN : Hid (tk l (t : Int) = none) := Lib.hid (by
        rw [HT.out, HR.out, takeF_ten _ _ _ (by omega)]; rfl)
      go_wp2
      go_ret3
      exact rt3_none HN.out (short_no (by have := HTL.out; omega)) rfl
theorem rt3_any (A : Option Addr) (n c t : Nat) (l : List Nat) (w : World) (ha : Reads w w.heap.size 1 A n (l.map bv)) (hb : ∀ x ∈ l, x < 256) (hn : n ≤ 1048576) :
    Calls Tryd.prog 67 #[.slice A n c, .int .i64 (t : Int)] w (RT3 l t w) := by
  have hl : l.length = n := by have := ha.1; simpa using this
  by_cases h1 : n ≤ t
  · exact rt3_past A n c t l w hl h1
  · exact rt3_in A n c t l w ha hb hn (by omega)
end Go.Proofs.YtnojejplckhifaaDoor
