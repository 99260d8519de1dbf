/- Plain facts on integers that wrap, for the statements of chapter 1: no program here. -/
import Derived.WalkKit
namespace Go.Proofs.YtnojejplckhifaaDoor
open Go.RowKit

theorem and63 (b : Int) : bits .and .u64 (IntKind.u64.wrap b) 63 = b % 64 := by
  rw [IntKind.wrap_u64]
  obtain ⟨n, hn⟩ := Int.eq_ofNat_of_zero_le (Int.emod_nonneg b (by decide : (18446744073709551616 : Int) ≠ 0))
  have hlt : (n : Int) < 18446744073709551616 := by rw [← hn]; exact Int.emod_lt_of_pos _ (by decide)
  rw [hn]
  have := u64_and_nat n 63 (by omega) (by decide)
  have e : (63 : Int) = ((63 : Nat) : Int) := rfl
  rw [e, this, nat_mask6]
  omega

def cutq (a b : Int) : Int := if b = 0 then 0 else if a = -9223372036854775808 ∧ b = -1 then a else wrap64 (a.tdiv b)
def cutr (a b : Int) : Int := if b = 0 then 0 else if b = -1 then 0 else a.tmod b
def tv (op a b : Int) : Int :=
  if op = 8 then wrap64 (a + b) else if op = 9 then wrap64 (a - b) else if op = 10 then wrap64 (a * b)
  else if op = 11 then cutq a b else if op = 12 then cutr a b
  else if op = 13 then bits .and .i64 a b else if op = 14 then bits .or .i64 a b else if op = 15 then bits .xor .i64 a b
  else if op = 16 then wrap64 (a * 2 ^ (b % 64).toNat) else if op = 17 then a / 2 ^ (b % 64).toNat
  else if op = 19 then (if a < b then 1 else 0) else if op = 20 then (if a = b then 1 else 0) else 0
def tt (op b : Int) : Int := if (op = 11 ∨ op = 12) ∧ b = 0 then 5 else 0

/-- It fits 64 bits. -/
def U64 (x : Nat) : Prop := x < 18446744073709551616
theorem u64_low {x : Nat} (h : x < 65536) : U64 x := Nat.lt_trans h (by decide)
/-- A byte as a value. -/
def bv (n : Nat) : Value := .int .u8 n
theorem bv_one (n : Nat) : (bv n).oneCell' = true := rfl
theorem bvs_one (l : List Nat) : ∀ u ∈ l.map bv, u.oneCell' = true := by
  intro u hu
  obtain ⟨n, _, rfl⟩ := List.mem_map.1 hu
  rfl

/-- A number's bytes, seven bits each, at most f of them. -/
def encF : Nat → Nat → List Nat
  | 0, _ => []
  | f + 1, u => if u < 128 then [u] else (u % 128 + 128) :: encF f (u / 128)
def enc (u : Nat) : List Nat := encF 10 u
theorem encF_low (f u : Nat) (h : u < 128) : encF (f + 1) u = [u] := by simp [encF, h]
theorem encF_more (f u : Nat) (h : ¬ u < 128) : encF (f + 1) u = (u % 128 + 128) :: encF f (u / 128) := by simp [encF, h]
theorem pow128_div {f u : Nat} (h : u < 128 ^ (f + 1)) : u / 128 < 128 ^ f := by
  rw [Nat.pow_succ] at h
  exact Nat.div_lt_of_lt_mul (by rw [Nat.mul_comm]; exact h)
theorem encF_length_le (f u : Nat) : (encF f u).length ≤ f := by
  induction f generalizing u with
  | zero => simp [encF]
  | succ f ih =>
    by_cases h : u < 128
    · simp [encF, h]
    · have := ih (u / 128); simp [encF, h]; exact this
theorem encF_pos (f u : Nat) : 0 < (encF (f + 1) u).length := by
  by_cases h : u < 128 <;> simp [encF, h]
theorem encF_byte (f u : Nat) : ∀ c ∈ encF f u, c < 256 := by
  induction f generalizing u with
  | zero => simp [encF]
  | succ f ih =>
    intro c hc
    by_cases h : u < 128
    · simp [encF, h] at hc; omega
    · simp [encF, h] at hc
      rcases hc with rfl | hc
      · omega
      · exact ih _ _ hc
theorem or128 (x : Nat) : bits .or .u8 (IntKind.u8.wrap (x : Int)) 128 = ((x % 128 + 128 : Nat) : Int) := by
  rw [IntKind.wrap_u8']
  have e : ((x : Int) % 256) = ((x % 256 : Nat) : Int) := by omega
  have e2 : (128 : Int) = ((128 : Nat) : Int) := rfl
  rw [e, e2, u8_or_nat _ _ (Nat.mod_lt _ (by decide)) (by decide)]
  congr 1
  have key : ∀ y : Fin 256, (y.val ||| 128) = y.val % 128 + 128 := by decide +kernel
  have := key ⟨x % 256, Nat.mod_lt _ (by decide)⟩
  rw [this]
  show x % 256 % 128 + 128 = x % 128 + 128
  omega
theorem or128' (x : Nat) : bits .or .u8 ((x : Int) % 256) 128 = ((x % 128 + 128 : Nat) : Int) := by
  rw [← or128 x, IntKind.wrap_u8']
theorem wrapu8_low (x : Nat) (h : x < 128) : IntKind.u8.wrap (x : Int) = (x : Int) := by rw [IntKind.wrap_u8']; omega

/-- Reading a number: place i, u so far, the bytes that are left; the answer: the number, and how many bytes in all. -/
def takeF : Nat → Nat → List Nat → Option (Nat × Nat)
  | _, _, [] => none
  | i, u, c :: r =>
    if 10 ≤ i then none
    else if i = 9 ∧ 1 < c then none
    else if c < 128 then (if c = 0 ∧ 0 < i then none else some (u + c * 128 ^ i, i + 1))
    else takeF (i + 1) (u + (c - 128) * 128 ^ i) r
/-- The number at a place, and the place behind it. -/
def tk (l : List Nat) (at_ : Int) : Option (Nat × Nat) :=
  if 0 ≤ at_ ∧ at_ < l.length then (takeF 0 0 (l.drop at_.toNat)).map fun p => (p.1, at_.toNat + p.2) else none
theorem tk_neg (l : List Nat) (at_ : Int) (h : ¬ (0 ≤ at_ ∧ at_ < l.length)) : tk l at_ = none := by unfold tk; rw [if_neg h]
theorem tk_in (l : List Nat) (t : Nat) (h : t < l.length) : tk l (t : Int) = (takeF 0 0 (l.drop t)).map fun p => (p.1, t + p.2) := by
  unfold tk; rw [if_pos (by omega)]; simp
/-- what is read in u so far, at place i -/
def Sofar (u i : Nat) : Prop := u < 128 ^ i
theorem takeF_ten (i u : Nat) (l : List Nat) (h : 10 ≤ i) : takeF i u l = none := by
  rcases l with _ | ⟨c, r⟩
  · rfl
  · simp [takeF, h]
theorem takeF_big {i u c : Nat} {r : List Nat} (h : i = 9) (hc : 1 < c) : takeF i u (c :: r) = none := by simp [takeF, h, hc]
theorem takeF_zero {i u : Nat} {r : List Nat} (h : i ≤ 9) (h0 : 0 < i) : takeF i u (0 :: r) = none := by
  have h1 : ¬ 10 ≤ i := by omega
  have h2 : ¬ i = 0 := by omega
  simp [takeF, h1, h2]
theorem takeF_last {i u c : Nat} {r : List Nat} (h : i ≤ 9) (h9 : ¬ (i = 9 ∧ 1 < c)) (hc : c < 128) (h0 : ¬ (c = 0 ∧ 0 < i)) : takeF i u (c :: r) = some (u + c * 128 ^ i, i + 1) := by
  have h1 : ¬ 10 ≤ i := by omega
  simp only [takeF, if_neg h1, if_neg h9, if_pos hc, if_neg h0]
theorem takeF_more {i u c : Nat} {r : List Nat} (h : i ≤ 9) (h9 : ¬ (i = 9 ∧ 1 < c)) (hc : ¬ c < 128) : takeF i u (c :: r) = takeF (i + 1) (u + (c - 128) * 128 ^ i) r := by
  have h1 : ¬ 10 ≤ i := by omega
  rw [takeF, if_neg h1, if_neg h9, if_neg hc]
/-- what the code reckons: u | (c & 127) << (7 i) -/
theorem take_step (u i c : Nat) (hu : Sofar u i) (hi : i ≤ 9) (hc : c < 256) (h9 : ¬ (i = 9 ∧ 1 < c)) :
    bits .or .u64 (u : Int) (IntKind.u64.wrap (IntKind.u64.wrap (bits .and .u8 (c : Int) 127) * 2 ^ (7 * i))) = ((u + c % 128 * 128 ^ i : Nat) : Int) := by
  have e127 : (127 : Int) = ((127 : Nat) : Int) := rfl
  rw [e127, u8_and_nat c 127 hc (by decide), nat_mask7]
  have hp : (128 : Nat) ^ i = 2 ^ (7 * i) := by rw [show (128 : Nat) = 2 ^ 7 from rfl, ← Nat.pow_mul]
  have hm : c % 128 * 2 ^ (7 * i) < 18446744073709551616 := by
    by_cases h : i = 9
    · subst h
      have : c ≤ 1 := by omega
      have : c % 128 ≤ 1 := by omega
      calc c % 128 * 2 ^ (7 * 9) ≤ 1 * 2 ^ (7 * 9) := Nat.mul_le_mul_right _ this
        _ < 18446744073709551616 := by decide
    · have h1 : c % 128 ≤ 127 := by omega
      have h2 : (2 : Nat) ^ (7 * i) ≤ 2 ^ 56 := Nat.pow_le_pow_right (by decide) (by omega)
      calc c % 128 * 2 ^ (7 * i) ≤ 127 * 2 ^ 56 := Nat.mul_le_mul h1 h2
        _ < 18446744073709551616 := by decide
  have hu' : u < 2 ^ (7 * i) := by rw [← hp]; exact hu
  have hu64 : u < 18446744073709551616 := Nat.lt_of_lt_of_le hu' (Nat.le_trans (Nat.pow_le_pow_right (by decide) (show 7 * i ≤ 63 by omega)) (by decide))
  rw [IntKind.wrap_u64, IntKind.wrap_u64]
  have e1 : ((c % 128 : Nat) : Int) % 18446744073709551616 = ((c % 128 : Nat) : Int) := by omega
  have e2 : (((c % 128 : Nat) : Int) * 2 ^ (7 * i)) % 18446744073709551616 = ((c % 128 * 2 ^ (7 * i) : Nat) : Int) := by
    have : (((c % 128 : Nat) : Int) * 2 ^ (7 * i)) = ((c % 128 * 2 ^ (7 * i) : Nat) : Int) := by simp
    rw [this]
    exact Int.emod_eq_of_lt (by omega) (by omega)
  rw [e1, e2, u64_or_nat u _ hu64 hm, Nat.or_comm, nat_join (7 * i) _ _ (Nat.mul_mod_left _ _) hu', hp]
  congr 1
  omega
theorem sofar_step (u i c : Nat) (hu : Sofar u i) : Sofar (u + c % 128 * 128 ^ i) (i + 1) := by
  unfold Sofar at *
  rw [Nat.pow_succ]
  have h1 : c % 128 ≤ 127 := by omega
  have := Nat.mul_le_mul_right (128 ^ i) h1
  omega
end Go.Proofs.YtnojejplckhifaaDoor
