/- Plain facts: what the operations of chapter 1 answer, as rings, orders and bits have it. No program here. -/
import Derived.Test.YtomabogjoampnaaMath
namespace Go.Proofs.Ytomabogjoampnaa
open Go.RowKit

/-- It fits an int64. -/
def I64 (n : Int) : Prop := -9223372036854775808 ≤ n ∧ n ≤ 9223372036854775807
theorem i64_wf {n : Int} (h : (Lit.int .i64 n).wf = true) : I64 n := by
  simp [Lit.wf, IntKind.min, IntKind.max, IntKind.signed, IntKind.bits] at h
  unfold I64; omega
theorem w_in {n : Int} (h : I64 n) : wrap64 n = n := by unfold I64 at h; unfold wrap64; omega
theorem w_mod (n : Int) : wrap64 n % 18446744073709551616 = n % 18446744073709551616 := by unfold wrap64; omega
theorem w_congr {x y : Int} (h : x % 18446744073709551616 = y % 18446744073709551616) : wrap64 x = wrap64 y := by unfold wrap64; omega
theorem w_i64 (n : Int) : I64 (wrap64 n) := by unfold I64 wrap64; omega
theorem w_mul (a x : Int) : wrap64 (a * wrap64 x) = wrap64 (a * x) := w_congr (by rw [Int.mul_emod, w_mod, ← Int.mul_emod])
theorem w_mul' (a x : Int) : wrap64 (wrap64 x * a) = wrap64 (x * a) := w_congr (by rw [Int.mul_emod, w_mod, ← Int.mul_emod])
theorem w_add (a x : Int) : wrap64 (a + wrap64 x) = wrap64 (a + x) := w_congr (by rw [Int.add_emod, w_mod, ← Int.add_emod])
theorem w_add' (a x : Int) : wrap64 (wrap64 x + a) = wrap64 (x + a) := w_congr (by rw [Int.add_emod, w_mod, ← Int.add_emod])
theorem w_sub' (a x : Int) : wrap64 (wrap64 x - a) = wrap64 (x - a) := w_congr (by rw [Int.sub_emod, w_mod, ← Int.sub_emod])

theorem tv8 (a b : Int) : tv 8 a b = wrap64 (a + b) := rfl
theorem tv9 (a b : Int) : tv 9 a b = wrap64 (a - b) := rfl
theorem tv10 (a b : Int) : tv 10 a b = wrap64 (a * b) := rfl
theorem tv11 (a b : Int) : tv 11 a b = cutq a b := rfl
theorem tv12 (a b : Int) : tv 12 a b = cutr a b := rfl
theorem tv13 (a b : Int) : tv 13 a b = bits .and .i64 a b := rfl
theorem tv14 (a b : Int) : tv 14 a b = bits .or .i64 a b := rfl
theorem tv15 (a b : Int) : tv 15 a b = bits .xor .i64 a b := rfl
theorem tv16 (a b : Int) : tv 16 a b = wrap64 (a * 2 ^ (b % 64).toNat) := rfl
theorem tv17 (a b : Int) : tv 17 a b = a / 2 ^ (b % 64).toNat := rfl
theorem tv19 (a b : Int) : tv 19 a b = if a < b then 1 else 0 := rfl
theorem tv20 (a b : Int) : tv 20 a b = if a = b then 1 else 0 := rfl

theorem ring1 (a b : Int) : tv 8 a b = tv 8 b a := by rw [tv8, tv8, Int.add_comm]
theorem ring2 (a b c : Int) : tv 10 a (tv 8 b c) = tv 8 (tv 10 a b) (tv 10 a c) := by
  rw [tv10, tv10, tv10, tv8, tv8, w_mul, w_add, w_add', Int.mul_add]
theorem ring3 (a b : Int) (ha : I64 a) : tv 9 (tv 8 a b) b = a := by
  rw [tv9, tv8, w_sub', Int.add_sub_cancel, w_in ha]

/-! ### the quotient and the rest -/
theorem w_mul_add (q b r : Int) : wrap64 (wrap64 q * b + r) = wrap64 (q * b + r) :=
  w_congr (by rw [Int.add_emod, Int.mul_emod, w_mod, ← Int.mul_emod, ← Int.add_emod])
theorem cut_eq (a b : Int) (ha : I64 a) (hb0 : b ≠ 0) : tv 8 (tv 10 (tv 11 a b) b) (tv 12 a b) = a := by
  rw [tv8, tv10, tv11, tv12, w_add']
  unfold cutq cutr
  rw [if_neg hb0, if_neg hb0]
  by_cases h1 : b = -1
  · subst h1
    rw [if_pos rfl]
    by_cases h2 : a = -9223372036854775808
    · rw [if_pos ⟨h2, rfl⟩, h2]; decide +kernel
    · rw [if_neg (fun h => h2 h.1), Int.add_zero, w_mul']
      have : a.tdiv (-1) * -1 = a := by rw [Int.tdiv_neg, Int.tdiv_one]; omega
      rw [this, w_in ha]
  · rw [if_neg (fun h => h1 h.2), if_neg h1, w_mul_add]
    have : a.tdiv b * b + a.tmod b = a := by have := Int.tmod_add_mul_tdiv a b; rw [Int.mul_comm] at this; omega
    rw [this, w_in ha]
theorem rest_bound (a b : Int) (hb0 : b ≠ 0) : -(b.natAbs : Int) < a.tmod b ∧ a.tmod b < b.natAbs ∧ (0 ≤ a → 0 ≤ a.tmod b) ∧ (a < 0 → a.tmod b ≤ 0) := by
  rw [tmod_eq_if]
  split
  · have h1 := Int.emod_nonneg a hb0
    have h2 := Int.emod_lt a hb0
    omega
  · have h1 := Int.emod_nonneg (-a) hb0
    have h2 := Int.emod_lt (-a) hb0
    omega
theorem rest_i64 (a b : Int) (hb : I64 b) : I64 (tv 12 a b) := by
  rw [tv12]; unfold cutr I64 at *
  split
  · omega
  · split
    · omega
    · rename_i h0 _
      have := rest_bound a b h0
      omega
theorem rest_sign (a b : Int) (h : tv 12 a b ≠ 0) : (tv 12 a b < 0 ↔ a < 0) := by
  rw [tv12] at *; unfold cutr at *
  split at h
  · exact absurd rfl h
  · split at h
    · exact absurd rfl h
    · rename_i h0 h1
      rw [if_neg h0, if_neg h1]
      have := rest_bound a b h0
      omega
theorem rest_lt (a b : Int) (h0 : b ≠ 0) (h1 : b ≠ -1) : -(b.natAbs : Int) < tv 12 a b ∧ tv 12 a b < b.natAbs := by
  rw [tv12]; unfold cutr
  rw [if_neg h0, if_neg h1]
  have := rest_bound a b h0
  omega

/-! ### bits -/
theorem wrap_toInt (r : BitVec 64) : IntKind.i64.wrap (r.toNat : Int) = r.toInt := by
  rw [IntKind.wrap_i64, BitVec.toInt_eq_toNat_cond]
  have := r.isLt
  split <;> omega
theorem bits_and (a b : Int) : bits .and .i64 a b = (BitVec.ofInt 64 a &&& BitVec.ofInt 64 b).toInt := wrap_toInt _
theorem bits_or (a b : Int) : bits .or .i64 a b = (BitVec.ofInt 64 a ||| BitVec.ofInt 64 b).toInt := wrap_toInt _
theorem bits_xor (a b : Int) : bits .xor .i64 a b = (BitVec.ofInt 64 a ^^^ BitVec.ofInt 64 b).toInt := wrap_toInt _
theorem toInt_in {a : Int} (h : I64 a) : (BitVec.ofInt 64 a).toInt = a := by
  rw [BitVec.toInt_ofInt]
  unfold I64 at h
  exact Int.bmod_eq_of_le (by omega) (by omega)
theorem xor_xor (a b : Int) (ha : I64 a) : tv 15 (tv 15 a b) b = a := by
  rw [tv15, tv15, bits_xor, bits_xor, BitVec.ofInt_toInt, BitVec.xor_assoc, BitVec.xor_self, BitVec.xor_zero, toInt_in ha]
theorem and_or_xor (a b : Int) : bits .or .i64 (tv 13 a b) (tv 15 a b) = tv 14 a b := by
  rw [tv13, tv14, tv15, bits_or, bits_and, bits_xor, bits_or, BitVec.ofInt_toInt, BitVec.ofInt_toInt]
  congr 1
  ext i
  simp
  generalize (BitVec.ofInt 64 a)[i] = x
  generalize (BitVec.ofInt 64 b)[i] = y
  cases x <;> cases y <;> rfl
theorem and_mask (a : Int) (n : Nat) (hn : n < 63) : bits .and .i64 a ((2 ^ n - 1 : Nat) : Int) = a % (2 ^ n : Nat) := by
  rw [bits_and]
  have hp : (2 : Nat) ^ n ≤ 2 ^ 62 := Nat.pow_le_pow_right (by decide) (by omega)
  have hpos : 0 < (2 : Nat) ^ n := Nat.two_pow_pos n
  have hlt : a % (2 ^ n : Nat) < (2 ^ n : Nat) := Int.emod_lt_of_pos _ (by omega)
  have hge : 0 ≤ a % (2 ^ n : Nat) := Int.emod_nonneg _ (by omega)
  have h1 : (BitVec.ofInt 64 a &&& BitVec.ofInt 64 ((2 ^ n - 1 : Nat) : Int)).toNat = (a % (2 ^ n : Nat)).toNat := by
    have e : (BitVec.ofInt 64 ((2 ^ n - 1 : Nat) : Int)).toNat = 2 ^ n - 1 := by
      rw [BitVec.ofInt_natCast, BitVec.toNat_ofNat]; exact Nat.mod_eq_of_lt (by omega)
    rw [BitVec.toNat_and, e, Nat.and_two_pow_sub_one_eq_mod, BitVec.toNat_ofInt]
    have h64 : 0 ≤ a % ((2 ^ 64 : Nat) : Int) := Int.emod_nonneg _ (by decide)
    have hd : ((2 ^ n : Nat) : Int) ∣ ((2 ^ 64 : Nat) : Int) := Int.natCast_dvd_natCast.2 (Nat.pow_dvd_pow 2 (by omega))
    have hm : (((a % ((2 ^ 64 : Nat) : Int)).toNat % 2 ^ n : Nat) : Int) = a % (2 ^ n : Nat) := by
      rw [Int.natCast_emod, Int.toNat_of_nonneg h64, Int.emod_emod_of_dvd _ hd]
    omega
  rw [BitVec.toInt_eq_toNat_of_lt (by rw [h1]; omega), h1]
  omega
theorem and255 (a : Int) : bits .and .i64 a 255 = a % 256 := and_mask a 8 (by decide)
theorem and31 (a : Int) : bits .and .i64 a 31 = a % 32 := and_mask a 5 (by decide)
theorem and63' (a : Int) : bits .and .i64 a 63 = a % 64 := and_mask a 6 (by decide)
theorem and1 (a : Int) : bits .and .i64 a 1 = a % 2 := and_mask a 1 (by decide)
theorem shl_shr (m k : Int) (h0 : 0 ≤ m) (h1 : m < 256) (k0 : 0 ≤ k) (k1 : k < 32) : tv 17 (tv 16 m k) k = m := by
  rw [tv17, tv16, Int.emod_eq_of_lt k0 (by omega)]
  have hp : (2 : Int) ^ k.toNat ≤ 2 ^ 31 := by
    have := Nat.pow_le_pow_right (n := 2) (by decide) (show k.toNat ≤ 31 by omega)
    have e : (2 : Int) ^ k.toNat = ((2 ^ k.toNat : Nat) : Int) := by simp
    rw [e]; omega
  have hpos : 0 < (2 : Int) ^ k.toNat := Int.pow_pos (by decide)
  have hle : m * 2 ^ k.toNat ≤ 256 * 2 ^ 31 := Int.mul_le_mul (by omega) hp (by omega) (by decide)
  have hge : 0 ≤ m * 2 ^ k.toNat := Int.mul_nonneg h0 (by omega)
  rw [w_in (by unfold I64; omega), Int.mul_ediv_cancel _ (by omega)]
theorem lt01 (a b : Int) : 0 ≤ tv 19 a b ∧ tv 19 a b ≤ 1 := by rw [tv19]; split <;> omega
theorem eq01 (a b : Int) : 0 ≤ tv 20 a b ∧ tv 20 a b ≤ 1 := by rw [tv20]; split <;> omega
theorem trichotomy (a b : Int) : tv 19 a b + tv 19 b a + tv 20 a b = 1 := by
  rw [tv19, tv19, tv20]; split <;> split <;> split <;> omega
end Go.Proofs.Ytomabogjoampnaa
