/- Plain facts: what the operations of chapter 1 answer, as rings, orders and bits have it. No program here. -/
import Derived.Test.YtnojejplckhifaaDoorMath
namespace Go.Proofs.YtnojejplckhifaaDoor
open Go.RowKit

/-- It fits an int64. -/
def I64 (n : Int) : Prop := -9223372036854775808 ≤ n ∧ n ≤ 9223372036854775807
theorem i64_wf {n : Int} (h : (Lit.int .i64 n).wf = true) : I64 n := by
  simp [Lit.wf, IntKind.min, IntKind.max, IntKind.signed, IntKind.bits] at h
  unfold I64; omega
theorem w_in {n : Int} (h : I64 n) : wrap64 n = n := by unfold I64 at h; unfold wrap64; omega
theorem w_mod (n : Int) : wrap64 n % 18446744073709551616 = n % 18446744073709551616 := by unfold wrap64; omega
theorem w_congr {x y : Int} (h : x % 18446744073709551616 = y % 18446744073709551616) : wrap64 x = wrap64 y := by unfold wrap64; omega
theorem w_i64 (n : Int) : I64 (wrap64 n) := by unfold I64 wrap64; omega
theorem w_mul (a x : Int) : wrap64 (a * wrap64 x) = wrap64 (a * x) := w_congr (by rw [Int.mul_emod, w_mod, ← Int.mul_emod])
theorem w_mul' (a x : Int) : wrap64 (wrap64 x * a) = wrap64 (x * a) := w_congr (by rw [Int.mul_emod, w_mod, ← Int.mul_emod])
theorem w_add (a x : Int) : wrap64 (a + wrap64 x) = wrap64 (a + x) := w_congr (by rw [Int.add_emod, w_mod, ← Int.add_emod])
theorem w_add' (a x : Int) : wrap64 (wrap64 x + a) = wrap64 (x + a) := w_congr (by rw [Int.add_emod, w_mod, ← Int.add_emod])
theorem w_sub' (a x : Int) : wrap64 (wrap64 x - a) = wrap64 (x - a) := w_congr (by rw [Int.sub_emod, w_mod, ← Int.sub_emod])

theorem tv8 (a b : Int) : tv 8 a b = wrap64 (a + b) := rfl
theorem tv9 (a b : Int) : tv 9 a b = wrap64 (a - b) := rfl
theorem tv10 (a b : Int) : tv 10 a b = wrap64 (a * b) := rfl
theorem tv11 (a b : Int) : tv 11 a b = cutq a b := rfl
theorem tv12 (a b : Int) : tv 12 a b = cutr a b := rfl
theorem tv13 (a b : Int) : tv 13 a b = bits .and .i64 a b := rfl
theorem tv14 (a b : Int) : tv 14 a b = bits .or .i64 a b := rfl
theorem tv15 (a b : Int) : tv 15 a b = bits .xor .i64 a b := rfl
theorem tv16 (a b : Int) : tv 16 a b = wrap64 (a * 2 ^ (b % 64).toNat) := rfl
theorem tv17 (a b : Int) : tv 17 a b = a / 2 ^ (b % 64).toNat := rfl
theorem tv19 (a b : Int) : tv 19 a b = if a < b then 1 else 0 := rfl
theorem tv20 (a b : Int) : tv 20 a b = if a = b then 1 else 0 := rfl

theorem ring1 (a b : Int) : tv 8 a b = tv 8 b a := by rw [tv8, tv8, Int.add_comm]
theorem ring2 (a b c : Int) : tv 10 a (tv 8 b c) = tv 8 (tv 10 a b) (tv 10 a c) := by
  rw [tv10, tv10, tv10, tv8, tv8, w_mul, w_add, w_add', Int.mul_add]
theorem ring3 (a b : Int) (ha : I64 a) : tv 9 (tv 8 a b) b = a := by
  rw [tv9, tv8, w_sub', Int.add_sub_cancel, w_in ha]

/-! ### the quotient and the rest -/
theorem w_mul_add (q b r : Int) : wrap64 (wrap64 q * b + r) = wrap64 (q * b + r) :=
  w_congr (by rw [Int.add_emod, Int.mul_emod, w_mod, ← Int.mul_emod, ← Int.add_emod])
theorem cut_eq (a b : Int) (ha : I64 a) (hb0 : b ≠ 0) : tv 8 (tv 10 (tv 11 a b) b) (tv 12 a b) = a := by
  rw [tv8, tv10, tv11, tv12, w_add']
  unfold cutq cutr
  rw [if_neg hb0, if_neg hb0]
  by_cases h1 : b = -1
  · subst h1
    rw [if_pos rfl]
    by_cases h2 : a = -9223372036854775808
    · rw [if_pos ⟨h2, rfl⟩, h2]; decide +kernel
    · rw [if_neg (fun h => h2 h.1), Int.add_zero, w_mul']
      have : a.tdiv (-1) * -1 = a := by rw [Int.tdiv_neg, Int.tdiv_one]; omega
      rw [this, w_in ha]
  · rw [if_neg (fun h => h1 h.2), if_neg h1, w_mul_add]
    have : a.tdiv b * b + a.tmod b = a := by have := Int.tmod_add_mul_tdiv a b; rw [Int.mul_comm] at this; omega
    rw [this, w_in ha]
theorem rest_bound (a b : Int) (hb0 : b ≠ 0) : -(b.natAbs : Int) < a.tmod b ∧ a.tmod b < b.natAbs ∧ (0 ≤ a → 0 ≤ a.tmod b) ∧ (a < 0 → a.tmod b ≤ 0) := by
  rw [tmod_eq_if]
  split
  · have h1 := Int.emod_nonneg a hb0
    have h2 := Int.emod_lt a hb0
    omega
  · have h1 := Int.emod_nonneg (-a) hb0
    have h2 := Int.emod_lt (-a) hb0
    omega
theorem rest_i64 (a b : Int) (hb : I64 b) : I64 (tv 12 a b) := by
  rw [tv12]; unfold cutr I64 at *
  split
  · omega
  · split
    · omega
    · rename_i h0 _
      have := rest_bound a b h0
      omega
theorem rest_sign (a b : Int) (h : tv 12 a b ≠ 0) : (tv 12 a b < 0 ↔ a < 0) := by
  rw [tv12] at *; unfold cutr at *
  split at h
  · exact absurd rfl h
  · split at h
    · exact absurd rfl h
    · rename_i h0 h1
      rw [if_neg h0, if_neg h1]
      have := rest_bound a b h0
      omega
theorem rest_lt (a b : Int) (h0 : b ≠ 0) (h1 : b ≠ -1) : -(b.natAbs : Int) < tv 12 a b ∧ tv 12 a b < b.natAbs := by
  rw [tv12]; unfold cutr
  rw [if_neg h0, if_neg h1]
  have := rest_bound a b h0
  omega

/-! ### bits -/
theorem wrap_toInt (r : BitVec 64) : IntKind.i64.wrap (r.toNat : Int) = r.toInt := by
  rw [IntKind.wrap_i64, BitVec.toInt_eq_toNat_cond]
  have := r.isLt
  split <;> omega
theorem bits_and (a b : Int) : bits .and .i64 a b = (BitVec.ofInt 64 a &&& BitVec.ofInt 64 b).toInt := wrap_toInt _
theorem bits_or (a b : Int) : bits .or .i64 a b = (BitVec.ofInt 64 a ||| BitVec.ofInt 64 b).toInt := wrap_toInt _
theorem bits_xor (a b : Int) : bits .xor .i64 a b = (BitVec.ofInt 64 a ^^^ BitVec.ofInt 64 b).toInt := wrap_toInt _
theorem toInt_in {a : Int} (h : I64 a) : (BitVec.ofInt 64 a).toInt = a := by
  rw [BitVec.toInt_ofInt]
  unfold I64 at h
  exact Int.bmod_eq_of_le (by omega) (by omega)
theorem xor_xor (a b : Int) (ha : I64 a) : tv 15 (tv 15 a b) b = a := by
  rw [tv15, tv15, bits_xor, bits_xor, BitVec.ofInt_toInt, BitVec.xor_assoc, BitVec.xor_self, BitVec.xor_zero, toInt_in ha]
theorem and_or_xor (a b : Int) : bits .or .i64 (tv 13 a b) (tv 15 a b) = tv 14 a b := by
  rw [tv13, tv14, tv15, bits_or, bits_and, bits_xor, bits_or, BitVec.ofInt_toInt, BitVec.ofInt_toInt]
  congr 1
  ext i
  simp
  generalize (BitVec.ofInt 64 a)[i] = x
  generalize (BitVec.ofInt 64 b)[i] = y
  cases x <;> cases y <;> rfl
theorem and_mask (a : Int) (n : Nat) (hn : n < 63) : bits .and .i64 a ((2 ^ n - 1 : Nat) : Int) = a % (2 ^ n : Nat) := by
  rw [bits_and]
  have hp : (2 : Nat) ^ n ≤ 2 ^ 62 := Nat.pow_le_pow_right (by decide) (by omega)
  have hpos : 0 < (2 : Nat) ^ n := Nat.two_pow_pos n
  have hlt : a % (2 ^ n : Nat) < (2 ^ n : Nat) := Int.emod_lt_of_pos _ (by omega)
  have hge : 0 ≤ a % (2 ^ n : Nat) := Int.emod_nonneg _ (by omega)
  have h1 : (BitVec.ofInt 64 a &&& BitVec.ofInt 64 ((2 ^ n - 1 : Nat) : Int)).toNat = (a % (2 ^ n : Nat)).toNat := by
    have e : (BitVec.ofInt 64 ((2 ^ n - 1 : Nat) : Int)).toNat = 2 ^ n - 1 := by
      rw [BitVec.ofInt_natCast, BitVec.toNat_ofNat]; exact Nat.mod_eq_of_lt (by omega)
    rw [BitVec.toNat_and, e, Nat.and_two_pow_sub_one_eq_mod, BitVec.toNat_ofInt]
    have h64 : 0 ≤ a % ((2 ^ 64 : Nat) : Int) := Int.emod_nonneg _ (by decide)
    have hd : ((2 ^ n : Nat) : Int) ∣ ((2 ^ 64 : Nat) : Int) := Int.natCast_dvd_natCast.2 (Nat.pow_dvd_pow 2 (by omega))
    have hm : (((a % ((2 ^ 64 : Nat) : Int)).toNat % 2 ^ n : Nat) : Int) = a % (2 ^ n : Nat) := by
      rw [Int.natCast_emod, Int.toNat_of_nonneg h64, Int.emod_emod_of_dvd _ hd]
    omega
  rw [BitVec.toInt_eq_toNat_of_lt (by rw [h1]; omega), h1]
  omega
theorem and255 (a : Int) : bits .and .i64 a 255 = a % 256 := and_mask a 8 (by decide)
theorem and31 (a : Int) : bits .and .i64 a 31 = a % 32 := and_mask a 5 (by decide)
theorem and63' (a : Int) : bits .and .i64 a 63 = a % 64 := and_mask a 6 (by decide)
theorem and1 (a : Int) : bits .and .i64 a 1 = a % 2 := and_mask a 1 (by decide)
theorem shl_shr (m k : Int) (h0 : 0 ≤ m) (h1 : m < 256) (k0 : 0 ≤ k) (k1 : k < 32) : tv 17 (tv 16 m k) k = m := by
  rw [tv17, tv16, Int.emod_eq_of_lt k0 (by omega)]
  have hp : (2 : Int) ^ k.toNat ≤ 2 ^ 31 := by
    have := Nat.pow_le_pow_right (n := 2) (by decide) (show k.toNat ≤ 31 by omega)
    have e : (2 : Int) ^ k.toNat = ((2 ^ k.toNat : Nat) : Int) := by simp
    rw [e]; omega
  have hpos : 0 < (2 : Int) ^ k.toNat := Int.pow_pos (by decide)
  have hle : m * 2 ^ k.toNat ≤ 256 * 2 ^ 31 := Int.mul_le_mul (by omega) hp (by omega) (by decide)
  have hge : 0 ≤ m * 2 ^ k.toNat := Int.mul_nonneg h0 (by omega)
  rw [w_in (by unfold I64; omega), Int.mul_ediv_cancel _ (by omega)]
theorem lt01 (a b : Int) : 0 ≤ tv 19 a b ∧ tv 19 a b ≤ 1 := by rw [tv19]; split <;> omega
theorem eq01 (a b : Int) : 0 ≤ tv 20 a b ∧ tv 20 a b ≤ 1 := by rw [tv20]; split <;> omega
theorem trichotomy (a b : Int) : tv 19 a b + tv 19 b a + tv 20 a b = 1 := by
  rw [tv19, tv19, tv20]; split <;> split <;> split <;> omega

/-! ### shifts -/
theorem b63 (b : Int) : 0 ≤ b % 64 ∧ b % 64 < 64 := by omega
theorem or64 (b : Int) : bits .or .i64 (bits .and .i64 b 63) 64 % 64 = b % 64 := by
  rw [and63', bits_or]
  obtain ⟨k, hk⟩ := Int.eq_ofNat_of_zero_le (b63 b).1
  have hk64 : k < 64 := by have := (b63 b).2; omega
  rw [hk]
  have h1 : (BitVec.ofInt 64 (k : Int) ||| BitVec.ofInt 64 64).toNat = 64 + k := by
    have e1 : (BitVec.ofInt 64 (k : Int)).toNat = k := by
      rw [BitVec.ofInt_natCast, BitVec.toNat_ofNat]; exact Nat.mod_eq_of_lt (by omega)
    have e2 : (BitVec.ofInt 64 64).toNat = 64 := by decide
    rw [BitVec.toNat_or, e1, e2, Nat.or_comm]
    exact nat_join 6 64 k (by decide) hk64
  rw [BitVec.toInt_eq_toNat_of_lt (by rw [h1]; omega), h1]
  omega
theorem shl_k (a b : Int) : tv 16 a (bits .and .i64 b 63) = tv 16 a b := by rw [tv16, tv16, and63', Int.emod_emod]
theorem shr_k (a b : Int) : tv 17 a (bits .and .i64 b 63) = tv 17 a b := by rw [tv17, tv17, and63', Int.emod_emod]
theorem shl_64 (a b : Int) : tv 16 a (bits .or .i64 (bits .and .i64 b 63) 64) = tv 16 a b := by rw [tv16, tv16, or64]
theorem shl_0 (a : Int) (h : I64 a) : tv 16 a 0 = a := by rw [tv16]; simp; exact w_in h
theorem shr_0 (a : Int) : tv 17 a 0 = a := by rw [tv17]; simp
theorem k1_in (b : Int) : wrap64 (bits .and .i64 b 63 + 1) = b % 64 + 1 := by
  rw [and63', w_in]; unfold I64; omega
theorem shl_1 (a b : Int) (h : b % 64 < 63) : tv 16 a (wrap64 (bits .and .i64 b 63 + 1)) = tv 10 (tv 16 a b) 2 := by
  rw [k1_in, tv16, tv16, tv10, w_mul', Int.emod_eq_of_lt (by omega) (by omega)]
  have : (b % 64 + 1).toNat = (b % 64).toNat + 1 := by omega
  rw [this, Int.pow_succ, Int.mul_assoc]
theorem shr_i64 (a b : Int) (h : I64 a) : I64 (tv 17 a b) := by
  rw [tv17]
  have hp : 0 < (2 : Int) ^ (b % 64).toNat := Int.pow_pos (by decide)
  unfold I64 at *
  have h1 : -9223372036854775808 ≤ a / 2 ^ (b % 64).toNat := by
    rw [Int.le_ediv_iff_mul_le hp]
    have := Int.mul_le_mul_of_nonneg_left (show (1 : Int) ≤ 2 ^ (b % 64).toNat by omega) (show (0 : Int) ≤ 9223372036854775808 by decide)
    omega
  have h2 : a / 2 ^ (b % 64).toNat ≤ 9223372036854775807 := by
    by_cases ha : 0 ≤ a
    · have := Int.ediv_le_self (2 ^ (b % 64).toNat) ha; omega
    · have := Int.ediv_neg_of_neg_of_pos (show a < 0 by omega) hp; omega
  exact ⟨h1, h2⟩
theorem shr_1 (a b : Int) (ha : I64 a) (h : b % 64 < 63) : tv 17 a (wrap64 (bits .and .i64 b 63 + 1)) = wrap64 ((tv 9 (tv 17 a b) (tv 13 (tv 17 a b) 1)).tdiv 2) := by
  have hy := shr_i64 a b ha
  rw [k1_in, tv13, and1, tv9]
  have e : tv 17 a (b % 64 + 1) = tv 17 a b / 2 := by
    rw [tv17, tv17, Int.emod_eq_of_lt (by omega) (by omega)]
    have : (b % 64 + 1).toNat = (b % 64).toNat + 1 := by omega
    rw [this, Int.pow_succ, ← Int.ediv_ediv_of_nonneg (Int.le_of_lt (Int.pow_pos (by decide)))]
  rw [e]
  generalize tv 17 a b = y at *
  unfold I64 at hy
  have h1 : wrap64 (y - y % 2) = y - y % 2 := w_in (by unfold I64; omega)
  have h2 : (y - y % 2).tdiv 2 = y / 2 := by
    rw [tdiv_eq_if]; split <;> omega
  rw [h1, h2, w_in (by unfold I64; omega)]
theorem shr_63 (c : Int) (h : I64 c) : tv 17 c 63 = wrap64 (-tv 19 c 0) := by
  rw [tv17, tv19]
  unfold I64 at h
  have : (2 : Int) ^ ((63 : Int) % 64).toNat = 9223372036854775808 := by decide
  rw [this]
  split
  · rw [w_in (by unfold I64; omega)]; omega
  · rw [w_in (by unfold I64; omega)]; omega
theorem toInt_wrap (n : Int) : (BitVec.ofInt 64 n).toInt = wrap64 n := by
  have : BitVec.ofInt 64 n = BitVec.ofInt 64 (wrap64 n) := by
    apply BitVec.eq_of_toNat_eq
    rw [BitVec.toNat_ofInt, BitVec.toNat_ofInt]
    congr 1
    exact (w_mod n).symm
  rw [this, toInt_in (w_i64 n)]
theorem ofInt_shl (a : Int) (k : Nat) : BitVec.ofInt 64 (a * 2 ^ k) = BitVec.ofInt 64 a <<< k := by
  rw [BitVec.shiftLeft_eq_mul_twoPow, BitVec.ofInt_mul]
  congr 1
  apply BitVec.eq_of_toNat_eq
  rw [BitVec.toNat_twoPow]
  have : (2 : Int) ^ k = ((2 ^ k : Nat) : Int) := by simp
  rw [this, BitVec.ofInt_natCast, BitVec.toNat_ofNat]
theorem xor_shl (a c k : Int) : tv 15 (tv 16 a k) (tv 16 c k) = tv 16 (tv 15 a c) k := by
  rw [tv15, tv15, tv16, tv16, tv16, bits_xor, bits_xor, ← toInt_wrap, ← toInt_wrap, ← toInt_wrap, BitVec.ofInt_toInt, BitVec.ofInt_toInt, ofInt_shl, ofInt_shl, ofInt_shl, BitVec.ofInt_toInt, BitVec.shiftLeft_xor_distrib]

/-! ### order, and the integer negated -/
theorem neg_neg (a : Int) (h : I64 a) : wrap64 (-wrap64 (-a)) = a := by
  have : wrap64 (-wrap64 (-a)) = wrap64 a := w_congr (by rw [Int.neg_emod_eq_sub_emod]; have := w_mod (-a); omega)
  rw [this, w_in h]
theorem neg_sub (a : Int) : wrap64 (-a) = tv 9 0 a := by rw [tv9, Int.zero_sub]
theorem lt_1 {a b : Int} (h : a < b) : (tv 19 a b == 1) = true := by rw [tv19, if_pos h]; rfl
theorem lt_0 {a b : Int} (h : ¬ a < b) : (tv 19 a b == 1) = false := by rw [tv19, if_neg h]; rfl
theorem lt_self (a : Int) : (tv 19 a a == 0) = true := by rw [tv19, if_neg (by omega)]; rfl
theorem eq_self (a : Int) : (tv 20 a a == 1) = true := by rw [tv20, if_pos rfl]; rfl
theorem eq_1 {a b : Int} (h : a = b) : (tv 20 a b == 1) = true := by rw [tv20, if_pos h]; rfl
theorem eq_0 {a b : Int} (h : ¬ a = b) : (tv 20 a b == 1) = false := by rw [tv20, if_neg h]; rfl
theorem xor_1 {a b : Int} (h : a = b) : (tv 15 a b == 0) = true := by rw [beq_iff_eq, tv15, h, bits_xor, BitVec.xor_self]; rfl
theorem xor_0 {a b : Int} (ha : I64 a) (hb : I64 b) (h : ¬ a = b) : (tv 15 a b == 0) = false := by
  rw [beq_eq_false_iff_ne]
  intro e
  apply h
  have h1 := xor_xor a b ha
  rw [e, tv15, bits_xor] at h1
  rw [← h1, show BitVec.ofInt 64 0 = 0#64 from rfl, BitVec.zero_xor, toInt_in hb]
end Go.Proofs.YtnojejplckhifaaDoor
