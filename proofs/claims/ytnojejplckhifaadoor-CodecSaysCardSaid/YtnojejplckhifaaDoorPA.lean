/- Several texts in one (merged by merge.py): Math, Bits, Zig, PutTake, Cdc, CdcR, CdcP, ConstP, HeadP. -/
import Derived.WalkKit

/- Plain facts on integers that wrap, for the statements of chapter 1: no program here. -/
namespace Go.Proofs.YtnojejplckhifaaDoor
open Go.RowKit

theorem and63 (b : Int) : bits .and .u64 (IntKind.u64.wrap b) 63 = b % 64 := by
  rw [IntKind.wrap_u64]
  obtain ⟨n, hn⟩ := Int.eq_ofNat_of_zero_le (Int.emod_nonneg b (by decide : (18446744073709551616 : Int) ≠ 0))
  have hlt : (n : Int) < 18446744073709551616 := by rw [← hn]; exact Int.emod_lt_of_pos _ (by decide)
  rw [hn]
  have := u64_and_nat n 63 (by omega) (by decide)
  have e : (63 : Int) = ((63 : Nat) : Int) := rfl
  rw [e, this, nat_mask6]
  omega

def cutq (a b : Int) : Int := if b = 0 then 0 else if a = -9223372036854775808 ∧ b = -1 then a else wrap64 (a.tdiv b)
def cutr (a b : Int) : Int := if b = 0 then 0 else if b = -1 then 0 else a.tmod b
def tv (op a b : Int) : Int :=
  if op = 8 then wrap64 (a + b) else if op = 9 then wrap64 (a - b) else if op = 10 then wrap64 (a * b)
  else if op = 11 then cutq a b else if op = 12 then cutr a b
  else if op = 13 then bits .and .i64 a b else if op = 14 then bits .or .i64 a b else if op = 15 then bits .xor .i64 a b
  else if op = 16 then wrap64 (a * 2 ^ (b % 64).toNat) else if op = 17 then a / 2 ^ (b % 64).toNat
  else if op = 19 then (if a < b then 1 else 0) else if op = 20 then (if a = b then 1 else 0) else 0
def tt (op b : Int) : Int := if (op = 11 ∨ op = 12) ∧ b = 0 then 5 else 0

/-- It fits 64 bits. -/
def U64 (x : Nat) : Prop := x < 18446744073709551616
theorem u64_low {x : Nat} (h : x < 65536) : U64 x := Nat.lt_trans h (by decide)
/-- A byte as a value. -/
def bv (n : Nat) : Value := .int .u8 n
theorem bv_one (n : Nat) : (bv n).oneCell' = true := rfl
theorem bvs_one (l : List Nat) : ∀ u ∈ l.map bv, u.oneCell' = true := by
  intro u hu
  obtain ⟨n, _, rfl⟩ := List.mem_map.1 hu
  rfl

/-- A number's bytes, seven bits each, at most f of them. -/
def encF : Nat → Nat → List Nat
  | 0, _ => []
  | f + 1, u => if u < 128 then [u] else (u % 128 + 128) :: encF f (u / 128)
def enc (u : Nat) : List Nat := encF 10 u
theorem encF_low (f u : Nat) (h : u < 128) : encF (f + 1) u = [u] := by simp [encF, h]
theorem encF_more (f u : Nat) (h : ¬ u < 128) : encF (f + 1) u = (u % 128 + 128) :: encF f (u / 128) := by simp [encF, h]
theorem pow128_div {f u : Nat} (h : u < 128 ^ (f + 1)) : u / 128 < 128 ^ f := by
  rw [Nat.pow_succ] at h
  exact Nat.div_lt_of_lt_mul (by rw [Nat.mul_comm]; exact h)
theorem encF_length_le (f u : Nat) : (encF f u).length ≤ f := by
  induction f generalizing u with
  | zero => simp [encF]
  | succ f ih =>
    by_cases h : u < 128
    · simp [encF, h]
    · have := ih (u / 128); simp [encF, h]; exact this
theorem encF_pos (f u : Nat) : 0 < (encF (f + 1) u).length := by
  by_cases h : u < 128 <;> simp [encF, h]
theorem encF_byte (f u : Nat) : ∀ c ∈ encF f u, c < 256 := by
  induction f generalizing u with
  | zero => simp [encF]
  | succ f ih =>
    intro c hc
    by_cases h : u < 128
    · simp [encF, h] at hc; omega
    · simp [encF, h] at hc
      rcases hc with rfl | hc
      · omega
      · exact ih _ _ hc
theorem or128 (x : Nat) : bits .or .u8 (IntKind.u8.wrap (x : Int)) 128 = ((x % 128 + 128 : Nat) : Int) := by
  rw [IntKind.wrap_u8']
  have e : ((x : Int) % 256) = ((x % 256 : Nat) : Int) := by omega
  have e2 : (128 : Int) = ((128 : Nat) : Int) := rfl
  rw [e, e2, u8_or_nat _ _ (Nat.mod_lt _ (by decide)) (by decide)]
  congr 1
  have key : ∀ y : Fin 256, (y.val ||| 128) = y.val % 128 + 128 := by decide +kernel
  have := key ⟨x % 256, Nat.mod_lt _ (by decide)⟩
  rw [this]
  show x % 256 % 128 + 128 = x % 128 + 128
  omega
theorem or128' (x : Nat) : bits .or .u8 ((x : Int) % 256) 128 = ((x % 128 + 128 : Nat) : Int) := by
  rw [← or128 x, IntKind.wrap_u8']
theorem wrapu8_low (x : Nat) (h : x < 128) : IntKind.u8.wrap (x : Int) = (x : Int) := by rw [IntKind.wrap_u8']; omega

/-- Reading a number: place i, u so far, the bytes that are left; the answer: the number, and how many bytes in all. -/
def takeF : Nat → Nat → List Nat → Option (Nat × Nat)
  | _, _, [] => none
  | i, u, c :: r =>
    if 10 ≤ i then none
    else if i = 9 ∧ 1 < c then none
    else if c < 128 then (if c = 0 ∧ 0 < i then none else some (u + c * 128 ^ i, i + 1))
    else takeF (i + 1) (u + (c - 128) * 128 ^ i) r
/-- The number at a place, and the place behind it. -/
def tk (l : List Nat) (at_ : Int) : Option (Nat × Nat) :=
  if 0 ≤ at_ ∧ at_ < l.length then (takeF 0 0 (l.drop at_.toNat)).map fun p => (p.1, at_.toNat + p.2) else none
theorem tk_neg (l : List Nat) (at_ : Int) (h : ¬ (0 ≤ at_ ∧ at_ < l.length)) : tk l at_ = none := by unfold tk; rw [if_neg h]
theorem tk_in (l : List Nat) (t : Nat) (h : t < l.length) : tk l (t : Int) = (takeF 0 0 (l.drop t)).map fun p => (p.1, t + p.2) := by
  unfold tk; rw [if_pos (by omega)]; simp
/-- what is read in u so far, at place i -/
def Sofar (u i : Nat) : Prop := u < 128 ^ i
theorem takeF_ten (i u : Nat) (l : List Nat) (h : 10 ≤ i) : takeF i u l = none := by
  rcases l with _ | ⟨c, r⟩
  · rfl
  · simp [takeF, h]
theorem takeF_big {i u c : Nat} {r : List Nat} (h : i = 9) (hc : 1 < c) : takeF i u (c :: r) = none := by simp [takeF, h, hc]
theorem takeF_zero {i u : Nat} {r : List Nat} (h : i ≤ 9) (h0 : 0 < i) : takeF i u (0 :: r) = none := by
  have h1 : ¬ 10 ≤ i := by omega
  have h2 : ¬ i = 0 := by omega
  simp [takeF, h1, h2]
theorem takeF_last {i u c : Nat} {r : List Nat} (h : i ≤ 9) (h9 : ¬ (i = 9 ∧ 1 < c)) (hc : c < 128) (h0 : ¬ (c = 0 ∧ 0 < i)) : takeF i u (c :: r) = some (u + c * 128 ^ i, i + 1) := by
  have h1 : ¬ 10 ≤ i := by omega
  simp only [takeF, if_neg h1, if_neg h9, if_pos hc, if_neg h0]
theorem takeF_more {i u c : Nat} {r : List Nat} (h : i ≤ 9) (h9 : ¬ (i = 9 ∧ 1 < c)) (hc : ¬ c < 128) : takeF i u (c :: r) = takeF (i + 1) (u + (c - 128) * 128 ^ i) r := by
  have h1 : ¬ 10 ≤ i := by omega
  rw [takeF, if_neg h1, if_neg h9, if_neg hc]
/-- what the code reckons: u | (c & 127) << (7 i) -/
theorem take_step (u i c : Nat) (hu : Sofar u i) (hi : i ≤ 9) (hc : c < 256) (h9 : ¬ (i = 9 ∧ 1 < c)) :
    bits .or .u64 (u : Int) (IntKind.u64.wrap (IntKind.u64.wrap (bits .and .u8 (c : Int) 127) * 2 ^ (7 * i))) = ((u + c % 128 * 128 ^ i : Nat) : Int) := by
  have e127 : (127 : Int) = ((127 : Nat) : Int) := rfl
  rw [e127, u8_and_nat c 127 hc (by decide), nat_mask7]
  have hp : (128 : Nat) ^ i = 2 ^ (7 * i) := by rw [show (128 : Nat) = 2 ^ 7 from rfl, ← Nat.pow_mul]
  have hm : c % 128 * 2 ^ (7 * i) < 18446744073709551616 := by
    by_cases h : i = 9
    · subst h
      have : c ≤ 1 := by omega
      have : c % 128 ≤ 1 := by omega
      calc c % 128 * 2 ^ (7 * 9) ≤ 1 * 2 ^ (7 * 9) := Nat.mul_le_mul_right _ this
        _ < 18446744073709551616 := by decide
    · have h1 : c % 128 ≤ 127 := by omega
      have h2 : (2 : Nat) ^ (7 * i) ≤ 2 ^ 56 := Nat.pow_le_pow_right (by decide) (by omega)
      calc c % 128 * 2 ^ (7 * i) ≤ 127 * 2 ^ 56 := Nat.mul_le_mul h1 h2
        _ < 18446744073709551616 := by decide
  have hu' : u < 2 ^ (7 * i) := by rw [← hp]; exact hu
  have hu64 : u < 18446744073709551616 := Nat.lt_of_lt_of_le hu' (Nat.le_trans (Nat.pow_le_pow_right (by decide) (show 7 * i ≤ 63 by omega)) (by decide))
  rw [IntKind.wrap_u64, IntKind.wrap_u64]
  have e1 : ((c % 128 : Nat) : Int) % 18446744073709551616 = ((c % 128 : Nat) : Int) := by omega
  have e2 : (((c % 128 : Nat) : Int) * 2 ^ (7 * i)) % 18446744073709551616 = ((c % 128 * 2 ^ (7 * i) : Nat) : Int) := by
    have : (((c % 128 : Nat) : Int) * 2 ^ (7 * i)) = ((c % 128 * 2 ^ (7 * i) : Nat) : Int) := by simp
    rw [this]
    exact Int.emod_eq_of_lt (by omega) (by omega)
  rw [e1, e2, u64_or_nat u _ hu64 hm, Nat.or_comm, nat_join (7 * i) _ _ (Nat.mul_mod_left _ _) hu', hp]
  congr 1
  omega
theorem sofar_step (u i c : Nat) (hu : Sofar u i) : Sofar (u + c % 128 * 128 ^ i) (i + 1) := by
  unfold Sofar at *
  rw [Nat.pow_succ]
  have h1 : c % 128 ≤ 127 := by omega
  have := Nat.mul_le_mul_right (128 ^ i) h1
  omega
end Go.Proofs.YtnojejplckhifaaDoor

/- Plain facts: what the operations of chapter 1 answer, as rings, orders and bits have it. No program here. -/
namespace Go.Proofs.YtnojejplckhifaaDoor
open Go.RowKit

/-- It fits an int64. -/
def I64 (n : Int) : Prop := -9223372036854775808 ≤ n ∧ n ≤ 9223372036854775807
theorem i64_wf {n : Int} (h : (Lit.int .i64 n).wf = true) : I64 n := by
  simp [Lit.wf, IntKind.min, IntKind.max, IntKind.signed, IntKind.bits] at h
  unfold I64; omega
theorem w_in {n : Int} (h : I64 n) : wrap64 n = n := by unfold I64 at h; unfold wrap64; omega
theorem w_mod (n : Int) : wrap64 n % 18446744073709551616 = n % 18446744073709551616 := by unfold wrap64; omega
theorem w_congr {x y : Int} (h : x % 18446744073709551616 = y % 18446744073709551616) : wrap64 x = wrap64 y := by unfold wrap64; omega
theorem w_i64 (n : Int) : I64 (wrap64 n) := by unfold I64 wrap64; omega
theorem w_mul (a x : Int) : wrap64 (a * wrap64 x) = wrap64 (a * x) := w_congr (by rw [Int.mul_emod, w_mod, ← Int.mul_emod])
theorem w_mul' (a x : Int) : wrap64 (wrap64 x * a) = wrap64 (x * a) := w_congr (by rw [Int.mul_emod, w_mod, ← Int.mul_emod])
theorem w_add (a x : Int) : wrap64 (a + wrap64 x) = wrap64 (a + x) := w_congr (by rw [Int.add_emod, w_mod, ← Int.add_emod])
theorem w_add' (a x : Int) : wrap64 (wrap64 x + a) = wrap64 (x + a) := w_congr (by rw [Int.add_emod, w_mod, ← Int.add_emod])
theorem w_sub' (a x : Int) : wrap64 (wrap64 x - a) = wrap64 (x - a) := w_congr (by rw [Int.sub_emod, w_mod, ← Int.sub_emod])

theorem tv8 (a b : Int) : tv 8 a b = wrap64 (a + b) := rfl
theorem tv9 (a b : Int) : tv 9 a b = wrap64 (a - b) := rfl
theorem tv10 (a b : Int) : tv 10 a b = wrap64 (a * b) := rfl
theorem tv11 (a b : Int) : tv 11 a b = cutq a b := rfl
theorem tv12 (a b : Int) : tv 12 a b = cutr a b := rfl
theorem tv13 (a b : Int) : tv 13 a b = bits .and .i64 a b := rfl
theorem tv14 (a b : Int) : tv 14 a b = bits .or .i64 a b := rfl
theorem tv15 (a b : Int) : tv 15 a b = bits .xor .i64 a b := rfl
theorem tv16 (a b : Int) : tv 16 a b = wrap64 (a * 2 ^ (b % 64).toNat) := rfl
theorem tv17 (a b : Int) : tv 17 a b = a / 2 ^ (b % 64).toNat := rfl
theorem tv19 (a b : Int) : tv 19 a b = if a < b then 1 else 0 := rfl
theorem tv20 (a b : Int) : tv 20 a b = if a = b then 1 else 0 := rfl

theorem ring1 (a b : Int) : tv 8 a b = tv 8 b a := by rw [tv8, tv8, Int.add_comm]
theorem ring2 (a b c : Int) : tv 10 a (tv 8 b c) = tv 8 (tv 10 a b) (tv 10 a c) := by
  rw [tv10, tv10, tv10, tv8, tv8, w_mul, w_add, w_add', Int.mul_add]
theorem ring3 (a b : Int) (ha : I64 a) : tv 9 (tv 8 a b) b = a := by
  rw [tv9, tv8, w_sub', Int.add_sub_cancel, w_in ha]

/-! ### the quotient and the rest -/
theorem w_mul_add (q b r : Int) : wrap64 (wrap64 q * b + r) = wrap64 (q * b + r) :=
  w_congr (by rw [Int.add_emod, Int.mul_emod, w_mod, ← Int.mul_emod, ← Int.add_emod])
theorem cut_eq (a b : Int) (ha : I64 a) (hb0 : b ≠ 0) : tv 8 (tv 10 (tv 11 a b) b) (tv 12 a b) = a := by
  rw [tv8, tv10, tv11, tv12, w_add']
  unfold cutq cutr
  rw [if_neg hb0, if_neg hb0]
  by_cases h1 : b = -1
  · subst h1
    rw [if_pos rfl]
    by_cases h2 : a = -9223372036854775808
    · rw [if_pos ⟨h2, rfl⟩, h2]; decide +kernel
    · rw [if_neg (fun h => h2 h.1), Int.add_zero, w_mul']
      have : a.tdiv (-1) * -1 = a := by rw [Int.tdiv_neg, Int.tdiv_one]; omega
      rw [this, w_in ha]
  · rw [if_neg (fun h => h1 h.2), if_neg h1, w_mul_add]
    have : a.tdiv b * b + a.tmod b = a := by have := Int.tmod_add_mul_tdiv a b; rw [Int.mul_comm] at this; omega
    rw [this, w_in ha]
theorem rest_bound (a b : Int) (hb0 : b ≠ 0) : -(b.natAbs : Int) < a.tmod b ∧ a.tmod b < b.natAbs ∧ (0 ≤ a → 0 ≤ a.tmod b) ∧ (a < 0 → a.tmod b ≤ 0) := by
  rw [tmod_eq_if]
  split
  · have h1 := Int.emod_nonneg a hb0
    have h2 := Int.emod_lt a hb0
    omega
  · have h1 := Int.emod_nonneg (-a) hb0
    have h2 := Int.emod_lt (-a) hb0
    omega
theorem rest_i64 (a b : Int) (hb : I64 b) : I64 (tv 12 a b) := by
  rw [tv12]; unfold cutr I64 at *
  split
  · omega
  · split
    · omega
    · rename_i h0 _
      have := rest_bound a b h0
      omega
theorem rest_sign (a b : Int) (h : tv 12 a b ≠ 0) : (tv 12 a b < 0 ↔ a < 0) := by
  rw [tv12] at *; unfold cutr at *
  split at h
  · exact absurd rfl h
  · split at h
    · exact absurd rfl h
    · rename_i h0 h1
      rw [if_neg h0, if_neg h1]
      have := rest_bound a b h0
      omega
theorem rest_lt (a b : Int) (h0 : b ≠ 0) (h1 : b ≠ -1) : -(b.natAbs : Int) < tv 12 a b ∧ tv 12 a b < b.natAbs := by
  rw [tv12]; unfold cutr
  rw [if_neg h0, if_neg h1]
  have := rest_bound a b h0
  omega

/-! ### bits -/
theorem wrap_toInt (r : BitVec 64) : IntKind.i64.wrap (r.toNat : Int) = r.toInt := by
  rw [IntKind.wrap_i64, BitVec.toInt_eq_toNat_cond]
  have := r.isLt
  split <;> omega
theorem bits_and (a b : Int) : bits .and .i64 a b = (BitVec.ofInt 64 a &&& BitVec.ofInt 64 b).toInt := wrap_toInt _
theorem bits_or (a b : Int) : bits .or .i64 a b = (BitVec.ofInt 64 a ||| BitVec.ofInt 64 b).toInt := wrap_toInt _
theorem bits_xor (a b : Int) : bits .xor .i64 a b = (BitVec.ofInt 64 a ^^^ BitVec.ofInt 64 b).toInt := wrap_toInt _
theorem toInt_in {a : Int} (h : I64 a) : (BitVec.ofInt 64 a).toInt = a := by
  rw [BitVec.toInt_ofInt]
  unfold I64 at h
  exact Int.bmod_eq_of_le (by omega) (by omega)
theorem xor_xor (a b : Int) (ha : I64 a) : tv 15 (tv 15 a b) b = a := by
  rw [tv15, tv15, bits_xor, bits_xor, BitVec.ofInt_toInt, BitVec.xor_assoc, BitVec.xor_self, BitVec.xor_zero, toInt_in ha]
theorem and_or_xor (a b : Int) : bits .or .i64 (tv 13 a b) (tv 15 a b) = tv 14 a b := by
  rw [tv13, tv14, tv15, bits_or, bits_and, bits_xor, bits_or, BitVec.ofInt_toInt, BitVec.ofInt_toInt]
  congr 1
  ext i
  simp
  generalize (BitVec.ofInt 64 a)[i] = x
  generalize (BitVec.ofInt 64 b)[i] = y
  cases x <;> cases y <;> rfl
theorem and_mask (a : Int) (n : Nat) (hn : n < 63) : bits .and .i64 a ((2 ^ n - 1 : Nat) : Int) = a % (2 ^ n : Nat) := by
  rw [bits_and]
  have hp : (2 : Nat) ^ n ≤ 2 ^ 62 := Nat.pow_le_pow_right (by decide) (by omega)
  have hpos : 0 < (2 : Nat) ^ n := Nat.two_pow_pos n
  have hlt : a % (2 ^ n : Nat) < (2 ^ n : Nat) := Int.emod_lt_of_pos _ (by omega)
  have hge : 0 ≤ a % (2 ^ n : Nat) := Int.emod_nonneg _ (by omega)
  have h1 : (BitVec.ofInt 64 a &&& BitVec.ofInt 64 ((2 ^ n - 1 : Nat) : Int)).toNat = (a % (2 ^ n : Nat)).toNat := by
    have e : (BitVec.ofInt 64 ((2 ^ n - 1 : Nat) : Int)).toNat = 2 ^ n - 1 := by
      rw [BitVec.ofInt_natCast, BitVec.toNat_ofNat]; exact Nat.mod_eq_of_lt (by omega)
    rw [BitVec.toNat_and, e, Nat.and_two_pow_sub_one_eq_mod, BitVec.toNat_ofInt]
    have h64 : 0 ≤ a % ((2 ^ 64 : Nat) : Int) := Int.emod_nonneg _ (by decide)
    have hd : ((2 ^ n : Nat) : Int) ∣ ((2 ^ 64 : Nat) : Int) := Int.natCast_dvd_natCast.2 (Nat.pow_dvd_pow 2 (by omega))
    have hm : (((a % ((2 ^ 64 : Nat) : Int)).toNat % 2 ^ n : Nat) : Int) = a % (2 ^ n : Nat) := by
      rw [Int.natCast_emod, Int.toNat_of_nonneg h64, Int.emod_emod_of_dvd _ hd]
    omega
  rw [BitVec.toInt_eq_toNat_of_lt (by rw [h1]; omega), h1]
  omega
theorem and255 (a : Int) : bits .and .i64 a 255 = a % 256 := and_mask a 8 (by decide)
theorem and31 (a : Int) : bits .and .i64 a 31 = a % 32 := and_mask a 5 (by decide)
theorem and63' (a : Int) : bits .and .i64 a 63 = a % 64 := and_mask a 6 (by decide)
theorem and1 (a : Int) : bits .and .i64 a 1 = a % 2 := and_mask a 1 (by decide)
theorem shl_shr (m k : Int) (h0 : 0 ≤ m) (h1 : m < 256) (k0 : 0 ≤ k) (k1 : k < 32) : tv 17 (tv 16 m k) k = m := by
  rw [tv17, tv16, Int.emod_eq_of_lt k0 (by omega)]
  have hp : (2 : Int) ^ k.toNat ≤ 2 ^ 31 := by
    have := Nat.pow_le_pow_right (n := 2) (by decide) (show k.toNat ≤ 31 by omega)
    have e : (2 : Int) ^ k.toNat = ((2 ^ k.toNat : Nat) : Int) := by simp
    rw [e]; omega
  have hpos : 0 < (2 : Int) ^ k.toNat := Int.pow_pos (by decide)
  have hle : m * 2 ^ k.toNat ≤ 256 * 2 ^ 31 := Int.mul_le_mul (by omega) hp (by omega) (by decide)
  have hge : 0 ≤ m * 2 ^ k.toNat := Int.mul_nonneg h0 (by omega)
  rw [w_in (by unfold I64; omega), Int.mul_ediv_cancel _ (by omega)]
theorem lt01 (a b : Int) : 0 ≤ tv 19 a b ∧ tv 19 a b ≤ 1 := by rw [tv19]; split <;> omega
theorem eq01 (a b : Int) : 0 ≤ tv 20 a b ∧ tv 20 a b ≤ 1 := by rw [tv20]; split <;> omega
theorem trichotomy (a b : Int) : tv 19 a b + tv 19 b a + tv 20 a b = 1 := by
  rw [tv19, tv19, tv20]; split <;> split <;> split <;> omega

/-! ### shifts -/
theorem b63 (b : Int) : 0 ≤ b % 64 ∧ b % 64 < 64 := by omega
theorem or64 (b : Int) : bits .or .i64 (bits .and .i64 b 63) 64 % 64 = b % 64 := by
  rw [and63', bits_or]
  obtain ⟨k, hk⟩ := Int.eq_ofNat_of_zero_le (b63 b).1
  have hk64 : k < 64 := by have := (b63 b).2; omega
  rw [hk]
  have h1 : (BitVec.ofInt 64 (k : Int) ||| BitVec.ofInt 64 64).toNat = 64 + k := by
    have e1 : (BitVec.ofInt 64 (k : Int)).toNat = k := by
      rw [BitVec.ofInt_natCast, BitVec.toNat_ofNat]; exact Nat.mod_eq_of_lt (by omega)
    have e2 : (BitVec.ofInt 64 64).toNat = 64 := by decide
    rw [BitVec.toNat_or, e1, e2, Nat.or_comm]
    exact nat_join 6 64 k (by decide) hk64
  rw [BitVec.toInt_eq_toNat_of_lt (by rw [h1]; omega), h1]
  omega
theorem shl_k (a b : Int) : tv 16 a (bits .and .i64 b 63) = tv 16 a b := by rw [tv16, tv16, and63', Int.emod_emod]
theorem shr_k (a b : Int) : tv 17 a (bits .and .i64 b 63) = tv 17 a b := by rw [tv17, tv17, and63', Int.emod_emod]
theorem shl_64 (a b : Int) : tv 16 a (bits .or .i64 (bits .and .i64 b 63) 64) = tv 16 a b := by rw [tv16, tv16, or64]
theorem shl_0 (a : Int) (h : I64 a) : tv 16 a 0 = a := by rw [tv16]; simp; exact w_in h
theorem shr_0 (a : Int) : tv 17 a 0 = a := by rw [tv17]; simp
theorem k1_in (b : Int) : wrap64 (bits .and .i64 b 63 + 1) = b % 64 + 1 := by
  rw [and63', w_in]; unfold I64; omega
theorem shl_1 (a b : Int) (h : b % 64 < 63) : tv 16 a (wrap64 (bits .and .i64 b 63 + 1)) = tv 10 (tv 16 a b) 2 := by
  rw [k1_in, tv16, tv16, tv10, w_mul', Int.emod_eq_of_lt (by omega) (by omega)]
  have : (b % 64 + 1).toNat = (b % 64).toNat + 1 := by omega
  rw [this, Int.pow_succ, Int.mul_assoc]
theorem shr_i64 (a b : Int) (h : I64 a) : I64 (tv 17 a b) := by
  rw [tv17]
  have hp : 0 < (2 : Int) ^ (b % 64).toNat := Int.pow_pos (by decide)
  unfold I64 at *
  have h1 : -9223372036854775808 ≤ a / 2 ^ (b % 64).toNat := by
    rw [Int.le_ediv_iff_mul_le hp]
    have := Int.mul_le_mul_of_nonneg_left (show (1 : Int) ≤ 2 ^ (b % 64).toNat by omega) (show (0 : Int) ≤ 9223372036854775808 by decide)
    omega
  have h2 : a / 2 ^ (b % 64).toNat ≤ 9223372036854775807 := by
    by_cases ha : 0 ≤ a
    · have := Int.ediv_le_self (2 ^ (b % 64).toNat) ha; omega
    · have := Int.ediv_neg_of_neg_of_pos (show a < 0 by omega) hp; omega
  exact ⟨h1, h2⟩
theorem shr_1 (a b : Int) (ha : I64 a) (h : b % 64 < 63) : tv 17 a (wrap64 (bits .and .i64 b 63 + 1)) = wrap64 ((tv 9 (tv 17 a b) (tv 13 (tv 17 a b) 1)).tdiv 2) := by
  have hy := shr_i64 a b ha
  rw [k1_in, tv13, and1, tv9]
  have e : tv 17 a (b % 64 + 1) = tv 17 a b / 2 := by
    rw [tv17, tv17, Int.emod_eq_of_lt (by omega) (by omega)]
    have : (b % 64 + 1).toNat = (b % 64).toNat + 1 := by omega
    rw [this, Int.pow_succ, ← Int.ediv_ediv_of_nonneg (Int.le_of_lt (Int.pow_pos (by decide)))]
  rw [e]
  generalize tv 17 a b = y at *
  unfold I64 at hy
  have h1 : wrap64 (y - y % 2) = y - y % 2 := w_in (by unfold I64; omega)
  have h2 : (y - y % 2).tdiv 2 = y / 2 := by
    rw [tdiv_eq_if]; split <;> omega
  rw [h1, h2, w_in (by unfold I64; omega)]
theorem shr_63 (c : Int) (h : I64 c) : tv 17 c 63 = wrap64 (-tv 19 c 0) := by
  rw [tv17, tv19]
  unfold I64 at h
  have : (2 : Int) ^ ((63 : Int) % 64).toNat = 9223372036854775808 := by decide
  rw [this]
  split
  · rw [w_in (by unfold I64; omega)]; omega
  · rw [w_in (by unfold I64; omega)]; omega
theorem toInt_wrap (n : Int) : (BitVec.ofInt 64 n).toInt = wrap64 n := by
  have : BitVec.ofInt 64 n = BitVec.ofInt 64 (wrap64 n) := by
    apply BitVec.eq_of_toNat_eq
    rw [BitVec.toNat_ofInt, BitVec.toNat_ofInt]
    congr 1
    exact (w_mod n).symm
  rw [this, toInt_in (w_i64 n)]
theorem ofInt_shl (a : Int) (k : Nat) : BitVec.ofInt 64 (a * 2 ^ k) = BitVec.ofInt 64 a <<< k := by
  rw [BitVec.shiftLeft_eq_mul_twoPow, BitVec.ofInt_mul]
  congr 1
  apply BitVec.eq_of_toNat_eq
  rw [BitVec.toNat_twoPow]
  have : (2 : Int) ^ k = ((2 ^ k : Nat) : Int) := by simp
  rw [this, BitVec.ofInt_natCast, BitVec.toNat_ofNat]
theorem xor_shl (a c k : Int) : tv 15 (tv 16 a k) (tv 16 c k) = tv 16 (tv 15 a c) k := by
  rw [tv15, tv15, tv16, tv16, tv16, bits_xor, bits_xor, ← toInt_wrap, ← toInt_wrap, ← toInt_wrap, BitVec.ofInt_toInt, BitVec.ofInt_toInt, ofInt_shl, ofInt_shl, ofInt_shl, BitVec.ofInt_toInt, BitVec.shiftLeft_xor_distrib]

/-! ### order, and the integer negated -/
theorem neg_neg (a : Int) (h : I64 a) : wrap64 (-wrap64 (-a)) = a := by
  have : wrap64 (-wrap64 (-a)) = wrap64 a := w_congr (by rw [Int.neg_emod_eq_sub_emod]; have := w_mod (-a); omega)
  rw [this, w_in h]
theorem neg_sub (a : Int) : wrap64 (-a) = tv 9 0 a := by rw [tv9, Int.zero_sub]
theorem lt_1 {a b : Int} (h : a < b) : (tv 19 a b == 1) = true := by rw [tv19, if_pos h]; rfl
theorem lt_0 {a b : Int} (h : ¬ a < b) : (tv 19 a b == 1) = false := by rw [tv19, if_neg h]; rfl
theorem lt_self (a : Int) : (tv 19 a a == 0) = true := by rw [tv19, if_neg (by omega)]; rfl
theorem eq_self (a : Int) : (tv 20 a a == 1) = true := by rw [tv20, if_pos rfl]; rfl
theorem eq_1 {a b : Int} (h : a = b) : (tv 20 a b == 1) = true := by rw [tv20, if_pos h]; rfl
theorem eq_0 {a b : Int} (h : ¬ a = b) : (tv 20 a b == 1) = false := by rw [tv20, if_neg h]; rfl
theorem xor_1 {a b : Int} (h : a = b) : (tv 15 a b == 0) = true := by rw [beq_iff_eq, tv15, h, bits_xor, BitVec.xor_self]; rfl
theorem xor_0 {a b : Int} (ha : I64 a) (hb : I64 b) (h : ¬ a = b) : (tv 15 a b == 0) = false := by
  rw [beq_eq_false_iff_ne]
  intro e
  apply h
  have h1 := xor_xor a b ha
  rw [e, tv15, bits_xor] at h1
  rw [← h1, show BitVec.ofInt 64 0 = 0#64 from rfl, BitVec.zero_xor, toInt_in hb]
end Go.Proofs.YtnojejplckhifaaDoor

/- Plain facts on Zig, Zag and the sizes of numbers. No program here. -/
namespace Go.Proofs.YtnojejplckhifaaDoor
open Go.RowKit

def zig (n : Int) : Int := bits BinOp.xor IntKind.u64 (IntKind.u64.wrap (IntKind.u64.wrap n * 2)) (IntKind.u64.wrap (n / 9223372036854775808))
def zag (n : Int) : Int := bits BinOp.xor IntKind.i64 (wrap64 (n / 2)) (wrap64 (-wrap64 (bits BinOp.and IntKind.u64 n 1)))

theorem nat_xor_ones (a : Nat) (h : a < 18446744073709551616) : a ^^^ 18446744073709551615 = 18446744073709551615 - a := by
  have e : (BitVec.ofNat 64 a ^^^ BitVec.allOnes 64).toNat = a ^^^ 18446744073709551615 := by
    rw [BitVec.toNat_xor, BitVec.toNat_ofNat, Nat.mod_eq_of_lt h]; rfl
  rw [← e, BitVec.xor_allOnes, BitVec.toNat_not, BitVec.toNat_ofNat, Nat.mod_eq_of_lt h]
theorem zig_pos (n : Int) (h : I64 n) (h0 : 0 ≤ n) : zig n = 2 * n := by
  unfold zig I64 at *
  obtain ⟨k, rfl⟩ := Int.eq_ofNat_of_zero_le h0
  have e1 : IntKind.u64.wrap (IntKind.u64.wrap (k : Int) * 2) = ((2 * k : Nat) : Int) := by rw [IntKind.wrap_u64, IntKind.wrap_u64]; omega
  have e2 : IntKind.u64.wrap ((k : Int) / 9223372036854775808) = ((0 : Nat) : Int) := by rw [IntKind.wrap_u64]; omega
  rw [e1, e2, bits_xor_u64_nat _ _ (by omega) (by decide), Nat.xor_zero]
  omega
theorem zig_neg (n : Int) (h : I64 n) (h0 : n < 0) : zig n = -2 * n - 1 := by
  unfold zig I64 at *
  obtain ⟨k, hk⟩ : ∃ k : Nat, n = -(k : Int) - 1 := ⟨(-n - 1).toNat, by omega⟩
  subst hk
  have e1 : IntKind.u64.wrap (IntKind.u64.wrap (-(k : Int) - 1) * 2) = ((18446744073709551614 - 2 * k : Nat) : Int) := by rw [IntKind.wrap_u64, IntKind.wrap_u64]; omega
  have e2 : IntKind.u64.wrap ((-(k : Int) - 1) / 9223372036854775808) = ((18446744073709551615 : Nat) : Int) := by rw [IntKind.wrap_u64]; omega
  rw [e1, e2, bits_xor_u64_nat _ _ (by omega) (by decide), nat_xor_ones _ (by omega)]
  omega
theorem zag_even (u : Nat) (h : U64 u) (h0 : u % 2 = 0) : zag u = u / 2 := by
  unfold zag U64 at *
  have e1 : bits BinOp.and IntKind.u64 (u : Int) 1 = 0 := by
    have := u64_and_nat u 1 h (by decide)
    rw [show (1 : Int) = ((1 : Nat) : Int) from rfl, this, nat_mask1, h0]; rfl
  have e2 : wrap64 ((u : Int) / 2) = (u : Int) / 2 := w_in (by unfold I64; omega)
  rw [e1, e2, show wrap64 (-wrap64 0) = 0 by decide +kernel, bits_xor, show BitVec.ofInt 64 0 = 0#64 from rfl, BitVec.xor_zero, toInt_in (by unfold I64; omega)]
theorem not_ofInt (a : Int) : ~~~(BitVec.ofInt 64 a) = BitVec.ofInt 64 (-a - 1) := by
  apply BitVec.eq_of_toNat_eq
  rw [BitVec.toNat_not, BitVec.toNat_ofInt, BitVec.toNat_ofInt]
  omega
theorem zag_odd (u : Nat) (h : U64 u) (h0 : u % 2 = 1) : zag u = -(u / 2) - 1 := by
  unfold zag U64 at *
  have e1 : bits BinOp.and IntKind.u64 (u : Int) 1 = 1 := by
    have := u64_and_nat u 1 h (by decide)
    rw [show (1 : Int) = ((1 : Nat) : Int) from rfl, this, nat_mask1, h0]
  have e2 : wrap64 ((u : Int) / 2) = (u : Int) / 2 := w_in (by unfold I64; omega)
  rw [e1, e2, show wrap64 (-wrap64 1) = -1 by decide +kernel, bits_xor, show BitVec.ofInt 64 (-1) = BitVec.allOnes 64 from by decide +kernel, BitVec.xor_allOnes, not_ofInt, toInt_in (by unfold I64; omega)]
theorem zig_u64 (n : Int) (h : I64 n) : 0 ≤ zig n ∧ U64 (zig n).toNat := by
  by_cases h0 : 0 ≤ n
  · rw [zig_pos n h h0]; unfold I64 U64 at *; omega
  · rw [zig_neg n h (by omega)]; unfold I64 U64 at *; omega
theorem zag_zig (n : Int) (h : I64 n) : zag (zig n) = n := by
  by_cases h0 : 0 ≤ n
  · obtain ⟨k, rfl⟩ := Int.eq_ofNat_of_zero_le h0
    rw [zig_pos _ h h0, show (2 : Int) * (k : Int) = ((2 * k : Nat) : Int) by omega, zag_even _ (by unfold I64 U64 at *; omega) (by omega)]
    omega
  · obtain ⟨k, hk⟩ : ∃ k : Nat, n = -(k : Int) - 1 := ⟨(-n - 1).toNat, by omega⟩
    subst hk
    rw [zig_neg _ h (by omega), show (-2 : Int) * (-(k : Int) - 1) - 1 = ((2 * k + 1 : Nat) : Int) by omega, zag_odd _ (by unfold I64 U64 at *; omega) (by omega)]
    omega
theorem zig_zag (u : Nat) (h : U64 u) : zig (zag u) = u := by
  by_cases h0 : u % 2 = 0
  · rw [zag_even u h h0, zig_pos _ (by unfold I64 U64 at *; omega) (by omega)]; omega
  · rw [zag_odd u h (by omega), zig_neg _ (by unfold I64 U64 at *; omega) (by omega)]; omega

/-! ### sizes -/
theorem encF_size (f x : Nat) : (encF (f + 1) x).length = 1 + (if x / 128 = 0 then 0 else (encF f (x / 128)).length) := by
  by_cases h : x < 128
  · rw [encF_low _ _ h, if_pos (by omega)]; rfl
  · rw [encF_more _ _ h, if_neg (by omega)]; simp; omega
theorem encF_mono (f : Nat) : ∀ u v : Nat, u ≤ v → v < 128 ^ f → (encF f u).length ≤ (encF f v).length := by
  induction f with
  | zero => intro u v _ _; simp [encF]
  | succ f ih =>
    intro u v h hv
    by_cases h1 : v < 128
    · rw [encF_low _ _ h1, encF_low _ _ (by omega)]; simp
    · by_cases h2 : u < 128
      · have := encF_pos f v; rw [encF_low _ _ h2]; simp; omega
      · rw [encF_more _ _ h1, encF_more _ _ h2]
        have := ih (u / 128) (v / 128) (Nat.div_le_div_right h) (pow128_div hv)
        simp; exact this
theorem enc_mono (u v : Nat) (h : u ≤ v) (hv : U64 v) : (enc u).length ≤ (enc v).length :=
  encF_mono 10 u v h (Nat.lt_of_lt_of_le hv (by decide))
/-- the greater of an integer and what it is below -1 -/
theorem near_in (n : Int) (h : I64 n) : (if n < wrap64 (-wrap64 (n + 1)) then wrap64 (-wrap64 (n + 1)) else n) = if 0 ≤ n then n else -(n + 1) := by
  unfold I64 at h
  by_cases hm : n = 9223372036854775807
  · subst hm; decide +kernel
  · have e1 : wrap64 (n + 1) = n + 1 := w_in (by unfold I64; omega)
    have e2 : wrap64 (-(n + 1)) = -(n + 1) := w_in (by unfold I64; omega)
    rw [e1, e2]; split <;> split <;> omega
theorem near_le (n : Int) (h : I64 n) : zig n ≤ IntKind.u64.wrap (IntKind.u64.wrap (2 * IntKind.u64.wrap (if n < wrap64 (-wrap64 (n + 1)) then wrap64 (-wrap64 (n + 1)) else n)) + 1) := by
  rw [near_in n h, IntKind.wrap_u64, IntKind.wrap_u64, IntKind.wrap_u64]
  by_cases h0 : 0 ≤ n
  · rw [if_pos h0, zig_pos n h h0]; unfold I64 at h; omega
  · rw [if_neg h0, zig_neg n h (by omega)]; unfold I64 at h; omega
theorem zig_odd (n : Int) (h : I64 n) : bits BinOp.and IntKind.u64 (zig n) 1 = IntKind.u64.wrap (tv 19 n 0) := by
  obtain ⟨h1, h2⟩ := zig_u64 n h
  obtain ⟨k, hk⟩ := Int.eq_ofNat_of_zero_le h1
  rw [hk] at h2 ⊢
  have := u64_and_nat k 1 (by simpa [U64] using h2) (by decide)
  rw [show (1 : Int) = ((1 : Nat) : Int) from rfl, this, nat_mask1, IntKind.wrap_u64, tv19]
  by_cases h0 : 0 ≤ n
  · rw [zig_pos n h h0] at hk; rw [if_neg (by omega)]; omega
  · rw [zig_neg n h (by omega)] at hk; rw [if_pos (by omega)]; omega
theorem nats_u64 (z : List Int) : (∀ x ∈ z, (Lit.int .u64 x).wf = true) → ∃ l : List Nat, z.map (Value.int .u64) = l.map (fun n : Nat => Value.int .u64 (n : Int)) ∧ l.length = z.length ∧ ∀ x ∈ l, U64 x := by
  induction z with
  | nil => intro _; exact ⟨[], rfl, rfl, by simp⟩
  | cons a z ih =>
    intro h
    obtain ⟨l, h1, h2, h3⟩ := ih (fun x hx => h x (by simp [hx]))
    have ha := h a (by simp)
    simp [Lit.wf, IntKind.min, IntKind.max, IntKind.signed, IntKind.bits] at ha
    obtain ⟨k, rfl⟩ := Int.eq_ofNat_of_zero_le ha.1
    exact ⟨k :: l, by simp [h1], by simp [h2], by intro x hx; rcases List.mem_cons.1 hx with rfl | hx; exact (by unfold U64; omega); exact h3 x hx⟩
theorem nats_u8 (z : List Int) : (∀ x ∈ z, (Lit.int .u8 x).wf = true) → ∃ l : List Nat, z.map (Value.int .u8) = l.map bv ∧ l.length = z.length ∧ ∀ x ∈ l, x < 256 := by
  induction z with
  | nil => intro _; exact ⟨[], rfl, rfl, by simp⟩
  | cons a z ih =>
    intro h
    obtain ⟨l, h1, h2, h3⟩ := ih (fun x hx => h x (by simp [hx]))
    have ha := h a (by simp)
    simp [Lit.wf, IntKind.min, IntKind.max, IntKind.signed, IntKind.bits] at ha
    obtain ⟨k, rfl⟩ := Int.eq_ofNat_of_zero_le ha.1
    exact ⟨k :: l, by simp [h1, bv], by simp [h2], by intro x hx; rcases List.mem_cons.1 hx with rfl | hx; exact (by omega); exact h3 x hx⟩
theorem u64_wf {n : Int} (h : (Lit.int .u64 n).wf = true) : ∃ k : Nat, n = k ∧ U64 k := by
  simp [Lit.wf, IntKind.min, IntKind.max, IntKind.signed, IntKind.bits] at h
  exact ⟨n.toNat, by omega, by unfold U64; omega⟩
end Go.Proofs.YtnojejplckhifaaDoor

/- Plain facts: a number put is taken back; what is taken is as it is put. No program here. -/
namespace Go.Proofs.YtnojejplckhifaaDoor

theorem takeF_encF (f : Nat) : ∀ (i u acc : Nat) (post : List Nat), u < 128 ^ f → 0 < f → i + f ≤ 10 → u * 128 ^ i < 18446744073709551616 → (0 < i → 0 < u) →
    takeF i acc (encF f u ++ post) = some (acc + u * 128 ^ i, i + (encF f u).length) := by
  induction f with
  | zero => intro i u acc post _ h; omega
  | succ f ih =>
    intro i u acc post hu _ hi h64 h0
    by_cases hlt : u < 128
    · rw [encF_low _ _ hlt]
      refine takeF_last (by omega) ?_ hlt (by omega)
      rintro ⟨rfl, h1⟩
      have : 2 * 128 ^ 9 ≤ u * 128 ^ 9 := Nat.mul_le_mul_right _ h1
      have e : 2 * 128 ^ 9 = 18446744073709551616 := by decide
      omega
    · rcases f with _ | f
      · exact absurd hu (by simpa using hlt)
      rw [encF_more _ _ hlt, List.cons_append, takeF_more (by omega) (by omega) (by omega)]
      have hd := pow128_div hu
      have hm : u / 128 * 128 ^ (i + 1) ≤ u * 128 ^ i := by
        rw [Nat.pow_succ, ← Nat.mul_assoc, Nat.mul_right_comm]
        exact Nat.mul_le_mul_right _ (Nat.div_mul_le_self _ _)
      rw [ih (i + 1) (u / 128) _ post hd (by omega) (by omega) (by omega) (by omega)]
      have e : acc + (u % 128 + 128 - 128) * 128 ^ i + u / 128 * 128 ^ (i + 1) = acc + u * 128 ^ i := by
        rw [Nat.add_sub_cancel, Nat.pow_succ, ← Nat.mul_assoc, Nat.mul_right_comm (u / 128), Nat.add_assoc, ← Nat.add_mul]
        congr 2
        omega
      rw [e]
      simp
      omega
theorem enc_pos (u : Nat) : 0 < (enc u).length := encF_pos 9 u
theorem enc_len (u : Nat) : (enc u).length ≤ 10 := encF_length_le 10 u
theorem enc_byte (u : Nat) : ∀ c ∈ enc u, c < 256 := encF_byte 10 u
theorem take_enc (u : Nat) (post : List Nat) (h : U64 u) : takeF 0 0 (enc u ++ post) = some (u, (enc u).length) := by
  have := takeF_encF 10 0 u 0 post (Nat.lt_of_lt_of_le h (by decide)) (by decide) (by decide) (by simpa [U64] using h) (by omega)
  simpa [enc] using this
theorem tk_enc (pre post : List Nat) (u : Nat) (h : U64 u) : tk (pre ++ (enc u ++ post)) (pre.length : Nat) = some (u, pre.length + (enc u).length) := by
  have hp := enc_pos u
  rw [tk_in _ _ (by simp; omega), List.drop_left, take_enc u post h]
  rfl
theorem tk_end (l : List Nat) : tk l (l.length : Nat) = none := tk_neg _ _ (by omega)

/-! ### what is taken is as it is put -/
theorem takeF_back (l : List Nat) : ∀ (i u v n : Nat), takeF i u l = some (v, n) → (∀ c ∈ l, c < 256) → ∃ x k, v = u + x * 128 ^ i ∧ n = i + (k + 1) ∧ k < l.length ∧ (0 < i → 0 < x) ∧
    (∀ f, k < f → encF f x = l.take (k + 1)) ∧ x * 128 ^ i < 18446744073709551616 ∧ i + k ≤ 9 := by
  induction l with
  | nil => intro i u v n h; simp [takeF] at h
  | cons c r ih =>
    intro i u v n h hb
    have hc : c < 256 := hb c (by simp)
    by_cases h10 : 10 ≤ i
    · rw [takeF_ten _ _ _ h10] at h; simp at h
    by_cases h9 : i = 9 ∧ 1 < c
    · rw [takeF_big h9.1 h9.2] at h; simp at h
    have hpow : c < 128 → c * 128 ^ i < 18446744073709551616 := by
      intro hlt
      by_cases e : i = 9
      · subst e
        have : c ≤ 1 := by omega
        exact Nat.lt_of_le_of_lt (Nat.mul_le_mul_right _ this) (by decide)
      · have h1 : (128 : Nat) ^ i ≤ 128 ^ 8 := Nat.pow_le_pow_right (by decide) (by omega)
        exact Nat.lt_of_le_of_lt (Nat.mul_le_mul (show c ≤ 127 by omega) h1) (by decide)
    by_cases hlt : c < 128
    · by_cases h0 : c = 0 ∧ 0 < i
      · rw [h0.1, takeF_zero (by omega) h0.2] at h; simp at h
      · rw [takeF_last (by omega) h9 hlt h0] at h
        simp at h
        refine ⟨c, 0, by omega, by omega, by simp, by omega, ?_, hpow hlt, by omega⟩
        intro f hf
        obtain ⟨g, rfl⟩ : ∃ g, f = g + 1 := ⟨f - 1, by omega⟩
        rw [encF_low _ _ hlt]
        rfl
    · rw [takeF_more (by omega) h9 hlt] at h
      obtain ⟨x, k, hv, hn, hk, hx, he, h64, h9'⟩ := ih _ _ _ _ h (fun y hy => hb y (by simp [hy]))
      have hx0 : 0 < x := hx (by omega)
      have e1 : (c - 128 + x * 128) * 128 ^ i = (c - 128) * 128 ^ i + x * 128 ^ (i + 1) := by
        rw [Nat.add_mul, Nat.pow_succ, Nat.mul_assoc, Nat.mul_comm 128]
      refine ⟨c - 128 + x * 128, k + 1, by rw [e1]; omega, by omega, by simp; omega, by omega, ?_, ?_, by omega⟩
      · intro f hf
        obtain ⟨g, rfl⟩ : ∃ g, f = g + 1 := ⟨f - 1, by omega⟩
        rw [encF_more _ _ (by omega), show (c - 128 + x * 128) % 128 + 128 = c by omega, show (c - 128 + x * 128) / 128 = x by omega, he g (by omega)]
        rfl
      · rw [e1]
        have hi : i ≤ 8 := by omega
        have h1 : (c - 128) * 128 ^ i < 128 ^ (i + 1) := by
          rw [Nat.pow_succ, Nat.mul_comm (128 ^ i)]
          exact Nat.mul_lt_mul_of_pos_right (by omega) (Nat.pow_pos (by decide))
        have h2 : x * 128 ^ (i + 1) + 128 ^ (i + 1) ≤ 18446744073709551616 := by
          have hd : (18446744073709551616 : Nat) = 2 ^ (64 - 7 * (i + 1)) * 128 ^ (i + 1) := by
            rw [show (128 : Nat) = 2 ^ 7 from rfl, ← Nat.pow_mul, ← Nat.pow_add, show 64 - 7 * (i + 1) + 7 * (i + 1) = 64 by omega]
          rw [hd] at h64 ⊢
          have hxl : x < 2 ^ (64 - 7 * (i + 1)) := Nat.lt_of_mul_lt_mul_right h64
          have := Nat.mul_le_mul_right (128 ^ (i + 1)) hxl
          rw [Nat.succ_mul] at this
          exact this
        omega
theorem take_back (l : List Nat) (v n : Nat) (h : takeF 0 0 l = some (v, n)) (hb : ∀ c ∈ l, c < 256) : U64 v ∧ 0 < n ∧ n ≤ l.length ∧ n ≤ 10 ∧ enc v = l.take n := by
  obtain ⟨x, k, hv, hn, hk, _, he, h64, h9⟩ := takeF_back l 0 0 v n h hb
  have ex : v = x := by simp at hv; exact hv
  have en : n = k + 1 := by omega
  subst ex en
  exact ⟨by simpa [U64] using h64, by omega, by omega, by omega, he 10 (by omega)⟩
end Go.Proofs.YtnojejplckhifaaDoor

/- Programs as plain data, their bytes, what is amiss with one, and the reading of bytes, error and place and all: no program here. -/
namespace Go.Proofs.YtnojejplckhifaaDoor
open Go.RowKit
set_option linter.unusedVariables false

/-- an instruction -/
structure Ins where
  op : Int
  a : Int
  b : Int
  n : Int
/-- a method -/
structure Met where
  par : List UInt8
  loc : List UInt8
  ret : List UInt8
  code : List Ins
/-- a program -/
structure Prg where
  cls : List (List UInt8)
  mets : List Met

def hasA (op : Int) : Bool := op == 3 || op == 4 || op == 22 || op == 23 || op == 24 || op == 25 || op == 26 || op == 27 || op == 28 || op == 29 || op == 30 || op == 32
def hasB (op : Int) : Bool := op == 25 || op == 26
def isIR (c : UInt8) : Bool := c == 73 || c == 82
def lettersB (s : List UInt8) : Bool := s.all isIR

/-! ### what is amiss with a program -/
/-- is A, B a place that there is? -/
def thereI (P : Prg) (m : Met) (x : Ins) : Bool :=
  if x.op = 3 ∨ x.op = 4 then decide (0 ≤ x.a ∧ x.a < (m.par.length + m.loc.length : Nat))
  else if x.op = 24 ∨ x.op = 27 then decide (0 ≤ x.a ∧ x.a < P.cls.length)
  else if x.op = 25 ∨ x.op = 26 then decide (0 ≤ x.a ∧ x.a < P.cls.length ∧ 0 ≤ x.b ∧ x.b < (P.cls.getD x.a.toNat []).length)
  else if x.op = 28 ∨ x.op = 29 ∨ x.op = 30 then decide (0 ≤ x.a ∧ x.a < 2)
  else if x.op = 32 then decide (0 < x.a ∧ x.a < P.mets.length)
  else true
def idleI (x : Ins) : Bool := (hasA x.op || x.a == 0) && (hasB x.op || x.b == 0) && (x.op == 1 || x.n == 0)
/-- the number of the error (0 too many, 1 kind, 2 index, 3 target), or none -/
def mayI (P : Prg) (m : Met) (x : Ins) : Option Nat :=
  if x.op < 1 ∨ 35 < x.op then some 1
  else if (x.op = 22 ∨ x.op = 23) ∧ ¬ (0 ≤ x.a ∧ x.a < m.code.length) then some 3
  else if thereI P m x && idleI x then none else some 2
def retB (r : List UInt8) : Bool := r == [] || r == [73] || r == [82]
def mayH (m : Met) (first : Bool) : Option Nat :=
  if 12 < m.par.length ∨ 12 < m.par.length + m.loc.length ∨ m.code.length = 0 ∨ 120 < m.code.length then some 0
  else if lettersB m.par && lettersB m.loc && retB m.ret && !(first && (m.par != [] || m.ret == [82])) then none else some 1
def mayC (c : List UInt8) : Option Nat := if 10 < c.length then some 0 else if lettersB c then none else some 1
def mayCs : Nat → List (List UInt8) → Option (Nat × List Int)
  | _, [] => none
  | i, c :: r => match mayC c with
    | some k => some (k, [(i : Int), -1])
    | none => mayCs (i + 1) r
def mayIs (P : Prg) (m : Met) (i : Nat) : Nat → List Ins → Option (Nat × List Int)
  | _, [] => none
  | pc, x :: r => match mayI P m x with
    | some k => some (k, [(i : Int), (pc : Int)])
    | none => mayIs P m i (pc + 1) r
def mayM (P : Prg) (i : Nat) (m : Met) : Option (Nat × List Int) :=
  match mayH m (i == 0) with
  | some k => some (k, [(i : Int), -1])
  | none => mayIs P m i 0 m.code
def mayMs (P : Prg) : Nat → List Met → Option (Nat × List Int)
  | _, [] => none
  | i, m :: r => match mayM P i m with
    | some f => some f
    | none => mayMs P (i + 1) r
/-- what is amiss with a program: the error's number, and its places -/
def mayP (P : Prg) : Option (Nat × List Int) :=
  if 12 < P.cls.length ∨ P.mets.length = 0 ∨ 12 < P.mets.length then some (0, [])
  else match mayCs 0 P.cls with
    | some f => some f
    | none => mayMs P 0 P.mets

/-! ### its bytes -/
def nats (s : List UInt8) : List Nat := s.map UInt8.toNat
def encS (s : List UInt8) : List Nat := enc s.length ++ nats s
def encI (x : Ins) : List Nat :=
  x.op.toNat :: ((if hasA x.op then enc x.a.toNat else []) ++ ((if hasB x.op then enc x.b.toNat else []) ++ (if x.op = 1 then enc (zig x.n).toNat else [])))
def encR (r : List UInt8) : List Nat := if r = [] then [0] else nats r
def encM (m : Met) : List Nat := encS m.par ++ (encS m.loc ++ (encR m.ret ++ (enc m.code.length ++ m.code.flatMap encI)))
def encP (P : Prg) : List Nat := [79, 68, 1] ++ (enc P.cls.length ++ (P.cls.flatMap encS ++ (enc P.mets.length ++ P.mets.flatMap encM)))

/-! ### reading -/
/-- where a reader stands, and the first error: its number (5 the end, 6 a byte) and its place -/
structure RS where
  at_ : Nat
  err : Option (Nat × Nat)
def failR (s : RS) (k p : Nat) : RS := match s.err with
  | some _ => s
  | none => ⟨s.at_, some (k, p)⟩
def byteR (l : List Nat) (may : Nat → Bool) (s : RS) : Nat × RS :=
  match s.err with
  | some _ => (0, s)
  | none => match l[s.at_]? with
    | none => (0, ⟨s.at_, some (5, l.length)⟩)
    | some c => if may c = true then (c, ⟨s.at_ + 1, none⟩) else (0, ⟨s.at_, some (6, s.at_)⟩)
/-- do the bytes end before a number does? -/
def shortB (l : List Nat) (a : Nat) : Bool := decide (l.length < a + 10) && (l.drop a).all (fun x => decide (128 ≤ x))
def wholeR (l : List Nat) (s : RS) : Nat × RS :=
  match s.err with
  | some _ => (0, s)
  | none => match tk l (s.at_ : Int) with
    | some p => (p.1, ⟨p.2, none⟩)
    | none => (0, ⟨s.at_, some (if shortB l s.at_ = true then (5, l.length) else (6, s.at_))⟩)
def numberR (l : List Nat) (least greatest : Nat) (s : RS) : Nat × RS :=
  if greatest < (wholeR l s).1 ∨ (wholeR l s).1 < least then (0, failR (wholeR l s).2 6 s.at_) else wholeR l s
def timesR {α : Type} (f : RS → α × RS) : Nat → RS → List α × RS
  | 0, s => ([], s)
  | k + 1, s => ((timesR f k s).1 ++ [(f (timesR f k s).2).1], (f (timesR f k s).2).2)
def mIR (c : Nat) : Bool := c == 73 || c == 82
def mOp (c : Nat) : Bool := decide (1 ≤ c) && decide (c ≤ 35)
def mRet (c : Nat) : Bool := c == 0 || (c == 73 || c == 82)
def mIs (k c : Nat) : Bool := c == k
def lettersR (l : List Nat) (most : Nat) (s : RS) : List Nat × RS := timesR (byteR l mIR) (numberR l 0 most s).1 (numberR l 0 most s).2
def strB (l : List Nat) : List UInt8 := l.map UInt8.ofNat
def insA (l : List Nat) (op : Nat) (s : RS) : Nat × RS := if hasA op = true then numberR l 0 1048576 s else (0, s)
def insB (l : List Nat) (op : Nat) (s : RS) : Nat × RS := if hasB op = true then numberR l 0 1048576 s else (0, s)
def insN (l : List Nat) (op : Nat) (s : RS) : Nat × RS := if op = 1 then wholeR l s else (0, s)
def instrR (l : List Nat) (s : RS) : Ins × RS :=
  let r0 := byteR l mOp s
  let r1 := insA l r0.1 r0.2
  let r2 := insB l r0.1 r1.2
  let r3 := insN l r0.1 r2.2
  (⟨r0.1, r1.1, r2.1, if r0.1 = 1 then zag r3.1 else 0⟩, r3.2)
def retL (c : Nat) : List UInt8 := if c = 0 then [] else [UInt8.ofNat c]
def methodR (l : List Nat) (s : RS) : Met × RS :=
  let r0 := lettersR l 12 s
  let r1 := lettersR l (12 - r0.1.length) r0.2
  let r2 := byteR l mRet r1.2
  let r3 := numberR l 1 120 r2.2
  let r4 := timesR (instrR l) r3.1 r3.2
  (⟨strB r0.1, strB r1.1, retL r2.1, r4.1⟩, r4.2)
def headR (l : List Nat) : RS := (byteR l (mIs 1) (byteR l (mIs 68) (byteR l (mIs 79) ⟨0, none⟩).2).2).2
def classR (l : List Nat) (s : RS) : List UInt8 × RS := (strB (lettersR l 10 s).1, (lettersR l 10 s).2)
def progR (l : List Nat) : Prg × RS :=
  let r1 := numberR l 0 12 (headR l)
  let r2 := timesR (classR l) r1.1 r1.2
  let r3 := numberR l 1 12 r2.2
  let r4 := timesR (methodR l) r3.1 r3.2
  (⟨r2.1, r4.1⟩, if r4.2.at_ < l.length then failR r4.2 6 r4.2.at_ else r4.2)
/-- what Decode answers: the program, or the error and its places -/
def decP (l : List Nat) : Option Prg × Option (Nat × List Int) :=
  if 16384 < l.length then (none, some (0, []))
  else match (progR l).2.err with
    | some e => (none, some (e.1, [(e.2 : Int)]))
    | none => match mayP (progR l).1 with
      | some f => (none, some f)
      | none => (some (progR l).1, none)
end Go.Proofs.YtnojejplckhifaaDoor

/- Plain: what reads back what was put, and stands where it stood: readers and their bytes. No program here. -/
namespace Go.Proofs.YtnojejplckhifaaDoor
open Go.RowKit
set_option linter.unusedVariables false

def allHigh (l : List Nat) : Prop := ∀ x ∈ l, 128 ≤ x
def short (l : List Nat) (at_ : Nat) : Prop := tk l (at_ : Int) = none ∧ l.length - at_ < 10 ∧ allHigh (l.drop at_)
theorem takeF_app : ∀ (x y : List Nat) (i u : Nat) (r : Nat × Nat), takeF i u x = some r → takeF i u (x ++ y) = some r
  | [], y, i, u, r, h => by simp [takeF] at h
  | c :: x, y, i, u, r, h => by
    rw [List.cons_append, takeF]
    rw [takeF] at h
    split at h
    · cases h
    · rename_i h1
      rw [if_neg h1]
      split at h
      · cases h
      · rename_i h2
        rw [if_neg h2]
        split at h
        · rename_i h3
          rw [if_pos h3]
          exact h
        · rename_i h3
          rw [if_neg h3]
          exact takeF_app x y (i + 1) _ r h
theorem takeF_cut : ∀ (x y : List Nat) (i u : Nat) (r : Nat × Nat), takeF i u (x ++ y) = some r → takeF i u x = some r ∨ (allHigh x ∧ takeF i u x = none ∧ x.length + i < 10)
  | [], y, i, u, r, h => by
    right
    refine ⟨(fun x hx => absurd hx (by simp)), rfl, ?_⟩
    rcases Nat.lt_or_ge i 10 with h1 | h1
    · simpa using h1
    · rw [List.nil_append, takeF_ten i u y h1] at h
      cases h
  | c :: x, y, i, u, r, h => by
    rw [List.cons_append, takeF] at h
    split at h
    · cases h
    · rename_i h1
      split at h
      · cases h
      · rename_i h2
        split at h
        · rename_i h3
          left
          rw [takeF, if_neg h1, if_neg h2, if_pos h3]
          exact h
        · rename_i h3
          rcases takeF_cut x y (i + 1) _ r h with g | ⟨g1, g2, g3⟩
          · left
            rw [takeF, if_neg h1, if_neg h2, if_neg h3]
            exact g
          · right
            refine ⟨fun z hz => ?_, ?_, by simp; omega⟩
            · rcases List.mem_cons.1 hz with rfl | hz
              · omega
              · exact g1 z hz
            · rw [takeF, if_neg h1, if_neg h2, if_neg h3]
              exact g2
theorem tk_more {C D : List Nat} {a u nx : Nat} (h : tk C (a : Int) = some (u, nx)) : tk (C ++ D) (a : Int) = some (u, nx) := by
  by_cases ha : a < C.length
  · rw [tk_in C a ha] at h
    rw [tk_in (C ++ D) a (by simp; omega), List.drop_append_of_le_length (by omega)]
    cases hf : takeF 0 0 (C.drop a) with
    | none => rw [hf] at h; cases h
    | some r =>
      rw [hf] at h
      rw [takeF_app _ D 0 0 r hf]
      exact h
  · rw [tk_neg C a (by omega)] at h
    cases h
theorem tk_cut {C D : List Nat} {a u nx : Nat} (ha : a ≤ C.length) (h : tk (C ++ D) (a : Int) = some (u, nx)) : tk C (a : Int) = some (u, nx) ∨ short C a := by
  by_cases hlt : a < C.length
  · rw [tk_in (C ++ D) a (by simp; omega), List.drop_append_of_le_length (by omega)] at h
    cases hf : takeF 0 0 (C.drop a ++ D) with
    | none => rw [hf] at h; cases h
    | some r =>
      rcases takeF_cut _ D 0 0 r hf with g | ⟨g1, g2, g3⟩
      · left
        rw [hf] at h
        rw [tk_in C a hlt, g]
        exact h
      · right
        refine ⟨by rw [tk_in C a hlt, g2]; rfl, by simp at g3; omega, g1⟩
  · right
    refine ⟨tk_neg C a (by omega), by omega, ?_⟩
    rw [List.drop_eq_nil_of_le (by omega)]
    intro x hx
    cases hx
theorem takeF_le : ∀ (x : List Nat) (i u : Nat) (r : Nat × Nat), takeF i u x = some r → r.2 ≤ i + x.length
  | [], i, u, r, h => by simp [takeF] at h
  | c :: x, i, u, r, h => by
    rw [takeF] at h
    split at h
    · cases h
    · split at h
      · cases h
      · split at h
        · split at h
          · cases h
          · simp at h
            rw [← h]
            simp
        · have := takeF_le x (i + 1) _ r h
          simp
          omega
theorem tk_le {C : List Nat} {a u nx : Nat} (h : tk C (a : Int) = some (u, nx)) : nx ≤ C.length := by
  by_cases ha : a < C.length
  · rw [tk_in C a ha] at h
    cases hf : takeF 0 0 (C.drop a) with
    | none => rw [hf] at h; cases h
    | some r =>
      rw [hf] at h
      simp at h
      have := takeF_le _ 0 0 r hf
      simp at this
      omega
  · rw [tk_neg C a (by omega)] at h
    cases h
theorem tk_next {l : List Nat} {a u nx : Nat} (hb : ∀ x ∈ l, x < 256) (h : tk l (a : Int) = some (u, nx)) : U64 u ∧ a < nx ∧ nx ≤ l.length ∧ l.take nx = l.take a ++ enc u := by
  by_cases ha : a < l.length
  · rw [tk_in l a ha] at h
    cases hf : takeF 0 0 (l.drop a) with
    | none => rw [hf] at h; cases h
    | some p =>
      rw [hf] at h
      obtain ⟨v, m⟩ := p
      simp at h
      obtain ⟨rfl, rfl⟩ := h
      obtain ⟨h1, h2, h3, _, h5⟩ := take_back _ v m hf (fun c hc => hb c (List.mem_of_mem_drop hc))
      refine ⟨h1, by omega, by simp at h3; omega, ?_⟩
      rw [h5, List.take_add]
  · rw [tk_neg l a (by omega)] at h
    cases h
theorem shortB_of {l : List Nat} {a : Nat} (ha : a ≤ l.length) (h : short l a) : shortB l a = true := by
  obtain ⟨_, h1, h2⟩ := h
  unfold shortB
  rw [Bool.and_eq_true]
  refine ⟨by simpa using (show l.length < a + 10 by omega), List.all_eq_true.2 fun x hx => by simpa using h2 x hx⟩
theorem pre_app {x y z : List Nat} (h : x <+: z) (h' : y <+: z.drop x.length) : x ++ y <+: z := by
  obtain ⟨r, rfl⟩ := h
  rw [List.drop_left] at h'
  obtain ⟨q, rfl⟩ := h'
  exact ⟨q, by simp⟩
theorem app_pre {x y z : List Nat} (h : x ++ y <+: z) : x <+: z ∧ y <+: z.drop x.length := by
  obtain ⟨r, rfl⟩ := h
  rw [List.append_assoc]
  exact ⟨List.prefix_append _ _, by rw [List.drop_left]; exact List.prefix_append _ _⟩
/-- what is left is too short for x and y: too short for x, or x stands there and what is left is too short for y -/
theorem short_app {x y z : List Nat} (h : z <+: x ++ y) (hl : z.length < (x ++ y).length) : (z <+: x ∧ z.length < x.length) ∨ (x <+: z ∧ z.drop x.length <+: y ∧ (z.drop x.length).length < y.length) := by
  rcases Nat.lt_or_ge z.length x.length with h1 | h1
  · exact .inl ⟨List.prefix_of_prefix_length_le h (List.prefix_append x y) (by omega), h1⟩
  · have hx : x <+: z := List.prefix_of_prefix_length_le (List.prefix_append x y) h h1
    right
    obtain ⟨r, rfl⟩ := hx
    rw [List.drop_left]
    rw [List.prefix_append_right_inj] at h
    exact ⟨List.prefix_append _ _, h, by simp at hl; omega⟩

/-- a reader and its bytes -/
structure Rd {α : Type} (f : List Nat → RS → α × RS) (e : α → List Nat) (ok : α → Prop) : Prop where
  stay : ∀ l s, s.err ≠ none → (f l s).2 = s
  back : ∀ l a x, ok x → e x <+: l.drop a → f l ⟨a, none⟩ = (x, ⟨a + (e x).length, none⟩)
  is : ∀ l a x a', (∀ c ∈ l, c < 256) → f l ⟨a, none⟩ = (x, ⟨a', none⟩) → ok x ∧ e x <+: l.drop a ∧ a' = a + (e x).length
  cut : ∀ l a x, ok x → a ≤ l.length → l.drop a <+: e x → (l.drop a).length < (e x).length → (f l ⟨a, none⟩).2.err = some (5, l.length)

theorem pair_eta {α β : Type} (p : α × β) {x : α} {y : β} (h1 : p.1 = x) (h2 : p.2 = y) : p = (x, y) := by cases p; simp_all
theorem rs_none {s : RS} (h : s.err = none) : s = ⟨s.at_, none⟩ := by cases s; simp_all

/-- one behind the other -/
def bindR {α β : Type} (f : List Nat → RS → α × RS) (g : α → List Nat → RS → β × RS) (l : List Nat) (s : RS) : (α × β) × RS :=
  (((f l s).1, (g (f l s).1 l (f l s).2).1), (g (f l s).1 l (f l s).2).2)
theorem Rd.bind {α β : Type} {f : List Nat → RS → α × RS} {e : α → List Nat} {ok : α → Prop} {g : α → List Nat → RS → β × RS} {e' : α → β → List Nat} {ok' : α → β → Prop}
    (hf : Rd f e ok) (hs : ∀ x l s, s.err ≠ none → (g x l s).2 = s) (hg : ∀ x, ok x → Rd (g x) (e' x) (ok' x)) :
    Rd (bindR f g) (fun p => e p.1 ++ e' p.1 p.2) (fun p => ok p.1 ∧ ok' p.1 p.2) where
  stay l s h := by
    show (g (f l s).1 l (f l s).2).2 = s
    rw [hf.stay l s h, hs _ _ _ h]
  back l a x h hp := by
    obtain ⟨h1, h2⟩ := app_pre hp
    have hb := hf.back l a x.1 h.1 h1
    rw [List.drop_drop] at h2
    have hc := (hg x.1 h.1).back l _ x.2 h.2 h2
    show (((f l ⟨a, none⟩).1, (g (f l ⟨a, none⟩).1 l (f l ⟨a, none⟩).2).1), (g (f l ⟨a, none⟩).1 l (f l ⟨a, none⟩).2).2) = _
    rw [hb]
    simp only []
    rw [hc]
    simp [Nat.add_assoc]
  is l a x a' hl h := by
    have h' : (((f l ⟨a, none⟩).1, (g (f l ⟨a, none⟩).1 l (f l ⟨a, none⟩).2).1), (g (f l ⟨a, none⟩).1 l (f l ⟨a, none⟩).2).2) = (x, ⟨a', none⟩) := h
    have hE : (f l ⟨a, none⟩).2.err = none := by
      cases hq : (f l ⟨a, none⟩).2.err with
      | none => rfl
      | some v =>
        have h2 := congrArg Prod.snd h'
        simp only [] at h2
        rw [hs _ l (f l ⟨a, none⟩).2 (by rw [hq]; simp)] at h2
        rw [h2] at hq
        cases hq
    obtain ⟨a1, ha1⟩ : ∃ a1, (f l ⟨a, none⟩).2 = ⟨a1, none⟩ := ⟨_, rs_none hE⟩
    obtain ⟨y, hy⟩ : ∃ y, (f l ⟨a, none⟩).1 = y := ⟨_, rfl⟩
    rw [ha1, hy] at h'
    obtain ⟨o1, p1, q1⟩ := hf.is l a y a1 hl (pair_eta _ hy ha1)
    have hx : (y, (g y l ⟨a1, none⟩).1) = x := congrArg Prod.fst h'
    have hst : (g y l ⟨a1, none⟩).2 = ⟨a', none⟩ := congrArg Prod.snd h'
    subst hx
    obtain ⟨o2, p2, q2⟩ := (hg y o1).is l a1 _ a' hl (pair_eta _ rfl hst)
    subst q1
    exact ⟨⟨o1, o2⟩, pre_app p1 (by rw [List.drop_drop]; exact p2), by simp; omega⟩
  cut l a x h ha hp hlt := by
    show (g (f l ⟨a, none⟩).1 l (f l ⟨a, none⟩).2).2.err = _
    rcases short_app hp hlt with ⟨h1, h2⟩ | ⟨h1, h2, h3⟩
    · have hc := hf.cut l a x.1 h.1 ha h1 h2
      rw [hs _ _ _ (by rw [hc]; simp)]
      exact hc
    · rw [hf.back l a x.1 h.1 h1]
      rw [List.drop_drop] at h2 h3
      have hle : (e x.1).length ≤ (l.drop a).length := h1.length_le
      exact (hg x.1 h.1).cut l _ x.2 h.2 (by simp at hle; omega) h2 h3
/-- seen otherwise -/
def mapR {α β : Type} (f : List Nat → RS → α × RS) (φ : α → β) (l : List Nat) (s : RS) : β × RS := (φ (f l s).1, (f l s).2)
theorem Rd.map {α β : Type} {f : List Nat → RS → α × RS} {e : α → List Nat} {ok : α → Prop} (φ : α → β) (ψ : β → α) {e' : β → List Nat} {ok' : β → Prop} (hf : Rd f e ok)
    (h1 : ∀ x, ok x → ok' (φ x) ∧ e' (φ x) = e x) (h2 : ∀ y, ok' y → ok (ψ y) ∧ φ (ψ y) = y ∧ e (ψ y) = e' y) : Rd (mapR f φ) e' ok' where
  stay l s h := hf.stay l s h
  back l a y h hp := by
    obtain ⟨k1, k2, k3⟩ := h2 y h
    have := hf.back l a (ψ y) k1 (by rw [k3]; exact hp)
    show (φ (f l ⟨a, none⟩).1, (f l ⟨a, none⟩).2) = _
    rw [this, k3]
    simp only [k2]
  is l a y a' hl h := by
    have h' : (φ (f l ⟨a, none⟩).1, (f l ⟨a, none⟩).2) = (y, ⟨a', none⟩) := h
    obtain ⟨k1, k2, k3⟩ := hf.is l a _ a' hl (pair_eta _ rfl (congrArg Prod.snd h'))
    have hy : φ (f l ⟨a, none⟩).1 = y := congrArg Prod.fst h'
    obtain ⟨j1, j2⟩ := h1 _ k1
    rw [hy] at j1 j2
    exact ⟨j1, by rw [j2]; exact k2, by rw [j2]; exact k3⟩
  cut l a y h ha hp hlt := by
    obtain ⟨k1, k2, k3⟩ := h2 y h
    exact hf.cut l a (ψ y) k1 ha (by rw [k3]; exact hp) (by rw [k3]; exact hlt)
/-- the same reader, the same bytes, said otherwise -/
theorem Rd.same {α : Type} {f f' : List Nat → RS → α × RS} {e e' : α → List Nat} {ok ok' : α → Prop} (hf : Rd f e ok) (h0 : ∀ l s, f' l s = f l s) (h1 : ∀ x, ok x ↔ ok' x) (h2 : ∀ x, ok x → e' x = e x) : Rd f' e' ok' := by
  have hff : f' = f := by funext l s; exact h0 l s
  subst hff
  have := hf.map (fun x => x) (fun x => x) (e' := e') (ok' := ok') (fun x hx => ⟨(h1 x).1 hx, h2 x hx⟩) (fun y hy => ⟨(h1 y).2 hy, rfl, (h2 y ((h1 y).2 hy)).symm⟩)
  exact this
theorem times_stay {α : Type} {f : List Nat → RS → α × RS} (hf : ∀ l s, s.err ≠ none → (f l s).2 = s) (l : List Nat) : ∀ (k : Nat) (s : RS), s.err ≠ none → (timesR (f l) k s).2 = s
  | 0, s, _ => rfl
  | k + 1, s, h => by
    show (f l (timesR (f l) k s).2).2 = s
    rw [times_stay hf l k s h, hf l s h]
theorem flat_snoc {α : Type} (e : α → List Nat) (xs : List α) (x : α) : (xs ++ [x]).flatMap e = xs.flatMap e ++ e x := by simp
theorem Rd.times {α : Type} {f : List Nat → RS → α × RS} {e : α → List Nat} {ok : α → Prop} (hf : Rd f e ok) : ∀ k : Nat, Rd (fun l s => timesR (f l) k s) (fun xs => xs.flatMap e) (fun xs => xs.length = k ∧ ∀ x ∈ xs, ok x)
  | 0 => by
    refine ⟨fun l s _ => rfl, ?_, ?_, ?_⟩
    · rintro l a x ⟨h, _⟩ _
      rw [List.length_eq_zero_iff] at h
      subst h
      rfl
    · intro l a x a' _ h
      have h1 : [] = x := congrArg Prod.fst h
      have h2 : (⟨a, none⟩ : RS) = ⟨a', none⟩ := congrArg Prod.snd h
      injection h2 with h2
      subst h1 h2
      exact ⟨⟨rfl, fun x hx => by cases hx⟩, List.nil_prefix, rfl⟩
    · rintro l a x ⟨h, _⟩ _ _ hlt
      rw [List.length_eq_zero_iff] at h
      subst h
      simp at hlt
  | k + 1 => by
    have ih := Rd.times hf k
    have := (Rd.bind ih (g := fun _ => f) (fun _ => hf.stay) (fun _ _ => hf)).map (fun p => p.1 ++ [p.2]) (fun xs => if h : xs = [] then ([], (f [] ⟨0, none⟩).1) else (xs.dropLast, xs.getLast h)) (e' := fun xs => xs.flatMap e) (ok' := fun xs => xs.length = k + 1 ∧ ∀ x ∈ xs, ok x)
      (by
        rintro ⟨xs, x⟩ ⟨⟨h1, h2⟩, h3⟩
        refine ⟨⟨by simp at h1 ⊢; exact h1, fun y hy => ?_⟩, flat_snoc e xs x⟩
        rcases List.mem_append.1 hy with hy | hy
        · exact h2 y hy
        · rw [List.mem_singleton] at hy; subst hy; exact h3)
      (by
        rintro xs ⟨h1, h2⟩
        have hne : xs ≠ [] := by intro h; subst h; cases h1
        rw [dif_neg hne]
        have hxs := List.dropLast_concat_getLast hne
        refine ⟨⟨⟨by simp; omega, fun y hy => h2 y (List.dropLast_subset xs hy)⟩, h2 _ (List.getLast_mem hne)⟩, hxs, ?_⟩
        show xs.dropLast.flatMap e ++ e (xs.getLast hne) = xs.flatMap e
        rw [← flat_snoc, hxs])
    exact this.same (fun l s => rfl) (fun x => Iff.rfl) (fun x _ => rfl)

/-! ### a byte, a number -/
theorem get_of_pre {c : Nat} {r l : List Nat} {a : Nat} (h : [c] ++ r <+: l.drop a) : l[a]? = some c := by
  obtain ⟨q, hq⟩ := h
  have : (l.drop a)[0]? = some c := by rw [← hq]; rfl
  simpa using this
theorem pre_of_get {c : Nat} {l : List Nat} {a : Nat} (h : l[a]? = some c) : [c] <+: l.drop a := by
  obtain ⟨hlt, hx⟩ := List.getElem?_eq_some_iff.1 h
  rw [List.drop_eq_getElem_cons hlt, hx]
  exact ⟨_, rfl⟩
theorem rd_byte (may : Nat → Bool) : Rd (fun l => byteR l may) (fun c => [c]) (fun c => may c = true ∧ c < 256) where
  stay l s h := by
    unfold byteR
    split
    · rfl
    · exact absurd (by assumption) h
  back l a c h hp := by
    have := get_of_pre (r := []) (by simpa using hp)
    simp [byteR, this, h.1]
  is l a c a' hl h := by
    unfold byteR at h
    simp only [] at h
    split at h
    · simp at h
    · rename_i x hx
      split at h
      · simp at h
        obtain ⟨rfl, rfl⟩ := h
        exact ⟨⟨by assumption, hl _ (List.mem_of_getElem? hx)⟩, pre_of_get hx, rfl⟩
      · simp at h
  cut l a c h ha hp hlt := by
    have h0 : (l.drop a).length = 0 := by simpa using hlt
    simp at h0
    have : l[a]? = none := List.getElem?_eq_none (by omega)
    simp [byteR, this]
theorem tk_pre {l : List Nat} {a u : Nat} (hu : U64 u) (h : enc u <+: l.drop a) : tk l (a : Int) = some (u, a + (enc u).length) := by
  have hp := enc_pos u
  have hl := h.length_le
  simp at hl
  obtain ⟨r, hr⟩ := h
  have := tk_enc (l.take a) r u hu
  rw [hr, List.take_append_drop, List.length_take, Nat.min_eq_left (by omega)] at this
  exact this
theorem rd_whole : Rd wholeR enc U64 where
  stay l s h := by
    unfold wholeR
    split
    · rfl
    · exact absurd (by assumption) h
  back l a u h hp := by simp [wholeR, tk_pre h hp]
  is l a u a' hl h := by
    unfold wholeR at h
    simp only [] at h
    split at h
    · rename_i p hp
      simp at h
      obtain ⟨rfl, rfl⟩ := h
      obtain ⟨k1, k2, k3, k4⟩ := tk_next hl (show tk l (a : Int) = some (p.1, p.2) from hp)
      have e : enc p.1 = (l.drop a).take (p.2 - a) := by
        have h5 : l.take p.2 = l.take a ++ (l.drop a).take (p.2 - a) := by rw [← List.take_add]; congr 1; omega
        rw [h5] at k4
        exact (List.append_cancel_left k4).symm
      refine ⟨k1, by rw [e]; exact List.take_prefix _ _, ?_⟩
      rw [e]
      simp
      omega
    · simp at h
  cut l a u h ha hp hlt := by
    obtain ⟨r, hr⟩ := hp
    have hk : tk (l ++ r) (a : Int) = some (u, a + (enc u).length) := tk_pre h (by rw [List.drop_append_of_le_length ha, hr]; exact List.prefix_rfl)
    rcases tk_cut ha hk with h1 | h1
    · have h2 := tk_le h1
      simp at hlt
      omega
    · simp [wholeR, h1.1, shortB_of ha h1]
theorem rd_number (least greatest : Nat) (hg : greatest ≤ 1048576) : Rd (fun l => numberR l least greatest) enc (fun u => least ≤ u ∧ u ≤ greatest) where
  stay l s h := by
    show (numberR l least greatest s).2 = s
    unfold numberR
    split
    · rw [rd_whole.stay l s h]
      unfold failR
      split
      · rfl
      · exact absurd (by assumption) h
    · exact rd_whole.stay l s h
  back l a u h hp := by
    have := rd_whole.back l a u (Nat.lt_of_le_of_lt (Nat.le_trans h.2 hg) (by decide)) hp
    show numberR l least greatest ⟨a, none⟩ = _
    unfold numberR
    rw [this, if_neg (by simp; omega)]
  is l a u a' hl h := by
    have h' : numberR l least greatest ⟨a, none⟩ = (u, ⟨a', none⟩) := h
    unfold numberR at h'
    split at h'
    · exfalso
      have h2 := congrArg Prod.snd h'
      simp only [] at h2
      unfold failR at h2
      split at h2
      · rename_i hx
        rw [h2] at hx
        cases hx
      · simp at h2
    · rename_i hn
      obtain ⟨k1, k2, k3⟩ := rd_whole.is l a u a' hl h'
      rw [h'] at hn
      simp at hn
      exact ⟨by omega, k2, k3⟩
  cut l a u h ha hp hlt := by
    have hc := rd_whole.cut l a u (Nat.lt_of_le_of_lt (Nat.le_trans h.2 hg) (by decide)) ha hp hlt
    show (numberR l least greatest ⟨a, none⟩).2.err = _
    unfold numberR
    split
    · unfold failR
      rw [hc]
      exact hc
    · exact hc
end Go.Proofs.YtnojejplckhifaaDoor

/- Plain: a program's bytes are read as that program, what is read has these bytes; cut off they end too early. No program of Go here. -/
namespace Go.Proofs.YtnojejplckhifaaDoor
open Go.RowKit
set_option linter.unusedVariables false

/-! ### letters -/
theorem ofNat_toNat8 (c : Nat) (h : c < 256) : (UInt8.ofNat c).toNat = c := by simp; omega
theorem nats_strB (l : List Nat) (h : ∀ c ∈ l, c < 256) : nats (strB l) = l := by
  unfold nats strB
  rw [List.map_map]
  conv => rhs; rw [← List.map_id l]
  exact List.map_congr_left fun c hc => ofNat_toNat8 c (h c hc)
theorem strB_nats (s : List UInt8) : strB (nats s) = s := by
  unfold nats strB
  rw [List.map_map]
  conv => rhs; rw [← List.map_id s]
  exact List.map_congr_left fun c hc => by simp
theorem nats_lt (s : List UInt8) : ∀ c ∈ nats s, c < 256 := by
  intro c hc
  obtain ⟨x, _, rfl⟩ := List.mem_map.1 hc
  exact x.toNat_lt
theorem mIR_isIR : ∀ c : Fin 256, mIR c.val = isIR (UInt8.ofNat c.val) := by decide +kernel
theorem isIR_of {c : Nat} (h : c < 256) (hm : mIR c = true) : isIR (UInt8.ofNat c) = true := by rw [← mIR_isIR ⟨c, h⟩]; exact hm
theorem mIR_of (x : UInt8) (hm : isIR x = true) : mIR x.toNat = true := by
  have := mIR_isIR ⟨x.toNat, x.toNat_lt⟩
  rw [this]
  simpa using hm
theorem flat_one (l : List Nat) : l.flatMap (fun c => [c]) = l := by induction l with
  | nil => rfl
  | cons x l ih => rw [List.flatMap_cons, ih]; rfl
theorem rd_letters (most : Nat) (hm : most ≤ 1048576) : Rd (fun l => lettersR l most) (fun xs => enc xs.length ++ xs) (fun xs => xs.length ≤ most ∧ ∀ c ∈ xs, mIR c = true ∧ c < 256) := by
  have h := (Rd.bind (rd_number 0 most hm) (g := fun n l s => timesR (byteR l mIR) n s) (fun n l s => ((rd_byte mIR).times n).stay l s) (fun n _ => (rd_byte mIR).times n)).map (fun p => p.2) (fun xs => (xs.length, xs))
    (e' := fun xs => enc xs.length ++ xs) (ok' := fun xs => xs.length ≤ most ∧ ∀ c ∈ xs, mIR c = true ∧ c < 256)
    (by
      rintro ⟨n, xs⟩ ⟨⟨_, h1⟩, h2, h3⟩
      simp only [] at h1 h2 h3
      subst h2
      exact ⟨⟨h1, h3⟩, by simp only []; rw [flat_one]⟩)
    (by
      rintro xs ⟨h1, h2⟩
      exact ⟨⟨⟨Nat.zero_le _, h1⟩, rfl, h2⟩, rfl, by simp only []; rw [flat_one]⟩)
  exact h.same (fun l s => rfl) (fun x => Iff.rfl) (fun x _ => rfl)
def okS (most : Nat) (s : List UInt8) : Prop := s.length ≤ most ∧ lettersB s = true
theorem okS_strB {most : Nat} {xs : List Nat} (h : xs.length ≤ most ∧ ∀ c ∈ xs, mIR c = true ∧ c < 256) : okS most (strB xs) ∧ encS (strB xs) = enc xs.length ++ xs := by
  refine ⟨⟨by simpa [strB] using h.1, List.all_eq_true.2 fun x hx => ?_⟩, ?_⟩
  · obtain ⟨c, hc, rfl⟩ := List.mem_map.1 hx
    exact isIR_of (h.2 c hc).2 (h.2 c hc).1
  · unfold encS
    rw [nats_strB xs fun c hc => (h.2 c hc).2]
    simp [strB]
theorem okS_nats {most : Nat} {s : List UInt8} (h : okS most s) : ((nats s).length ≤ most ∧ ∀ c ∈ nats s, mIR c = true ∧ c < 256) ∧ enc (nats s).length ++ nats s = encS s := by
  refine ⟨⟨by simpa [nats] using h.1, fun c hc => ⟨?_, nats_lt s c hc⟩⟩, by simp [encS, nats]⟩
  obtain ⟨x, hx, rfl⟩ := List.mem_map.1 hc
  exact mIR_of x (List.all_eq_true.1 h.2 x hx)
theorem rd_class : Rd classR encS (okS 10) :=
  ((rd_letters 10 (by decide)).map strB nats (e' := encS) (ok' := okS 10) (fun x hx => okS_strB hx) (fun y hy => ⟨(okS_nats hy).1, strB_nats y, (okS_nats hy).2⟩)).same (fun l s => rfl) (fun x => Iff.rfl) (fun x _ => rfl)

/-! ### an instruction -/
theorem rd_if {α : Type} {f : List Nat → RS → α × RS} {e : α → List Nat} {ok : α → Prop} (hf : Rd f e ok) (b : Bool) (x0 : α) :
    Rd (fun l s => if b = true then f l s else (x0, s)) (fun x => if b = true then e x else []) (fun x => if b = true then ok x else x = x0) := by
  cases b
  · refine ⟨fun l s _ => rfl, ?_, ?_, ?_⟩
    · intro l a x h _
      have h' : x = x0 := by simpa using h
      subst h'
      rfl
    · intro l a x a' _ h
      simp at h
      obtain ⟨rfl, rfl⟩ := h
      exact ⟨by simp, by simp, by simp⟩
    · intro l a x _ _ _ hlt
      simp at hlt
  · exact hf.same (fun l s => by simp) (fun x => by simp) (fun x _ => by simp)
def okI (x : Ins) : Prop := (1 ≤ x.op ∧ x.op ≤ 35) ∧ (if hasA x.op = true then 0 ≤ x.a ∧ x.a ≤ 1048576 else x.a = 0) ∧ (if hasB x.op = true then 0 ≤ x.b ∧ x.b ≤ 1048576 else x.b = 0) ∧ (if x.op = 1 then I64 x.n else x.n = 0)
def insV (p : Nat × Nat × Nat × Nat) : Ins := ⟨p.1, p.2.1, p.2.2.1, if p.1 = 1 then zag p.2.2.2 else 0⟩
def insW (x : Ins) : Nat × Nat × Nat × Nat := (x.op.toNat, x.a.toNat, x.b.toNat, if x.op = 1 then (zig x.n).toNat else 0)
theorem zag_i64 (u : Nat) (h : U64 u) : I64 (zag u) := by
  unfold U64 at h
  unfold I64
  rcases Nat.mod_two_eq_zero_or_one u with h0 | h0
  · rw [zag_even u h h0]
    omega
  · rw [zag_odd u h h0]
    omega
theorem rd_instr : Rd instrR encI okI := by
  have hA : ∀ op : Nat, Rd (fun l s => insA l op s) (fun u => if hasA op = true then enc u else []) (fun u => if hasA op = true then 0 ≤ u ∧ u ≤ 1048576 else u = 0) := fun op => rd_if (rd_number 0 1048576 (by decide)) _ 0
  have hB : ∀ op : Nat, Rd (fun l s => insB l op s) (fun u => if hasB op = true then enc u else []) (fun u => if hasB op = true then 0 ≤ u ∧ u ≤ 1048576 else u = 0) := fun op => rd_if (rd_number 0 1048576 (by decide)) _ 0
  have hN : ∀ op : Nat, Rd (fun l s => insN l op s) (fun u => if op = 1 then enc u else []) (fun u => if op = 1 then U64 u else u = 0) := fun op => by
    have := rd_if rd_whole (decide (op = 1)) 0
    exact this.same (fun l s => by simp [insN]) (fun x => by simp) (fun x _ => by simp)
  have hAB := fun op : Nat => Rd.bind (hB op) (g := fun _ l s => insN l op s) (fun _ l s => (hN op).stay l s) (fun _ _ => hN op)
  have hABC := fun op : Nat => Rd.bind (hA op) (g := fun _ => bindR (fun l s => insB l op s) (fun _ l s => insN l op s)) (fun _ l s => (hAB op).stay l s) (fun _ _ => hAB op)
  have hall := Rd.bind (rd_byte mOp) (g := fun op => bindR (fun l s => insA l op s) (fun _ => bindR (fun l s => insB l op s) (fun _ l s => insN l op s))) (fun op l s => (hABC op).stay l s) (fun op _ => hABC op)
  refine (hall.map insV insW (e' := encI) (ok' := okI) ?_ ?_).same (fun l s => rfl) (fun x => Iff.rfl) (fun x _ => rfl)
  · rintro ⟨op, a, b, u⟩ ⟨⟨h1, _⟩, h2, h3, h4⟩
    simp only [] at h1 h2 h3 h4
    unfold mOp at h1
    rw [Bool.and_eq_true, decide_eq_true_eq, decide_eq_true_eq] at h1
    have hn : (if (op : Int) = 1 then (zig (if op = 1 then zag u else 0)).toNat else 0) = if op = 1 then u else 0 := by
      by_cases ho : op = 1
      · rw [if_pos (by omega), if_pos ho, if_pos ho]
        rw [if_pos ho] at h4
        rw [zig_zag u h4]
        rfl
      · rw [if_neg (by omega), if_neg ho]
    refine ⟨⟨by simp only [insV]; omega, ?_, ?_, ?_⟩, ?_⟩
    · simp only [insV]
      split
      · rename_i hx; rw [if_pos hx] at h2; omega
      · rename_i hx; rw [if_neg hx] at h2; omega
    · simp only [insV]
      split
      · rename_i hx; rw [if_pos hx] at h3; omega
      · rename_i hx; rw [if_neg hx] at h3; omega
    · simp only [insV]
      by_cases ho : op = 1
      · rw [if_pos (by omega), if_pos ho]
        rw [if_pos ho] at h4
        exact zag_i64 u h4
      · rw [if_neg (by omega), if_neg ho]
    · simp only [insV, encI, Int.toNat_natCast]
      rw [List.singleton_append]
      congr 1
      congr 1
      congr 1
      by_cases ho : op = 1
      · rw [if_pos (by omega), if_pos ho, if_pos ho]
        rw [if_pos ho] at h4
        rw [zig_zag u h4]
        rfl
      · rw [if_neg (by omega), if_neg ho]
  · rintro ⟨op, a, b, n⟩ ⟨⟨h1, h1'⟩, h2, h3, h4⟩
    simp only [] at h1 h1' h2 h3 h4
    obtain ⟨op, rfl⟩ := Int.eq_ofNat_of_zero_le (show 0 ≤ op by omega)
    have ha : 0 ≤ a := by split at h2 <;> omega
    have hb : 0 ≤ b := by split at h3 <;> omega
    obtain ⟨a, rfl⟩ := Int.eq_ofNat_of_zero_le ha
    obtain ⟨b, rfl⟩ := Int.eq_ofNat_of_zero_le hb
    refine ⟨⟨⟨by simp [insW, mOp]; omega, by simp [insW]; omega⟩, ?_, ?_, ?_⟩, ?_, ?_⟩
    · simp only [insW, Int.toNat_natCast]
      split
      · rename_i hx; rw [if_pos hx] at h2; omega
      · rename_i hx; rw [if_neg hx] at h2; omega
    · simp only [insW, Int.toNat_natCast]
      split
      · rename_i hx; rw [if_pos hx] at h3; omega
      · rename_i hx; rw [if_neg hx] at h3; omega
    · simp only [insW, Int.toNat_natCast]
      by_cases ho : op = 1
      · rw [if_pos ho, if_pos (by omega)]
        rw [if_pos (by omega)] at h4
        exact (zig_u64 n h4).2
      · rw [if_neg ho, if_neg (by omega)]
    · simp only [insW, insV, Int.toNat_natCast]
      by_cases ho : op = 1
      · rw [if_pos ho, if_pos (by omega)]
        rw [if_pos (by omega)] at h4
        rw [Int.toNat_of_nonneg (zig_u64 n h4).1, zag_zig n h4]
      · rw [if_neg ho]
        rw [if_neg (by omega)] at h4
        rw [h4]
    · simp only [insW, encI, Int.toNat_natCast]
      rw [List.singleton_append]
      congr 1
      congr 1
      congr 1
      by_cases ho : op = 1
      · subst ho
        simp
      · have : ¬ (op : Int) = 1 := by omega
        simp [ho, this]

/-! ### a method -/
def okM (m : Met) : Prop := (okS 12 m.par ∧ okS (12 - m.par.length) m.loc) ∧ retB m.ret = true ∧ (1 ≤ m.code.length ∧ m.code.length ≤ 120) ∧ ∀ x ∈ m.code, okI x
theorem retB_cases {r : List UInt8} (h : retB r = true) : r = [] ∨ r = [73] ∨ r = [82] := by
  unfold retB at h
  simp at h
  rcases h with (h | h) | h
  · exact .inl h
  · exact .inr (.inl h)
  · exact .inr (.inr h)
theorem ret_fwd {c : Nat} (h : mRet c = true) : retB (retL c) = true ∧ encR (retL c) = [c] := by
  unfold mRet at h
  simp at h
  rcases h with rfl | rfl | rfl <;> exact ⟨by decide, by decide⟩
def retW (r : List UInt8) : Nat := match r with
  | [] => 0
  | c :: _ => c.toNat
theorem ret_bwd {r : List UInt8} (h : retB r = true) : (mRet (retW r) = true ∧ retW r < 256) ∧ retL (retW r) = r ∧ [retW r] = encR r := by
  rcases retB_cases h with rfl | rfl | rfl <;> exact ⟨⟨by decide, by decide⟩, by decide, by decide⟩
def metV (p : List Nat × List Nat × Nat × Nat × List Ins) : Met := ⟨strB p.1, strB p.2.1, retL p.2.2.1, p.2.2.2.2⟩
def metW (m : Met) : List Nat × List Nat × Nat × Nat × List Ins := (nats m.par, nats m.loc, retW m.ret, m.code.length, m.code)
def mR3 : List Nat → RS → (Nat × List Ins) × RS := bindR (fun l => numberR l 1 120) (fun n l s => timesR (instrR l) n s)
def mR2 : List Nat → RS → (Nat × Nat × List Ins) × RS := bindR (fun l => byteR l mRet) (fun _ => mR3)
def mR1 (k : Nat) : List Nat → RS → (List Nat × Nat × Nat × List Ins) × RS := bindR (fun l => lettersR l (12 - k)) (fun _ => mR2)
def mR0 : List Nat → RS → (List Nat × List Nat × Nat × Nat × List Ins) × RS := bindR (fun l => lettersR l 12) (fun xs => mR1 xs.length)
theorem rd_m3 : Rd mR3 (fun p => enc p.1 ++ p.2.flatMap encI) (fun p => (1 ≤ p.1 ∧ p.1 ≤ 120) ∧ p.2.length = p.1 ∧ ∀ x ∈ p.2, okI x) :=
  Rd.bind (rd_number 1 120 (by decide)) (g := fun n l s => timesR (instrR l) n s) (fun n l s => (rd_instr.times n).stay l s) (fun n _ => rd_instr.times n)
theorem rd_m2 : Rd mR2 (fun p => [p.1] ++ (enc p.2.1 ++ p.2.2.flatMap encI)) (fun p => (mRet p.1 = true ∧ p.1 < 256) ∧ (1 ≤ p.2.1 ∧ p.2.1 ≤ 120) ∧ p.2.2.length = p.2.1 ∧ ∀ x ∈ p.2.2, okI x) :=
  Rd.bind (rd_byte mRet) (g := fun _ => mR3) (fun _ l s => rd_m3.stay l s) (fun _ _ => rd_m3)
theorem rd_m1 (k : Nat) : Rd (mR1 k) (fun p => (enc p.1.length ++ p.1) ++ ([p.2.1] ++ (enc p.2.2.1 ++ p.2.2.2.flatMap encI)))
    (fun p => (p.1.length ≤ 12 - k ∧ ∀ c ∈ p.1, mIR c = true ∧ c < 256) ∧ (mRet p.2.1 = true ∧ p.2.1 < 256) ∧ (1 ≤ p.2.2.1 ∧ p.2.2.1 ≤ 120) ∧ p.2.2.2.length = p.2.2.1 ∧ ∀ x ∈ p.2.2.2, okI x) :=
  Rd.bind (rd_letters (12 - k) (by omega)) (g := fun _ => mR2) (fun _ l s => rd_m2.stay l s) (fun _ _ => rd_m2)
def eM1 (p : List Nat × Nat × Nat × List Ins) : List Nat := (enc p.1.length ++ p.1) ++ ([p.2.1] ++ (enc p.2.2.1 ++ p.2.2.2.flatMap encI))
def oM1 (k : Nat) (p : List Nat × Nat × Nat × List Ins) : Prop := (p.1.length ≤ 12 - k ∧ ∀ c ∈ p.1, mIR c = true ∧ c < 256) ∧ (mRet p.2.1 = true ∧ p.2.1 < 256) ∧ (1 ≤ p.2.2.1 ∧ p.2.2.1 ≤ 120) ∧ p.2.2.2.length = p.2.2.1 ∧ ∀ x ∈ p.2.2.2, okI x
theorem rd_m1' (k : Nat) : Rd (mR1 k) eM1 (oM1 k) := rd_m1 k
theorem rd_m0 : Rd mR0 (fun p => (enc p.1.length ++ p.1) ++ eM1 p.2) (fun p => (p.1.length ≤ 12 ∧ ∀ c ∈ p.1, mIR c = true ∧ c < 256) ∧ oM1 p.1.length p.2) := by
  unfold mR0
  refine Rd.bind (g := fun xs => mR1 xs.length) (e' := fun _ => eM1) (ok' := fun xs => oM1 xs.length) (rd_letters 12 (by decide)) ?_ ?_
  · intro xs l s h
    exact (rd_m1' xs.length).stay l s h
  · intro xs _
    exact rd_m1' xs.length
theorem methodR_eq (l : List Nat) (s : RS) : methodR l s = mapR mR0 metV l s := by simp only [methodR, mapR, mR0, mR1, mR2, mR3, bindR, metV]
theorem rd_method : Rd methodR encM okM := by
  refine (rd_m0.map metV metW (e' := encM) (ok' := okM) ?_ ?_).same methodR_eq (fun x => Iff.rfl) (fun x _ => rfl)
  · rintro ⟨p, q, c, n, xs⟩ ⟨k0, k1, ⟨k2, _⟩, k3, k4, k5⟩
    simp only [] at k0 k1 k2 k3 k4 k5
    subst k4
    have hp : (strB p).length = p.length := by simp [strB]
    refine ⟨⟨⟨(okS_strB k0).1, ?_⟩, (ret_fwd k2).1, k3, k5⟩, ?_⟩
    · show okS (12 - (strB p).length) (strB q)
      rw [hp]
      exact (okS_strB k1).1
    · simp only [metV, encM]
      rw [(okS_strB k0).2, (okS_strB k1).2, (ret_fwd k2).2]
      rfl
  · rintro ⟨p, q, r, xs⟩ ⟨⟨k0, k1⟩, k2, k3, k4⟩
    simp only [] at k0 k1 k2 k3 k4
    have hp : (nats p).length = p.length := by simp [nats]
    refine ⟨⟨(okS_nats k0).1, ?_, (ret_bwd k2).1, k3, rfl, k4⟩, ?_, ?_⟩
    · show (nats q).length ≤ 12 - (nats p).length ∧ _
      rw [hp]
      exact (okS_nats k1).1
    · simp only [metV, metW, strB_nats, (ret_bwd k2).2.1]
    · simp only [metW, encM]
      rw [← (okS_nats k0).2, ← (okS_nats k1).2, ← (ret_bwd k2).2.2]
      rfl

/-! ### a program -/
def okP (P : Prg) : Prop := (P.cls.length ≤ 12 ∧ ∀ c ∈ P.cls, okS 10 c) ∧ (1 ≤ P.mets.length ∧ P.mets.length ≤ 12) ∧ ∀ m ∈ P.mets, okM m
def pR6 : List Nat → RS → (Nat × List Met) × RS := bindR (fun l => numberR l 1 12) (fun k l s => timesR (methodR l) k s)
def pR5 (n : Nat) : List Nat → RS → (List (List UInt8) × Nat × List Met) × RS := bindR (fun l s => timesR (classR l) n s) (fun _ => pR6)
def pR4 : List Nat → RS → (Nat × List (List UInt8) × Nat × List Met) × RS := bindR (fun l => numberR l 0 12) (fun n => pR5 n)
def pR3 : List Nat → RS → (Nat × Nat × List (List UInt8) × Nat × List Met) × RS := bindR (fun l => byteR l (mIs 1)) (fun _ => pR4)
def pR2 : List Nat → RS → (Nat × Nat × Nat × List (List UInt8) × Nat × List Met) × RS := bindR (fun l => byteR l (mIs 68)) (fun _ => pR3)
def progB : List Nat → RS → (Nat × Nat × Nat × Nat × List (List UInt8) × Nat × List Met) × RS := bindR (fun l => byteR l (mIs 79)) (fun _ => pR2)
def prgV (p : Nat × Nat × Nat × Nat × List (List UInt8) × Nat × List Met) : Prg := ⟨p.2.2.2.2.1, p.2.2.2.2.2.2⟩
def prgW (P : Prg) : Nat × Nat × Nat × Nat × List (List UInt8) × Nat × List Met := (79, 68, 1, P.cls.length, P.cls, P.mets.length, P.mets)
theorem progR_eq (l : List Nat) : progR l = ((mapR progB prgV l ⟨0, none⟩).1, if (mapR progB prgV l ⟨0, none⟩).2.at_ < l.length then failR (mapR progB prgV l ⟨0, none⟩).2 6 (mapR progB prgV l ⟨0, none⟩).2.at_ else (mapR progB prgV l ⟨0, none⟩).2) := by
  unfold progR headR mapR progB pR2 pR3 pR4 pR5 pR6 bindR prgV
  dsimp only
theorem rd_p6 : Rd pR6 (fun p => enc p.1 ++ p.2.flatMap encM) (fun p => (1 ≤ p.1 ∧ p.1 ≤ 12) ∧ p.2.length = p.1 ∧ ∀ x ∈ p.2, okM x) :=
  Rd.bind (rd_number 1 12 (by decide)) (g := fun n l s => timesR (methodR l) n s) (fun n l s => (rd_method.times n).stay l s) (fun n _ => rd_method.times n)
theorem rd_p5 (n : Nat) : Rd (pR5 n) (fun p => p.1.flatMap encS ++ (enc p.2.1 ++ p.2.2.flatMap encM)) (fun p => (p.1.length = n ∧ ∀ c ∈ p.1, okS 10 c) ∧ (1 ≤ p.2.1 ∧ p.2.1 ≤ 12) ∧ p.2.2.length = p.2.1 ∧ ∀ x ∈ p.2.2, okM x) :=
  Rd.bind (rd_class.times n) (g := fun _ => pR6) (fun _ l s => rd_p6.stay l s) (fun _ _ => rd_p6)
theorem rd_p4 : Rd pR4 (fun p => enc p.1 ++ (p.2.1.flatMap encS ++ (enc p.2.2.1 ++ p.2.2.2.flatMap encM))) (fun p => (0 ≤ p.1 ∧ p.1 ≤ 12) ∧ (p.2.1.length = p.1 ∧ ∀ c ∈ p.2.1, okS 10 c) ∧ (1 ≤ p.2.2.1 ∧ p.2.2.1 ≤ 12) ∧ p.2.2.2.length = p.2.2.1 ∧ ∀ x ∈ p.2.2.2, okM x) :=
  Rd.bind (rd_number 0 12 (by decide)) (g := fun n => pR5 n) (fun n l s => (rd_p5 n).stay l s) (fun n _ => rd_p5 n)
theorem rd_prog : Rd (mapR progB prgV) encP okP := by
  have b3 := Rd.bind (rd_byte (mIs 1)) (g := fun _ => pR4) (fun _ l s => rd_p4.stay l s) (fun _ _ => rd_p4)
  have b2 := Rd.bind (rd_byte (mIs 68)) (g := fun _ => pR3) (fun _ l s => b3.stay l s) (fun _ _ => b3)
  have b1 := Rd.bind (rd_byte (mIs 79)) (g := fun _ => pR2) (fun _ l s => b2.stay l s) (fun _ _ => b2)
  refine b1.map prgV prgW (e' := encP) (ok' := okP) ?_ ?_
  · rintro ⟨x, y, z, n, cs, k, ms⟩ ⟨⟨e1, _⟩, ⟨e2, _⟩, ⟨e3, _⟩, k0, ⟨k1, k2⟩, k3, k4, k5⟩
    simp only [] at e1 e2 e3 k0 k1 k2 k3 k4 k5
    have e1 : x = 79 := by simpa [mIs] using e1
    have e2 : y = 68 := by simpa [mIs] using e2
    have e3 : z = 1 := by simpa [mIs] using e3
    subst e1 e2 e3 k1 k4
    exact ⟨⟨⟨k0.2, k2⟩, k3, k5⟩, rfl⟩
  · rintro ⟨cs, ms⟩ ⟨⟨k0, k1⟩, k2, k3⟩
    exact ⟨⟨⟨rfl, (by decide : 79 < 256)⟩, ⟨rfl, (by decide : 68 < 256)⟩, ⟨rfl, (by decide : 1 < 256)⟩, ⟨Nat.zero_le _, k0⟩, ⟨rfl, k1⟩, k2, rfl, k3⟩, rfl, rfl⟩
theorem dec_enc (P : Prg) (h : okP P) (hm : mayP P = none) (hl : (encP P).length ≤ 16384) : decP (encP P) = (some P, none) := by
  have hb := rd_prog.back (encP P) 0 P h (by rw [List.drop_zero]; exact List.prefix_rfl)
  unfold decP
  rw [if_neg (by omega), progR_eq, hb]
  simp [hm]
theorem dec_is (l : List Nat) (hb : ∀ c ∈ l, c < 256) (P : Prg) (o : Option (Nat × List Int)) (h : decP l = (some P, o)) : okP P ∧ mayP P = none ∧ l = encP P ∧ o = none := by
  unfold decP at h
  split at h
  · simp at h
  · split at h
    · simp at h
    · rename_i hE
      split at h
      · simp at h
      · rename_i hM
        simp at h
        obtain ⟨h1, h2⟩ := h
        rw [progR_eq] at h1 hE hM
        simp only [] at h1 hE hM
        rw [h1] at hM
        split at hE
        · rename_i hlt
          unfold failR at hE
          split at hE
          · rename_i hx; rw [hE] at hx; cases hx
          · cases hE
        · rename_i hlt
          obtain ⟨k1, k2, k3⟩ := rd_prog.is l 0 P _ hb (pair_eta _ h1 (rs_none hE))
          rw [List.drop_zero] at k2
          refine ⟨k1, hM, ?_, h2.symm⟩
          obtain ⟨r, hr⟩ := k2
          have : r = [] := List.eq_nil_of_length_eq_zero (by have := congrArg List.length hr; simp at this; omega)
          rw [← hr, this, List.append_nil]
theorem dec_cut (P : Prg) (h : okP P) (t : Nat) (ht : t < (encP P).length) (hl : t ≤ 16384) : decP ((encP P).take t) = (none, some (5, [(t : Int)])) := by
  have hlen : ((encP P).take t).length = t := by rw [List.length_take]; omega
  have hc := rd_prog.cut ((encP P).take t) 0 P h (by omega) (by rw [List.drop_zero]; exact List.take_prefix _ _) (by rw [List.drop_zero, hlen]; exact ht)
  unfold decP
  rw [if_neg (by omega), progR_eq]
  simp only []
  have : (if (mapR progB prgV ((encP P).take t) ⟨0, none⟩).2.at_ < ((encP P).take t).length then failR (mapR progB prgV ((encP P).take t) ⟨0, none⟩).2 6 (mapR progB prgV ((encP P).take t) ⟨0, none⟩).2.at_ else (mapR progB prgV ((encP P).take t) ⟨0, none⟩).2).err = some (5, t) := by
    rw [hlen] at hc ⊢
    split
    · unfold failR
      rw [hc]
      exact hc
    · exact hc
  rw [this]
theorem dec_more (P : Prg) (h : okP P) (c : Nat) (hl : (encP P).length < 16384) : decP (encP P ++ [c]) = (none, some (6, [((encP P).length : Int)])) := by
  have hb := rd_prog.back (encP P ++ [c]) 0 P h (by rw [List.drop_zero]; exact List.prefix_append _ _)
  unfold decP
  rw [if_neg (by simp; omega), progR_eq, hb]
  simp [failR]

/-! ### what may be -/
theorem mayCs_none : ∀ (l : List (List UInt8)) (i : Nat), mayCs i l = none → ∀ c ∈ l, mayC c = none
  | [], i, _, c, hc => by cases hc
  | x :: r, i, h, c, hc => by
    unfold mayCs at h
    split at h
    · cases h
    · rename_i hx
      rcases List.mem_cons.1 hc with rfl | hc
      · exact hx
      · exact mayCs_none r (i + 1) h c hc
theorem mayIs_none (P : Prg) (m : Met) (i : Nat) : ∀ (l : List Ins) (pc : Nat), mayIs P m i pc l = none → ∀ x ∈ l, mayI P m x = none
  | [], pc, _, c, hc => by cases hc
  | x :: r, pc, h, c, hc => by
    unfold mayIs at h
    split at h
    · cases h
    · rename_i hx
      rcases List.mem_cons.1 hc with rfl | hc
      · exact hx
      · exact mayIs_none P m i r (pc + 1) h c hc
theorem mayMs_none (P : Prg) : ∀ (l : List Met) (i : Nat), mayMs P i l = none → ∀ m ∈ l, ∃ j, mayM P j m = none
  | [], i, _, c, hc => by cases hc
  | x :: r, i, h, c, hc => by
    unfold mayMs at h
    split at h
    · cases h
    · rename_i hx
      rcases List.mem_cons.1 hc with rfl | hc
      · exact ⟨i, hx⟩
      · exact mayMs_none P r (i + 1) h c hc
theorem there_small (P : Prg) (m : Met) (x : Ins) (hc : P.cls.length ≤ 12) (hm : P.mets.length ≤ 12) (hk : ∀ c ∈ P.cls, c.length ≤ 10) (hp : m.par.length ≤ 12) (hq : m.loc.length ≤ 12) (hcode : m.code.length ≤ 120)
    (h3 : ¬ ((x.op = 22 ∨ x.op = 23) ∧ ¬ (0 ≤ x.a ∧ x.a < m.code.length))) (h : thereI P m x = true) : (hasA x.op = true → 0 ≤ x.a ∧ x.a ≤ 120) ∧ (hasB x.op = true → 0 ≤ x.b ∧ x.b ≤ 10) := by
  unfold thereI at h
  unfold hasA hasB
  have hcl : ∀ k : Nat, (P.cls.getD k []).length ≤ 10 := fun k => by
    rw [List.getD_eq_getElem?_getD]
    cases hg : P.cls[k]? with
    | none => simp
    | some c => exact hk c (List.mem_of_getElem? hg)
  have := hcl x.a.toNat
  constructor
  · intro hA
    simp only [Bool.or_eq_true, beq_iff_eq] at hA
    split at h
    · simp at h; omega
    · split at h
      · simp at h; omega
      · split at h
        · simp only [decide_eq_true_eq] at h; omega
        · split at h
          · simp at h; omega
          · split at h
            · simp at h; omega
            · have : x.op = 22 ∨ x.op = 23 := by omega
              by_cases h4 : 0 ≤ x.a ∧ x.a < m.code.length
              · omega
              · exact absurd ⟨this, h4⟩ h3
  · intro hB
    simp only [Bool.or_eq_true, beq_iff_eq] at hB
    rw [if_neg (by omega), if_neg (by omega), if_pos (by omega)] at h
    simp only [decide_eq_true_eq] at h
    omega
theorem may_ok (P : Prg) (h : mayP P = none) (hn : ∀ m ∈ P.mets, ∀ x ∈ m.code, I64 x.n) : okP P := by
  unfold mayP at h
  split at h
  · cases h
  · rename_i h0
    split at h
    · cases h
    · rename_i hcs
      have hC : ∀ c ∈ P.cls, okS 10 c := fun c hc => by
        have := mayCs_none _ _ hcs c hc
        unfold mayC at this
        split at this
        · cases this
        · split at this
          · exact ⟨by omega, by assumption⟩
          · cases this
      refine ⟨⟨by omega, hC⟩, by omega, fun m hm => ?_⟩
      obtain ⟨j, hj⟩ := mayMs_none P _ _ h m hm
      unfold mayM at hj
      split at hj
      · cases hj
      · rename_i hH
        unfold mayH at hH
        split at hH
        · cases hH
        · rename_i h1
          split at hH
          · rename_i h2
            simp only [Bool.and_eq_true] at h2
            refine ⟨⟨⟨by omega, h2.1.1.1⟩, ⟨by omega, h2.1.1.2⟩⟩, h2.1.2, by omega, fun x hx => ?_⟩
            have hI := mayIs_none P m j _ _ hj x hx
            unfold mayI at hI
            split at hI
            · cases hI
            · split at hI
              · cases hI
              · rename_i h4 h5
                split at hI
                · rename_i h6
                  rw [Bool.and_eq_true] at h6
                  obtain ⟨j1, j2⟩ := there_small P m x (by omega) (by omega) (fun c hc => (hC c hc).1) (by omega) (by omega) (by omega) h5 h6.1
                  have h7 := h6.2
                  unfold idleI at h7
                  simp only [Bool.and_eq_true, Bool.or_eq_true, beq_iff_eq] at h7
                  refine ⟨by omega, ?_, ?_, ?_⟩
                  · split
                    · rename_i hx; have := j1 hx; omega
                    · rename_i hx; exact h7.1.1.resolve_left hx
                  · split
                    · rename_i hx; have := j2 hx; omega
                    · rename_i hx; exact h7.1.2.resolve_left hx
                  · split
                    · exact hn m hm x hx
                    · rename_i hx; exact h7.2.resolve_left hx
                · cases hI
          · cases hH
end Go.Proofs.YtnojejplckhifaaDoor

/- Plain: a program of constants: it may be, and so many are its bytes. -/
namespace Go.Proofs.YtnojejplckhifaaDoor
open Go.RowKit
set_option linter.unusedVariables false

def cI (n : Int) : Ins := ⟨1, 0, 0, n⟩
def retI : Ins := ⟨33, 0, 0, 0⟩
def conM (z : List Int) : Met := ⟨[], [], [], z.map cI ++ [retI]⟩
def conP (z : List Int) : Prg := ⟨[], [conM z]⟩
/-- so many bytes for the constants -/
def conN : List Int → Nat
  | [] => 0
  | n :: z => 1 + (enc (zig n).toNat).length + conN z
theorem conN_snoc (z : List Int) (n : Int) : conN (z ++ [n]) = conN z + 1 + (enc (zig n).toNat).length := by
  induction z with
  | nil => simp [conN]
  | cons x z ih => simp [conN, ih]; omega
theorem conN_le (z : List Int) : conN z ≤ 11 * z.length := by
  induction z with
  | nil => simp [conN]
  | cons x z ih => have := enc_len (zig x).toNat; simp [conN]; omega
theorem mayIs_all (P : Prg) (m : Met) (i : Nat) : ∀ (l : List Ins) (pc : Nat), (∀ x ∈ l, mayI P m x = none) → mayIs P m i pc l = none
  | [], _, _ => rfl
  | x :: r, pc, h => by
    rw [mayIs, h x (by simp)]
    exact mayIs_all P m i r (pc + 1) (fun y hy => h y (by simp [hy]))
theorem may_cI (P : Prg) (m : Met) (n : Int) : mayI P m (cI n) = none := by
  simp [mayI, cI, thereI, idleI, hasA, hasB]
theorem may_retI (P : Prg) (m : Met) : mayI P m retI = none := by
  simp [mayI, retI, thereI, idleI, hasA, hasB]
theorem con_mayH (z : List Int) (h : z.length ≤ 40) : mayH (conM z) true = none := by
  unfold mayH conM
  rw [if_neg (by simp; omega)]
  simp [lettersB, retB]
theorem con_may (z : List Int) (h : z.length ≤ 40) : mayP (conP z) = none := by
  unfold mayP conP
  rw [if_neg (by simp)]
  simp only [mayCs, mayMs]
  have e : mayM ⟨[], [conM z]⟩ 0 (conM z) = none := by
    unfold mayM
    rw [show ((0 : Nat) == 0) = true from rfl, con_mayH z h]
    refine mayIs_all _ _ _ _ _ (fun x hx => ?_)
    simp only [conM, List.mem_append, List.mem_map, List.mem_singleton] at hx
    rcases hx with ⟨n, _, rfl⟩ | rfl
    · exact may_cI _ _ n
    · exact may_retI _ _
  rw [e]
theorem enc_one (n : Nat) (h : n < 128) : enc n = [n] := encF_low 9 n h
theorem con_flat (z : List Int) : ((z.map cI).flatMap encI).length = conN z := by
  induction z with
  | nil => rfl
  | cons n z ih =>
    rw [List.map_cons, List.flatMap_cons, List.length_append, ih, conN]
    have : (encI (cI n)).length = 1 + (enc (zig n).toNat).length := by
      unfold encI cI
      simp [hasA, hasB]
      omega
    omega
theorem con_len (z : List Int) (h : z.length ≤ 40) : (encP (conP z)).length = 9 + conN z + 1 := by
  have e0 : enc (0 : Nat) = [0] := enc_one 0 (by decide)
  have e1 : enc (1 : Nat) = [1] := enc_one 1 (by decide)
  have e2 : enc (z.length + 1) = [z.length + 1] := enc_one _ (by omega)
  have e3 : (encI retI).length = 1 := by unfold encI retI; simp [hasA, hasB]
  have e4 := con_flat z
  unfold encP conP encM conM encS encR
  simp [e0, e1, e2, nats, e3] at e4 ⊢
  omega
theorem con_ok (z : List Int) (h : z.length ≤ 40) (hz : ∀ n ∈ z, I64 n) : okP (conP z) := may_ok _ (con_may z h) (by
  intro m hm x hx
  obtain rfl := List.mem_singleton.1 hm
  simp only [conM, List.mem_append, List.mem_map, List.mem_singleton] at hx
  rcases hx with ⟨n, hn, rfl⟩ | rfl
  · exact hz n hn
  · show I64 0; unfold I64; omega)
theorem con_dec (z : List Int) (h : z.length ≤ 40) (hz : ∀ n ∈ z, I64 n) : decP (encP (conP z)) = (some (conP z), none) :=
  dec_enc _ (con_ok z h hz) (con_may z h) (by rw [con_len z h]; have := conN_le z; omega)
/-! ### bytes are bytes -/
theorem encS_lt (s : List UInt8) : ∀ c ∈ encS s, c < 256 := by
  intro c hc
  unfold encS at hc
  rcases List.mem_append.1 hc with h | h
  · exact enc_byte _ c h
  · exact nats_lt s c h
theorem encR_lt (s : List UInt8) : ∀ c ∈ encR s, c < 256 := by
  intro c hc
  unfold encR at hc
  split at hc
  · obtain rfl := List.mem_singleton.1 hc; decide
  · exact nats_lt s c hc
theorem encI_lt (x : Ins) (h : x.op.toNat < 256) : ∀ c ∈ encI x, c < 256 := by
  intro c hc
  unfold encI at hc
  rcases List.mem_cons.1 hc with rfl | hc
  · exact h
  · rcases List.mem_append.1 hc with hc | hc
    · split at hc
      · exact enc_byte _ c hc
      · cases hc
    · rcases List.mem_append.1 hc with hc | hc
      · split at hc
        · exact enc_byte _ c hc
        · cases hc
      · split at hc
        · exact enc_byte _ c hc
        · cases hc
theorem encM_lt (m : Met) (h : ∀ x ∈ m.code, x.op.toNat < 256) : ∀ c ∈ encM m, c < 256 := by
  intro c hc
  unfold encM at hc
  rcases List.mem_append.1 hc with hc | hc
  · exact encS_lt _ c hc
  · rcases List.mem_append.1 hc with hc | hc
    · exact encS_lt _ c hc
    · rcases List.mem_append.1 hc with hc | hc
      · exact encR_lt _ c hc
      · rcases List.mem_append.1 hc with hc | hc
        · exact enc_byte _ c hc
        · obtain ⟨x, hx, hcx⟩ := List.mem_flatMap.1 hc
          exact encI_lt x (h x hx) c hcx
theorem encP_lt (P : Prg) (h : okP P) : ∀ c ∈ encP P, c < 256 := by
  intro c hc
  unfold encP at hc
  rcases List.mem_append.1 hc with hc | hc
  · simp at hc; omega
  · rcases List.mem_append.1 hc with hc | hc
    · exact enc_byte _ c hc
    · rcases List.mem_append.1 hc with hc | hc
      · obtain ⟨x, hx, hcx⟩ := List.mem_flatMap.1 hc
        exact encS_lt x c hcx
      · rcases List.mem_append.1 hc with hc | hc
        · exact enc_byte _ c hc
        · obtain ⟨m, hm, hcm⟩ := List.mem_flatMap.1 hc
          refine encM_lt m (fun x hx => ?_) c hcm
          have := ((h.2.2 m hm).2.2.2 x hx).1
          omega
end Go.Proofs.YtnojejplckhifaaDoor

/- Plain: which errors the reading of bytes has, and what becomes of bytes that do not begin as a program. -/
namespace Go.Proofs.YtnojejplckhifaaDoor
open Go.RowKit
set_option linter.unusedVariables false

/-- the byte that stands there in the beginning -/
def hq : Nat → Nat
  | 0 => 79
  | 1 => 68
  | _ => 1
theorem failR_stay (s : RS) (k p : Nat) (h : s.err ≠ none) : failR s k p = s := by
  unfold failR
  split
  · rfl
  · rename_i h'; exact absurd h' h
theorem progR_head (l : List Nat) (e : Nat × Nat) (h : (headR l).err = some e) : (progR l).2.err = some e := by
  have e1 : (mapR progB prgV l ⟨0, none⟩).2 = (pR4 l (headR l)).2 := by
    unfold mapR progB pR2 pR3 bindR headR
    dsimp only
  have hne : (headR l).err ≠ none := by rw [h]; simp
  have e2 : (pR4 l (headR l)).2 = headR l := rd_p4.stay l _ hne
  rw [progR_eq]
  dsimp only
  rw [e1, e2]
  split
  · rw [failR_stay _ _ _ hne]; exact h
  · exact h
theorem dec_head (l : List Nat) (e : Nat × Nat) (h : (headR l).err = some e) (hl : l.length ≤ 16384) : decP l = (none, some (e.1, [(e.2 : Int)])) := by
  unfold decP
  rw [if_neg (by omega), progR_head l e h]
theorem head_end (l : List Nat) (i : Nat) (hi : i < 3) (hm : ∀ j, j < i → l[j]? = some (hq j)) (hl : l.length = i) : (headR l).err = some (5, i) := by
  rcases i with _ | _ | _ | i
  · obtain rfl := List.eq_nil_of_length_eq_zero hl
    rfl
  · match l, hl with
    | [a], _ =>
      have h0 := hm 0 (by decide)
      obtain rfl : a = 79 := by simpa [hq] using h0
      rfl
  · match l, hl with
    | [a, b], _ =>
      have h0 := hm 0 (by decide)
      have h1 := hm 1 (by decide)
      obtain rfl : a = 79 := by simpa [hq] using h0
      obtain rfl : b = 68 := by simpa [hq] using h1
      rfl
  · omega
theorem head_bad (l : List Nat) (i : Nat) (hi : i < 3) (hm : ∀ j, j < i → l[j]? = some (hq j)) (c : Nat) (hc : l[i]? = some c) (hne : c ≠ hq i) : (headR l).err = some (6, i) := by
  rcases i with _ | _ | _ | i
  · match l, hc with
    | a :: r, hc =>
      obtain rfl : a = c := by simpa using hc
      have : mIs 79 a = false := by simp [mIs]; exact hne
      simp [headR, byteR, this]
  · match l, hc with
    | a :: b :: r, hc =>
      obtain rfl : b = c := by simpa using hc
      have h0 := hm 0 (by decide)
      obtain rfl : a = 79 := by simpa [hq] using h0
      have : mIs 68 b = false := by simp [mIs]; exact hne
      have h2 : mIs 79 79 = true := by decide
      simp [headR, byteR, this, h2]
  · match l, hc with
    | a :: b :: d :: r, hc =>
      obtain rfl : d = c := by simpa using hc
      have h0 := hm 0 (by decide)
      have h1 := hm 1 (by decide)
      obtain rfl : a = 79 := by simpa [hq] using h0
      obtain rfl : b = 68 := by simpa [hq] using h1
      have : mIs 1 d = false := by simp [mIs]; exact hne
      have h2 : mIs 79 79 = true := by decide
      have h3 : mIs 68 68 = true := by decide
      simp [headR, byteR, this, h2, h3]
  · omega
/-! ### the errors' numbers -/
def EOk (s : RS) : Prop := ∀ e, s.err = some e → e.1 = 5 ∨ e.1 = 6
theorem eok_none (a : Nat) : EOk ⟨a, none⟩ := fun e h => by cases h
theorem eok_fail {s : RS} (p : Nat) (h : EOk s) : EOk (failR s 6 p) := by
  unfold failR
  split
  · exact h
  · intro e he; cases he; exact .inr rfl
theorem eok_byte (l : List Nat) (m : Nat → Bool) (s : RS) (h : EOk s) : EOk (byteR l m s).2 := by
  unfold byteR
  split
  · exact h
  · split
    · intro e he; cases he; exact .inl rfl
    · split
      · exact eok_none _
      · intro e he; cases he; exact .inr rfl
theorem eok_whole (l : List Nat) (s : RS) (h : EOk s) : EOk (wholeR l s).2 := by
  unfold wholeR
  split
  · exact h
  · split
    · exact eok_none _
    · intro e he
      dsimp only at he
      split at he <;> cases he
      · exact .inl rfl
      · exact .inr rfl
theorem eok_number (l : List Nat) (a b : Nat) (s : RS) (h : EOk s) : EOk (numberR l a b s).2 := by
  unfold numberR
  split
  · exact eok_fail _ (eok_whole l s h)
  · exact eok_whole l s h
theorem eok_times {α : Type} (f : RS → α × RS) (hf : ∀ s, EOk s → EOk (f s).2) (k : Nat) (s : RS) (h : EOk s) : EOk (timesR f k s).2 := by
  induction k with
  | zero => exact h
  | succ k ih => rw [timesR]; exact hf _ ih
theorem eok_letters (l : List Nat) (m : Nat) (s : RS) (h : EOk s) : EOk (lettersR l m s).2 := eok_times _ (fun s hs => eok_byte l mIR s hs) _ _ (eok_number l 0 m s h)
theorem eok_instr (l : List Nat) (s : RS) (h : EOk s) : EOk (instrR l s).2 := by
  have h0 := eok_byte l mOp s h
  have h1 : EOk (insA l (byteR l mOp s).1 (byteR l mOp s).2).2 := by
    unfold insA; split
    · exact eok_number _ _ _ _ h0
    · exact h0
  have h2 : EOk (insB l (byteR l mOp s).1 (insA l (byteR l mOp s).1 (byteR l mOp s).2).2).2 := by
    unfold insB; split
    · exact eok_number _ _ _ _ h1
    · exact h1
  unfold instrR
  dsimp only
  unfold insN
  split
  · exact eok_whole _ _ h2
  · exact h2
theorem eok_method (l : List Nat) (s : RS) (h : EOk s) : EOk (methodR l s).2 := by
  unfold methodR
  dsimp only
  exact eok_times _ (fun s hs => eok_instr l s hs) _ _ (eok_number _ _ _ _ (eok_byte _ _ _ (eok_letters _ _ _ (eok_letters _ _ _ h))))
theorem eok_prog (l : List Nat) : EOk (progR l).2 := by
  have h0 : EOk (headR l) := eok_byte _ _ _ (eok_byte _ _ _ (eok_byte _ _ _ (eok_none 0)))
  have h4 : EOk (timesR (methodR l) (numberR l 1 12 (timesR (classR l) (numberR l 0 12 (headR l)).1 (numberR l 0 12 (headR l)).2).2).1 (numberR l 1 12 (timesR (classR l) (numberR l 0 12 (headR l)).1 (numberR l 0 12 (headR l)).2).2).2).2 :=
    eok_times _ (fun s hs => eok_method l s hs) _ _ (eok_number _ _ _ _ (eok_times (classR l) (fun s hs => eok_letters l 10 s hs) _ _ (eok_number _ _ _ _ h0)))
  unfold progR
  dsimp only
  split
  · exact eok_fail _ h4
  · exact h4
/-- an error of prog.May: bare, or with two places -/
def MOk (o : Option (Nat × List Int)) : Prop := ∀ f, o = some f → f.1 < 4 ∧ ((f.1 = 0 ∧ f.2 = []) ∨ f.2.length = 2)
theorem mayC_lt (c : List UInt8) (k : Nat) (h : mayC c = some k) : k < 4 := by
  unfold mayC at h
  split at h
  · cases h; decide
  · split at h
    · cases h
    · cases h; decide
theorem mayI_lt (P : Prg) (m : Met) (x : Ins) (k : Nat) (h : mayI P m x = some k) : k < 4 := by
  unfold mayI at h
  split at h
  · cases h; decide
  · split at h
    · cases h; decide
    · split at h
      · cases h
      · cases h; decide
theorem mayH_lt (m : Met) (b : Bool) (k : Nat) (h : mayH m b = some k) : k < 4 := by
  unfold mayH at h
  split at h
  · cases h; decide
  · split at h
    · cases h
    · cases h; decide
theorem mok_two (k : Nat) (a b : Int) (h : k < 4) : MOk (some (k, [a, b])) := fun f hf => by cases hf; exact ⟨h, .inr rfl⟩
theorem mok_none : MOk none := fun f hf => by cases hf
theorem mok_cs : ∀ (l : List (List UInt8)) (i : Nat), MOk (mayCs i l)
  | [], _ => mok_none
  | c :: r, i => by
    rw [mayCs]
    split
    · rename_i k hk; exact mok_two _ _ _ (mayC_lt c k hk)
    · exact mok_cs r (i + 1)
theorem mok_is (P : Prg) (m : Met) (i : Nat) : ∀ (l : List Ins) (pc : Nat), MOk (mayIs P m i pc l)
  | [], _ => mok_none
  | x :: r, pc => by
    rw [mayIs]
    split
    · rename_i k hk; exact mok_two _ _ _ (mayI_lt P m x k hk)
    · exact mok_is P m i r (pc + 1)
theorem mok_m (P : Prg) (i : Nat) (m : Met) : MOk (mayM P i m) := by
  unfold mayM
  split
  · rename_i k hk; exact mok_two _ _ _ (mayH_lt m _ k hk)
  · exact mok_is P m i _ _
theorem mok_ms (P : Prg) : ∀ (l : List Met) (i : Nat), MOk (mayMs P i l)
  | [], _ => mok_none
  | m :: r, i => by
    rw [mayMs]
    split
    · rename_i f hf; rw [← hf]; exact mok_m P i m
    · exact mok_ms P r (i + 1)
theorem may_err (P : Prg) : MOk (mayP P) := by
  unfold mayP
  split
  · intro f hf; cases hf; exact ⟨by decide, .inl ⟨rfl, rfl⟩⟩
  · split
    · rename_i f hf; rw [← hf]; exact mok_cs _ _
    · exact mok_ms P _ _
theorem dec_err (l : List Nat) (f : Nat × List Int) (h : (decP l).2 = some f) : f.1 < 14 ∧ ((f.1 = 0 ∧ f.2 = []) ∨ 1 ≤ f.2.length) := by
  unfold decP at h
  split at h
  · cases h; exact ⟨by decide, .inl ⟨rfl, rfl⟩⟩
  · split at h
    · rename_i e he
      cases h
      have := eok_prog l e he
      exact ⟨by omega, .inr (by simp)⟩
    · split at h
      · rename_i g hg
        cases h
        obtain ⟨h1, h2 | h2⟩ := may_err _ _ hg
        · exact ⟨by omega, .inl h2⟩
        · exact ⟨by omega, .inr (by omega)⟩
      · cases h
/-- either a program or an error -/
theorem dec_cases (l : List Nat) : (∃ P, decP l = (some P, none)) ∨ ∃ f, decP l = (none, some f) := by
  unfold decP
  split
  · exact .inr ⟨_, rfl⟩
  · split
    · exact .inr ⟨_, rfl⟩
    · split
      · exact .inr ⟨_, rfl⟩
      · exact .inl ⟨_, rfl⟩
end Go.Proofs.YtnojejplckhifaaDoor
