/- Plain facts on Zig, Zag and the sizes of numbers. No program here. -/
import Derived.Test.YtnojejplckhifaaDoorBits
namespace Go.Proofs.YtnojejplckhifaaDoor
open Go.RowKit

def zig (n : Int) : Int := bits BinOp.xor IntKind.u64 (IntKind.u64.wrap (IntKind.u64.wrap n * 2)) (IntKind.u64.wrap (n / 9223372036854775808))
def zag (n : Int) : Int := bits BinOp.xor IntKind.i64 (wrap64 (n / 2)) (wrap64 (-wrap64 (bits BinOp.and IntKind.u64 n 1)))

theorem nat_xor_ones (a : Nat) (h : a < 18446744073709551616) : a ^^^ 18446744073709551615 = 18446744073709551615 - a := by
  have e : (BitVec.ofNat 64 a ^^^ BitVec.allOnes 64).toNat = a ^^^ 18446744073709551615 := by
    rw [BitVec.toNat_xor, BitVec.toNat_ofNat, Nat.mod_eq_of_lt h]; rfl
  rw [← e, BitVec.xor_allOnes, BitVec.toNat_not, BitVec.toNat_ofNat, Nat.mod_eq_of_lt h]
theorem zig_pos (n : Int) (h : I64 n) (h0 : 0 ≤ n) : zig n = 2 * n := by
  unfold zig I64 at *
  obtain ⟨k, rfl⟩ := Int.eq_ofNat_of_zero_le h0
  have e1 : IntKind.u64.wrap (IntKind.u64.wrap (k : Int) * 2) = ((2 * k : Nat) : Int) := by rw [IntKind.wrap_u64, IntKind.wrap_u64]; omega
  have e2 : IntKind.u64.wrap ((k : Int) / 9223372036854775808) = ((0 : Nat) : Int) := by rw [IntKind.wrap_u64]; omega
  rw [e1, e2, bits_xor_u64_nat _ _ (by omega) (by decide), Nat.xor_zero]
  omega
theorem zig_neg (n : Int) (h : I64 n) (h0 : n < 0) : zig n = -2 * n - 1 := by
  unfold zig I64 at *
  obtain ⟨k, hk⟩ : ∃ k : Nat, n = -(k : Int) - 1 := ⟨(-n - 1).toNat, by omega⟩
  subst hk
  have e1 : IntKind.u64.wrap (IntKind.u64.wrap (-(k : Int) - 1) * 2) = ((18446744073709551614 - 2 * k : Nat) : Int) := by rw [IntKind.wrap_u64, IntKind.wrap_u64]; omega
  have e2 : IntKind.u64.wrap ((-(k : Int) - 1) / 9223372036854775808) = ((18446744073709551615 : Nat) : Int) := by rw [IntKind.wrap_u64]; omega
  rw [e1, e2, bits_xor_u64_nat _ _ (by omega) (by decide), nat_xor_ones _ (by omega)]
  omega
theorem zag_even (u : Nat) (h : U64 u) (h0 : u % 2 = 0) : zag u = u / 2 := by
  unfold zag U64 at *
  have e1 : bits BinOp.and IntKind.u64 (u : Int) 1 = 0 := by
    have := u64_and_nat u 1 h (by decide)
    rw [show (1 : Int) = ((1 : Nat) : Int) from rfl, this, nat_mask1, h0]; rfl
  have e2 : wrap64 ((u : Int) / 2) = (u : Int) / 2 := w_in (by unfold I64; omega)
  rw [e1, e2, show wrap64 (-wrap64 0) = 0 by decide +kernel, bits_xor, show BitVec.ofInt 64 0 = 0#64 from rfl, BitVec.xor_zero, toInt_in (by unfold I64; omega)]
theorem not_ofInt (a : Int) : ~~~(BitVec.ofInt 64 a) = BitVec.ofInt 64 (-a - 1) := by
  apply BitVec.eq_of_toNat_eq
  rw [BitVec.toNat_not, BitVec.toNat_ofInt, BitVec.toNat_ofInt]
  omega
theorem zag_odd (u : Nat) (h : U64 u) (h0 : u % 2 = 1) : zag u = -(u / 2) - 1 := by
  unfold zag U64 at *
  have e1 : bits BinOp.and IntKind.u64 (u : Int) 1 = 1 := by
    have := u64_and_nat u 1 h (by decide)
    rw [show (1 : Int) = ((1 : Nat) : Int) from rfl, this, nat_mask1, h0]
  have e2 : wrap64 ((u : Int) / 2) = (u : Int) / 2 := w_in (by unfold I64; omega)
  rw [e1, e2, show wrap64 (-wrap64 1) = -1 by decide +kernel, bits_xor, show BitVec.ofInt 64 (-1) = BitVec.allOnes 64 from by decide +kernel, BitVec.xor_allOnes, not_ofInt, toInt_in (by unfold I64; omega)]
theorem zig_u64 (n : Int) (h : I64 n) : 0 ≤ zig n ∧ U64 (zig n).toNat := by
  by_cases h0 : 0 ≤ n
  · rw [zig_pos n h h0]; unfold I64 U64 at *; omega
  · rw [zig_neg n h (by omega)]; unfold I64 U64 at *; omega
theorem zag_zig (n : Int) (h : I64 n) : zag (zig n) = n := by
  by_cases h0 : 0 ≤ n
  · obtain ⟨k, rfl⟩ := Int.eq_ofNat_of_zero_le h0
    rw [zig_pos _ h h0, show (2 : Int) * (k : Int) = ((2 * k : Nat) : Int) by omega, zag_even _ (by unfold I64 U64 at *; omega) (by omega)]
    omega
  · obtain ⟨k, hk⟩ : ∃ k : Nat, n = -(k : Int) - 1 := ⟨(-n - 1).toNat, by omega⟩
    subst hk
    rw [zig_neg _ h (by omega), show (-2 : Int) * (-(k : Int) - 1) - 1 = ((2 * k + 1 : Nat) : Int) by omega, zag_odd _ (by unfold I64 U64 at *; omega) (by omega)]
    omega
theorem zig_zag (u : Nat) (h : U64 u) : zig (zag u) = u := by
  by_cases h0 : u % 2 = 0
  · rw [zag_even u h h0, zig_pos _ (by unfold I64 U64 at *; omega) (by omega)]; omega
  · rw [zag_odd u h (by omega), zig_neg _ (by unfold I64 U64 at *; omega) (by omega)]; omega

/-! ### sizes -/
theorem encF_size (f x : Nat) : (encF (f + 1) x).length = 1 + (if x / 128 = 0 then 0 else (encF f (x / 128)).length) := by
  by_cases h : x < 128
  · rw [encF_low _ _ h, if_pos (by omega)]; rfl
  · rw [encF_more _ _ h, if_neg (by omega)]; simp; omega
theorem encF_mono (f : Nat) : ∀ u v : Nat, u ≤ v → v < 128 ^ f → (encF f u).length ≤ (encF f v).length := by
  induction f with
  | zero => intro u v _ _; simp [encF]
  | succ f ih =>
    intro u v h hv
    by_cases h1 : v < 128
    · rw [encF_low _ _ h1, encF_low _ _ (by omega)]; simp
    · by_cases h2 : u < 128
      · have := encF_pos f v; rw [encF_low _ _ h2]; simp; omega
      · rw [encF_more _ _ h1, encF_more _ _ h2]
        have := ih (u / 128) (v / 128) (Nat.div_le_div_right h) (pow128_div hv)
        simp; exact this
theorem enc_mono (u v : Nat) (h : u ≤ v) (hv : U64 v) : (enc u).length ≤ (enc v).length :=
  encF_mono 10 u v h (Nat.lt_of_lt_of_le hv (by decide))
/-- the greater of an integer and what it is below -1 -/
theorem near_in (n : Int) (h : I64 n) : (if n < wrap64 (-wrap64 (n + 1)) then wrap64 (-wrap64 (n + 1)) else n) = if 0 ≤ n then n else -(n + 1) := by
  unfold I64 at h
  by_cases hm : n = 9223372036854775807
  · subst hm; decide +kernel
  · have e1 : wrap64 (n + 1) = n + 1 := w_in (by unfold I64; omega)
    have e2 : wrap64 (-(n + 1)) = -(n + 1) := w_in (by unfold I64; omega)
    rw [e1, e2]; split <;> split <;> omega
theorem near_le (n : Int) (h : I64 n) : zig n ≤ IntKind.u64.wrap (IntKind.u64.wrap (2 * IntKind.u64.wrap (if n < wrap64 (-wrap64 (n + 1)) then wrap64 (-wrap64 (n + 1)) else n)) + 1) := by
  rw [near_in n h, IntKind.wrap_u64, IntKind.wrap_u64, IntKind.wrap_u64]
  by_cases h0 : 0 ≤ n
  · rw [if_pos h0, zig_pos n h h0]; unfold I64 at h; omega
  · rw [if_neg h0, zig_neg n h (by omega)]; unfold I64 at h; omega
theorem zig_odd (n : Int) (h : I64 n) : bits BinOp.and IntKind.u64 (zig n) 1 = IntKind.u64.wrap (tv 19 n 0) := by
  obtain ⟨h1, h2⟩ := zig_u64 n h
  obtain ⟨k, hk⟩ := Int.eq_ofNat_of_zero_le h1
  rw [hk] at h2 ⊢
  have := u64_and_nat k 1 (by simpa [U64] using h2) (by decide)
  rw [show (1 : Int) = ((1 : Nat) : Int) from rfl, this, nat_mask1, IntKind.wrap_u64, tv19]
  by_cases h0 : 0 ≤ n
  · rw [zig_pos n h h0] at hk; rw [if_neg (by omega)]; omega
  · rw [zig_neg n h (by omega)] at hk; rw [if_pos (by omega)]; omega
theorem nats_u64 (z : List Int) : (∀ x ∈ z, (Lit.int .u64 x).wf = true) → ∃ l : List Nat, z.map (Value.int .u64) = l.map (fun n : Nat => Value.int .u64 (n : Int)) ∧ l.length = z.length ∧ ∀ x ∈ l, U64 x := by
  induction z with
  | nil => intro _; exact ⟨[], rfl, rfl, by simp⟩
  | cons a z ih =>
    intro h
    obtain ⟨l, h1, h2, h3⟩ := ih (fun x hx => h x (by simp [hx]))
    have ha := h a (by simp)
    simp [Lit.wf, IntKind.min, IntKind.max, IntKind.signed, IntKind.bits] at ha
    obtain ⟨k, rfl⟩ := Int.eq_ofNat_of_zero_le ha.1
    exact ⟨k :: l, by simp [h1], by simp [h2], by intro x hx; rcases List.mem_cons.1 hx with rfl | hx; exact (by unfold U64; omega); exact h3 x hx⟩
theorem nats_u8 (z : List Int) : (∀ x ∈ z, (Lit.int .u8 x).wf = true) → ∃ l : List Nat, z.map (Value.int .u8) = l.map bv ∧ l.length = z.length ∧ ∀ x ∈ l, x < 256 := by
  induction z with
  | nil => intro _; exact ⟨[], rfl, rfl, by simp⟩
  | cons a z ih =>
    intro h
    obtain ⟨l, h1, h2, h3⟩ := ih (fun x hx => h x (by simp [hx]))
    have ha := h a (by simp)
    simp [Lit.wf, IntKind.min, IntKind.max, IntKind.signed, IntKind.bits] at ha
    obtain ⟨k, rfl⟩ := Int.eq_ofNat_of_zero_le ha.1
    exact ⟨k :: l, by simp [h1, bv], by simp [h2], by intro x hx; rcases List.mem_cons.1 hx with rfl | hx; exact (by omega); exact h3 x hx⟩
theorem u64_wf {n : Int} (h : (Lit.int .u64 n).wf = true) : ∃ k : Nat, n = k ∧ U64 k := by
  simp [Lit.wf, IntKind.min, IntKind.max, IntKind.signed, IntKind.bits] at h
  exact ⟨n.toNat, by omega, by unfold U64; omega⟩
end Go.Proofs.YtnojejplckhifaaDoor
