/- Plain: how many ones a word has, byte by byte. -/
import Derived.Test.YtcaoeoggabbekaaDoorRows
namespace Go.Proofs.YtcaoeoggabbekaaDoor

theorem land_split (a b c d : Nat) (hb : b < 256) (hd : d < 256) : (a * 256 + b) &&& (c * 256 + d) = (a &&& c) * 256 + (b &&& d) := by
  have hbd : b &&& d < 2 ^ 8 := Nat.lt_of_le_of_lt Nat.and_le_left hb
  have hb' : b < 2 ^ 8 := hb
  have hd' : d < 2 ^ 8 := hd
  rw [Nat.mul_comm a, Nat.mul_comm c, Nat.mul_comm (a &&& c), show (256 : Nat) = 2 ^ 8 from rfl]
  apply Nat.eq_of_testBit_eq
  intro i
  rw [Nat.testBit_and, Nat.testBit_two_pow_mul_add a hb', Nat.testBit_two_pow_mul_add c hd', Nat.testBit_two_pow_mul_add (a &&& c) hbd]
  split <;> rw [Nat.testBit_and]
def ones : Nat → Nat → Nat
  | 0, _ => 0
  | k + 1, x => x % 2 + ones k (x / 2)
/-- a byte's mask, k times -/
def msk (c : Nat) : Nat → Nat
  | 0 => 0
  | k + 1 => msk c k * 256 + c
/-- a function of bytes, byte by byte -/
def byt (f : Nat → Nat) : Nat → Nat → Nat
  | 0, _ => 0
  | k + 1, x => byt f k (x / 256) * 256 + f (x % 256)
theorem split256 (x : Nat) : x = x / 256 * 256 + x % 256 := by omega
def f1 (b : Nat) : Nat := (b / 2 &&& 85) + (b &&& 85)
theorem f1_cross : ∀ (b : Fin 256) (t : Fin 2), ((t.val * 128 + b.val / 2) &&& 85) = (b.val / 2 &&& 85) := by decide +kernel
theorem step1 : ∀ (k x : Nat), x < 256 ^ k → (x / 2 &&& msk 85 k) + (x &&& msk 85 k) = byt f1 k x
  | 0, x, h => by simp [msk, byt]
  | k + 1, x, h => by
    have ha : x / 256 < 256 ^ k := by rw [Nat.pow_succ] at h; omega
    have ih := step1 k (x / 256) ha
    have hb : x % 256 < 256 := Nat.mod_lt _ (by decide)
    have e2 : x / 2 = x / 256 / 2 * 256 + (x / 256 % 2 * 128 + x % 256 / 2) := by omega
    have hlo : x / 256 % 2 * 128 + x % 256 / 2 < 256 := by omega
    have hc := f1_cross ⟨x % 256, hb⟩ ⟨x / 256 % 2, Nat.mod_lt _ (by decide)⟩
    dsimp only at hc
    have l1 : x / 2 &&& msk 85 (k + 1) = (x / 256 / 2 &&& msk 85 k) * 256 + (x % 256 / 2 &&& 85) := by
      rw [msk, e2, land_split _ _ _ _ hlo (by decide), hc]
    have l2 : x &&& msk 85 (k + 1) = (x / 256 &&& msk 85 k) * 256 + (x % 256 &&& 85) := by
      conv => lhs; lhs; rw [split256 x]
      rw [msk, land_split _ _ _ _ hb (by decide)]
    rw [l1, l2, byt, ← ih]
    unfold f1
    omega
theorem byt_lt {f : Nat → Nat} (hf : ∀ b, b < 256 → f b < 256) : ∀ (k x : Nat), byt f k x < 256 ^ k
  | 0, x => by simp [byt]
  | k + 1, x => by
    have h1 := byt_lt hf k (x / 256)
    have h2 := hf (x % 256) (Nat.mod_lt _ (by decide))
    rw [byt, Nat.pow_succ]
    omega
theorem byt_comp {f g : Nat → Nat} (hf : ∀ b, b < 256 → f b < 256) : ∀ (k x : Nat), byt g k (byt f k x) = byt (fun b => g (f b)) k x
  | 0, x => rfl
  | k + 1, x => by
    have h2 := hf (x % 256) (Nat.mod_lt _ (by decide))
    rw [byt, byt, byt, ← byt_comp hf k (x / 256)]
    rw [show (byt f k (x / 256) * 256 + f (x % 256)) / 256 = byt f k (x / 256) by omega, show (byt f k (x / 256) * 256 + f (x % 256)) % 256 = f (x % 256) by omega]
def f2 (b : Nat) : Nat := (b / 4 &&& 51) + (b &&& 51)
theorem f2_cross : ∀ (b : Fin 256) (t : Fin 4), ((t.val * 64 + b.val / 4) &&& 51) = (b.val / 4 &&& 51) := by decide +kernel
theorem step2 : ∀ (k x : Nat), x < 256 ^ k → (x / 4 &&& msk 51 k) + (x &&& msk 51 k) = byt f2 k x
  | 0, x, h => by simp [msk, byt]
  | k + 1, x, h => by
    have ha : x / 256 < 256 ^ k := by rw [Nat.pow_succ] at h; omega
    have ih := step2 k (x / 256) ha
    have hb : x % 256 < 256 := Nat.mod_lt _ (by decide)
    have e2 : x / 4 = x / 256 / 4 * 256 + (x / 256 % 4 * 64 + x % 256 / 4) := by omega
    have hlo : x / 256 % 4 * 64 + x % 256 / 4 < 256 := by omega
    have hc := f2_cross ⟨x % 256, hb⟩ ⟨x / 256 % 4, Nat.mod_lt _ (by decide)⟩
    dsimp only at hc
    have l1 : x / 4 &&& msk 51 (k + 1) = (x / 256 / 4 &&& msk 51 k) * 256 + (x % 256 / 4 &&& 51) := by
      rw [msk, e2, land_split _ _ _ _ hlo (by decide), hc]
    have l2 : x &&& msk 51 (k + 1) = (x / 256 &&& msk 51 k) * 256 + (x % 256 &&& 51) := by
      conv => lhs; lhs; rw [split256 x]
      rw [msk, land_split _ _ _ _ hb (by decide)]
    rw [l1, l2, byt, ← ih]
    unfold f2
    omega
def good : Nat → Nat → Prop
  | 0, x => x = 0
  | k + 1, x => (x % 256 % 16 ≤ 4 ∧ x % 256 / 16 ≤ 4) ∧ good k (x / 256)
theorem good_low : ∀ (k x : Nat), good k x → x % 16 ≤ 4
  | 0, x, h => by unfold good at h; omega
  | k + 1, x, h => by have := h.1.1; omega
theorem good_byt {f : Nat → Nat} (hf : ∀ b, b < 256 → f b < 256 ∧ f b % 16 ≤ 4 ∧ f b / 16 ≤ 4) : ∀ (k x : Nat), good k (byt f k x)
  | 0, x => rfl
  | k + 1, x => by
    have h2 := hf (x % 256) (Nat.mod_lt _ (by decide))
    rw [byt, good, show (byt f k (x / 256) * 256 + f (x % 256)) / 256 = byt f k (x / 256) by omega, show (byt f k (x / 256) * 256 + f (x % 256)) % 256 = f (x % 256) by omega]
    exact ⟨h2.2, good_byt hf k (x / 256)⟩
def f3 (b : Nat) : Nat := (b / 16 + b) % 16
theorem land15 (n : Nat) : n &&& 15 = n % 16 := Nat.and_two_pow_sub_one_eq_mod n 4
theorem step3 : ∀ (k x : Nat), good k x → (x / 16 + x) &&& msk 15 k = byt f3 k x
  | 0, x, h => by simp [msk, byt]
  | k + 1, x, h => by
    have ih := step3 k (x / 256) h.2
    have hl := good_low k (x / 256) h.2
    have h1 := h.1
    have e : x / 16 + x = (x / 256 / 16 + x / 256) * 256 + (x / 256 % 16 * 16 + x % 256 / 16 + x % 256) := by omega
    rw [msk, e, land_split _ _ _ _ (by omega) (by decide), ih, byt, land15]
    unfold f3
    omega
theorem fin_f12 : ∀ b : Fin 256, f1 b.val < 256 ∧ f2 (f1 b.val) < 256 ∧ f2 (f1 b.val) % 16 ≤ 4 ∧ f2 (f1 b.val) / 16 ≤ 4 ∧ f3 (f2 (f1 b.val)) = ones 8 b.val := by decide +kernel
theorem ones_add : ∀ (a b x : Nat), ones (a + b) x = ones a (x % 2 ^ a) + ones b (x / 2 ^ a)
  | 0, b, x => by simp [ones]
  | a + 1, b, x => by
    rw [show a + 1 + b = (a + b) + 1 by omega, ones, ones, ones_add a b (x / 2)]
    have e1 : x % 2 ^ (a + 1) % 2 = x % 2 := by rw [Nat.pow_succ, Nat.mul_comm, Nat.mod_mul_right_mod]
    have e2 : x % 2 ^ (a + 1) / 2 = x / 2 % 2 ^ a := by rw [Nat.pow_succ, Nat.mul_comm, Nat.mod_mul_right_div_self]
    have e3 : x / 2 / 2 ^ a = x / 2 ^ (a + 1) := by rw [Nat.div_div_eq_div_mul, Nat.pow_succ, Nat.mul_comm]
    rw [e1, e2, e3]
    omega
/-- bytes, the low one first -/
def hv : List Nat → Nat
  | [] => 0
  | h :: r => hv r * 256 + h
theorem hv_tail (h : Nat) (r : List Nat) (b : h < 256) : hv (h :: r) / 256 = hv r := by rw [hv]; omega
def hadd : List Nat → List Nat → List Nat
  | [], l => l
  | l, [] => l
  | a :: l, b :: m => (a + b) :: hadd l m
theorem hv_add : ∀ l m, hv l + hv m = hv (hadd l m)
  | [], l => by simp [hv, hadd]
  | a :: l, [] => by simp [hv, hadd]
  | a :: l, b :: m => by rw [hadd, hv, hv, hv, ← hv_add l m]; omega
theorem sums (h0 h1 h2 h3 h4 h5 h6 h7 : Nat) (b0 : h0 ≤ 8) (b1 : h1 ≤ 8) (b2 : h2 ≤ 8) (b3 : h3 ≤ 8) (b4 : h4 ≤ 8) (b5 : h5 ≤ 8) (b6 : h6 ≤ 8) (b7 : h7 ≤ 8) (y z : Nat)
    (hy : y = hv [h0, h1, h2, h3, h4, h5, h6, h7]) (hz : z = (y + y / 256) + (y + y / 256) / 65536) : (z + z / 4294967296) % 128 = h0 + h1 + h2 + h3 + h4 + h5 + h6 + h7 := by
  have e1 : y / 256 = hv [h1, h2, h3, h4, h5, h6, h7] := by rw [hy]; exact hv_tail _ _ (by omega)
  have e2 : y + y / 256 = hv [h0 + h1, h1 + h2, h2 + h3, h3 + h4, h4 + h5, h5 + h6, h6 + h7, h7] := by rw [e1, hy, hv_add]; rfl
  have e3 : (y + y / 256) / 65536 = hv [h2 + h3, h3 + h4, h4 + h5, h5 + h6, h6 + h7, h7] := by
    rw [e2, show (65536 : Nat) = 256 * 256 from rfl, ← Nat.div_div_eq_div_mul, hv_tail _ _ (by omega), hv_tail _ _ (by omega)]
  have e4 : z = hv [h0 + h1 + (h2 + h3), h1 + h2 + (h3 + h4), h2 + h3 + (h4 + h5), h3 + h4 + (h5 + h6), h4 + h5 + (h6 + h7), h5 + h6 + h7, h6 + h7, h7] := by rw [hz, e3, e2, hv_add]; rfl
  have e5 : z / 4294967296 = hv [h4 + h5 + (h6 + h7), h5 + h6 + h7, h6 + h7, h7] := by
    rw [e4, show (4294967296 : Nat) = 256 * 256 * 256 * 256 from rfl, ← Nat.div_div_eq_div_mul, ← Nat.div_div_eq_div_mul, ← Nat.div_div_eq_div_mul, hv_tail _ _ (by omega), hv_tail _ _ (by omega), hv_tail _ _ (by omega), hv_tail _ _ (by omega)]
  rw [e5, e4, hv_add]
  clear e1 e2 e3 e4 e5 hz hy
  simp only [hadd]
  rw [hv]
  generalize hv _ = A
  omega
theorem byt_hv (f : Nat → Nat) : ∀ (k x : Nat), byt f k x = hv ((List.range k).map fun i => f (x / 256 ^ i % 256))
  | 0, x => rfl
  | k + 1, x => by
    rw [byt, byt_hv f k (x / 256), List.range_succ_eq_map, List.map_cons, hv, List.map_map]
    simp only [Nat.pow_zero, Nat.div_one]
    congr 2
    congr 1
    refine List.map_congr_left fun i _ => ?_
    simp only [Function.comp]
    rw [Nat.pow_succ, Nat.mul_comm, ← Nat.div_div_eq_div_mul]
theorem ones_bytes : ∀ (k x : Nat), ones (8 * k) x = ((List.range k).map fun i => ones 8 (x / 256 ^ i % 256)).foldr (· + ·) 0
  | 0, x => rfl
  | k + 1, x => by
    rw [show 8 * (k + 1) = 8 + 8 * k by omega, ones_add 8 (8 * k) x, ones_bytes k (x / 2 ^ 8), List.range_succ_eq_map, List.map_cons, List.map_map, List.foldr_cons]
    simp only [Nat.pow_zero, Nat.div_one]
    congr 2
    refine List.map_congr_left fun i _ => ?_
    simp only [Function.comp]
    rw [show (2 : Nat) ^ 8 = 256 from rfl, Nat.pow_succ, Nat.mul_comm, ← Nat.div_div_eq_div_mul]
theorem ones8_le (x : Nat) : ones 8 x ≤ 8 := by simp only [ones]; omega
/-- what the library's text reckons -/
def popc (x : Nat) : Nat :=
  let a := (x / 2 &&& msk 85 8) + (x &&& msk 85 8)
  let b := (a / 4 &&& msk 51 8) + (a &&& msk 51 8)
  let c := (b / 16 + b) &&& msk 15 8
  let d := c + c / 256
  let e := d + d / 65536
  (e + e / 4294967296) % 128
theorem popc_is (x : Nat) (hx : x < 256 ^ 8) : popc x = ones 64 x := by
  have k1 : ∀ b, b < 256 → f1 b < 256 := fun b hb => (fin_f12 ⟨b, hb⟩).1
  have k2 : ∀ b, b < 256 → f2 (f1 b) < 256 ∧ f2 (f1 b) % 16 ≤ 4 ∧ f2 (f1 b) / 16 ≤ 4 := fun b hb => ⟨(fin_f12 ⟨b, hb⟩).2.1, (fin_f12 ⟨b, hb⟩).2.2.1, (fin_f12 ⟨b, hb⟩).2.2.2.1⟩
  have k3 : ∀ b, b < 256 → f3 (f2 (f1 b)) = ones 8 b := fun b hb => (fin_f12 ⟨b, hb⟩).2.2.2.2
  have e1 := step1 8 x hx
  have e2 := step2 8 (byt f1 8 x) (byt_lt k1 8 x)
  rw [byt_comp k1] at e2
  have e3 := step3 8 (byt (fun b => f2 (f1 b)) 8 x) (good_byt k2 8 x)
  rw [byt_comp (fun b hb => (k2 b hb).1), byt_hv (fun b => f3 (f2 (f1 b)))] at e3
  unfold popc
  simp only [e1, e2, e3]
  have hl : ((List.range 8).map fun i => f3 (f2 (f1 (x / 256 ^ i % 256)))) = [ones 8 (x / 256 ^ 0 % 256), ones 8 (x / 256 ^ 1 % 256), ones 8 (x / 256 ^ 2 % 256), ones 8 (x / 256 ^ 3 % 256), ones 8 (x / 256 ^ 4 % 256), ones 8 (x / 256 ^ 5 % 256), ones 8 (x / 256 ^ 6 % 256), ones 8 (x / 256 ^ 7 % 256)] := by
    simp only [k3 _ (Nat.mod_lt _ (by decide))]
    rfl
  rw [hl, sums _ _ _ _ _ _ _ _ (ones8_le _) (ones8_le _) (ones8_le _) (ones8_le _) (ones8_le _) (ones8_le _) (ones8_le _) (ones8_le _) _ _ rfl rfl, show (64 : Nat) = 8 * 8 from rfl, ones_bytes 8 x]
  simp only [show List.range 8 = [0, 1, 2, 3, 4, 5, 6, 7] from rfl, List.map_cons, List.map_nil, List.foldr_cons, List.foldr_nil]
  omega
theorem byt_le {f : Nat → Nat} {m : Nat} (hf : ∀ b, b < 256 → f b ≤ m) : ∀ (k x : Nat), byt f k x ≤ m * msk 1 k
  | 0, x => by simp [byt]
  | k + 1, x => by
    have h1 := byt_le hf k (x / 256)
    have h2 := hf (x % 256) (Nat.mod_lt _ (by decide))
    rw [byt, msk, Nat.mul_add, ← Nat.mul_assoc]
    omega
theorem fin_f123 : ∀ b : Fin 256, f1 b.val ≤ 170 ∧ f2 (f1 b.val) ≤ 68 ∧ f3 (f2 (f1 b.val)) ≤ 8 := by decide +kernel
/-- the stages, and that none grows too great -/
theorem pop_chain (x : Nat) (hx : x < 18446744073709551616) : ∃ a b c d e : Nat, a = (x / 2 &&& msk 85 8) + (x &&& msk 85 8) ∧ a < 18446744073709551616 ∧ b = (a / 4 &&& msk 51 8) + (a &&& msk 51 8) ∧ b / 16 + b < 18446744073709551616 ∧
    c = (b / 16 + b) &&& msk 15 8 ∧ d = c + c / 256 ∧ d < 18446744073709551616 ∧ e = d + d / 65536 ∧ e < 18446744073709551616 ∧ e + e / 4294967296 < 9223372036854775808 ∧ popc x = (e + e / 4294967296) % 128 := by
  have k1 : ∀ b, b < 256 → f1 b < 256 := fun b hb => (fin_f12 ⟨b, hb⟩).1
  have k2 : ∀ b, b < 256 → f2 (f1 b) < 256 ∧ f2 (f1 b) % 16 ≤ 4 ∧ f2 (f1 b) / 16 ≤ 4 := fun b hb => ⟨(fin_f12 ⟨b, hb⟩).2.1, (fin_f12 ⟨b, hb⟩).2.2.1, (fin_f12 ⟨b, hb⟩).2.2.2.1⟩
  have e1 := step1 8 x hx
  have e2 := step2 8 (byt f1 8 x) (byt_lt k1 8 x)
  rw [byt_comp k1] at e2
  have e3 := step3 8 (byt (fun b => f2 (f1 b)) 8 x) (good_byt k2 8 x)
  rw [byt_comp (fun b hb => (k2 b hb).1)] at e3
  have b1 := byt_lt k1 8 x
  have b2 := byt_le (f := fun b => f2 (f1 b)) (m := 68) (fun b hb => (fin_f123 ⟨b, hb⟩).2.1) 8 x
  have b3 := byt_le (f := fun b => f3 (f2 (f1 b))) (m := 8) (fun b hb => (fin_f123 ⟨b, hb⟩).2.2) 8 x
  rw [show msk 1 8 = 72340172838076673 from by decide] at b2 b3
  refine ⟨_, _, _, _, _, rfl, by rw [e1]; exact b1, rfl, ?_, rfl, rfl, ?_, rfl, ?_, ?_, rfl⟩
  · rw [e1, e2]; omega
  all_goals
    rw [e1, e2, e3]
    omega
end Go.Proofs.YtcaoeoggabbekaaDoor
