/- Plain facts: a number put is taken back; what is taken is as it is put. No program here. -/
import Derived.Test.YtnojejplckhifaaDoorMath
namespace Go.Proofs.YtnojejplckhifaaDoor

theorem takeF_encF (f : Nat) : ∀ (i u acc : Nat) (post : List Nat), u < 128 ^ f → 0 < f → i + f ≤ 10 → u * 128 ^ i < 18446744073709551616 → (0 < i → 0 < u) →
    takeF i acc (encF f u ++ post) = some (acc + u * 128 ^ i, i + (encF f u).length) := by
  induction f with
  | zero => intro i u acc post _ h; omega
  | succ f ih =>
    intro i u acc post hu _ hi h64 h0
    by_cases hlt : u < 128
    · rw [encF_low _ _ hlt]
      refine takeF_last (by omega) ?_ hlt (by omega)
      rintro ⟨rfl, h1⟩
      have : 2 * 128 ^ 9 ≤ u * 128 ^ 9 := Nat.mul_le_mul_right _ h1
      have e : 2 * 128 ^ 9 = 18446744073709551616 := by decide
      omega
    · rcases f with _ | f
      · exact absurd hu (by simpa using hlt)
      rw [encF_more _ _ hlt, List.cons_append, takeF_more (by omega) (by omega) (by omega)]
      have hd := pow128_div hu
      have hm : u / 128 * 128 ^ (i + 1) ≤ u * 128 ^ i := by
        rw [Nat.pow_succ, ← Nat.mul_assoc, Nat.mul_right_comm]
        exact Nat.mul_le_mul_right _ (Nat.div_mul_le_self _ _)
      rw [ih (i + 1) (u / 128) _ post hd (by omega) (by omega) (by omega) (by omega)]
      have e : acc + (u % 128 + 128 - 128) * 128 ^ i + u / 128 * 128 ^ (i + 1) = acc + u * 128 ^ i := by
        rw [Nat.add_sub_cancel, Nat.pow_succ, ← Nat.mul_assoc, Nat.mul_right_comm (u / 128), Nat.add_assoc, ← Nat.add_mul]
        congr 2
        omega
      rw [e]
      simp
      omega
theorem enc_pos (u : Nat) : 0 < (enc u).length := encF_pos 9 u
theorem enc_len (u : Nat) : (enc u).length ≤ 10 := encF_length_le 10 u
theorem enc_byte (u : Nat) : ∀ c ∈ enc u, c < 256 := encF_byte 10 u
theorem take_enc (u : Nat) (post : List Nat) (h : U64 u) : takeF 0 0 (enc u ++ post) = some (u, (enc u).length) := by
  have := takeF_encF 10 0 u 0 post (Nat.lt_of_lt_of_le h (by decide)) (by decide) (by decide) (by simpa [U64] using h) (by omega)
  simpa [enc] using this
theorem tk_enc (pre post : List Nat) (u : Nat) (h : U64 u) : tk (pre ++ (enc u ++ post)) (pre.length : Nat) = some (u, pre.length + (enc u).length) := by
  have hp := enc_pos u
  rw [tk_in _ _ (by simp; omega), List.drop_left, take_enc u post h]
  rfl
theorem tk_end (l : List Nat) : tk l (l.length : Nat) = none := tk_neg _ _ (by omega)

/-! ### what is taken is as it is put -/
theorem takeF_back (l : List Nat) : ∀ (i u v n : Nat), takeF i u l = some (v, n) → (∀ c ∈ l, c < 256) → ∃ x k, v = u + x * 128 ^ i ∧ n = i + (k + 1) ∧ k < l.length ∧ (0 < i → 0 < x) ∧
    (∀ f, k < f → encF f x = l.take (k + 1)) ∧ x * 128 ^ i < 18446744073709551616 ∧ i + k ≤ 9 := by
  induction l with
  | nil => intro i u v n h; simp [takeF] at h
  | cons c r ih =>
    intro i u v n h hb
    have hc : c < 256 := hb c (by simp)
    by_cases h10 : 10 ≤ i
    · rw [takeF_ten _ _ _ h10] at h; simp at h
    by_cases h9 : i = 9 ∧ 1 < c
    · rw [takeF_big h9.1 h9.2] at h; simp at h
    have hpow : c < 128 → c * 128 ^ i < 18446744073709551616 := by
      intro hlt
      by_cases e : i = 9
      · subst e
        have : c ≤ 1 := by omega
        exact Nat.lt_of_le_of_lt (Nat.mul_le_mul_right _ this) (by decide)
      · have h1 : (128 : Nat) ^ i ≤ 128 ^ 8 := Nat.pow_le_pow_right (by decide) (by omega)
        exact Nat.lt_of_le_of_lt (Nat.mul_le_mul (show c ≤ 127 by omega) h1) (by decide)
    by_cases hlt : c < 128
    · by_cases h0 : c = 0 ∧ 0 < i
      · rw [h0.1, takeF_zero (by omega) h0.2] at h; simp at h
      · rw [takeF_last (by omega) h9 hlt h0] at h
        simp at h
        refine ⟨c, 0, by omega, by omega, by simp, by omega, ?_, hpow hlt, by omega⟩
        intro f hf
        obtain ⟨g, rfl⟩ : ∃ g, f = g + 1 := ⟨f - 1, by omega⟩
        rw [encF_low _ _ hlt]
        rfl
    · rw [takeF_more (by omega) h9 hlt] at h
      obtain ⟨x, k, hv, hn, hk, hx, he, h64, h9'⟩ := ih _ _ _ _ h (fun y hy => hb y (by simp [hy]))
      have hx0 : 0 < x := hx (by omega)
      have e1 : (c - 128 + x * 128) * 128 ^ i = (c - 128) * 128 ^ i + x * 128 ^ (i + 1) := by
        rw [Nat.add_mul, Nat.pow_succ, Nat.mul_assoc, Nat.mul_comm 128]
      refine ⟨c - 128 + x * 128, k + 1, by rw [e1]; omega, by omega, by simp; omega, by omega, ?_, ?_, by omega⟩
      · intro f hf
        obtain ⟨g, rfl⟩ : ∃ g, f = g + 1 := ⟨f - 1, by omega⟩
        rw [encF_more _ _ (by omega), show (c - 128 + x * 128) % 128 + 128 = c by omega, show (c - 128 + x * 128) / 128 = x by omega, he g (by omega)]
        rfl
      · rw [e1]
        have hi : i ≤ 8 := by omega
        have h1 : (c - 128) * 128 ^ i < 128 ^ (i + 1) := by
          rw [Nat.pow_succ, Nat.mul_comm (128 ^ i)]
          exact Nat.mul_lt_mul_of_pos_right (by omega) (Nat.pow_pos (by decide))
        have h2 : x * 128 ^ (i + 1) + 128 ^ (i + 1) ≤ 18446744073709551616 := by
          have hd : (18446744073709551616 : Nat) = 2 ^ (64 - 7 * (i + 1)) * 128 ^ (i + 1) := by
            rw [show (128 : Nat) = 2 ^ 7 from rfl, ← Nat.pow_mul, ← Nat.pow_add, show 64 - 7 * (i + 1) + 7 * (i + 1) = 64 by omega]
          rw [hd] at h64 ⊢
          have hxl : x < 2 ^ (64 - 7 * (i + 1)) := Nat.lt_of_mul_lt_mul_right h64
          have := Nat.mul_le_mul_right (128 ^ (i + 1)) hxl
          rw [Nat.succ_mul] at this
          exact this
        omega
theorem take_back (l : List Nat) (v n : Nat) (h : takeF 0 0 l = some (v, n)) (hb : ∀ c ∈ l, c < 256) : U64 v ∧ 0 < n ∧ n ≤ l.length ∧ n ≤ 10 ∧ enc v = l.take n := by
  obtain ⟨x, k, hv, hn, hk, _, he, h64, h9⟩ := takeF_back l 0 0 v n h hb
  have ex : v = x := by simp at hv; exact hv
  have en : n = k + 1 := by omega
  subst ex en
  exact ⟨by simpa [U64] using h64, by omega, by omega, by omega, he 10 (by omega)⟩
end Go.Proofs.YtnojejplckhifaaDoor
