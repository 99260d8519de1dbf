/- Plain: the numbers of a set, rising; word by word, bit by bit. -/
import Derived.Test.YtcaoeoggabbekaaDoorSet0
namespace Go.Proofs.YtcaoeoggabbekaaDoor

/-- the numbers below N that p has, rising -/
def els (p : Nat → Bool) (N : Nat) : List Nat := (List.range N).filter p
theorem els_ext {p q : Nat → Bool} {N : Nat} (h : ∀ i, i < N → p i = q i) : els p N = els q N := by
  unfold els
  exact List.filter_congr fun i hi => h i (List.mem_range.1 hi)
theorem els_add (p : Nat → Bool) (N m : Nat) : els p (N + m) = els p N ++ (els (fun i => p (N + i)) m).map (N + ·) := by
  unfold els
  rw [List.range_add, List.filter_append, List.filter_map]
  rfl
theorem els_false (N : Nat) {p : Nat → Bool} (h : ∀ i, i < N → p i = false) : els p N = [] := by
  unfold els
  rw [List.filter_eq_nil_iff]
  intro i hi
  rw [h i (List.mem_range.1 hi)]
  decide
theorem els_more {p : Nat → Bool} {n N : Nat} (hN : n ≤ N) (h : ∀ i, p i = true → i < n) : els p N = els p n := by
  obtain ⟨d, rfl⟩ : ∃ d, N = n + d := ⟨N - n, by omega⟩
  rw [els_add, els_false d]
  · simp
  · intro i _
    cases hp : p (n + i)
    · rfl
    · have := h _ hp; omega
theorem mem_els {p : Nat → Bool} {N i : Nat} : i ∈ els p N ↔ i < N ∧ p i = true := by
  unfold els
  simp
theorem els_first {f : Nat → Bool} {t N : Nat} (ht : t < N) (h0 : ∀ j, j < t → f j = false) (h1 : f t = true) : els f N = t :: els (fun j => f j && decide (j ≠ t)) N := by
  obtain ⟨d, rfl⟩ : ∃ d, N = t + (1 + d) := ⟨N - t - 1, by omega⟩
  rw [els_add, els_add (fun j => f j && decide (j ≠ t)), els_false t h0, els_false t (fun j hj => by simp [h0 j hj]), els_add _ 1 d, els_add (fun i => f (t + i) && decide (t + i ≠ t)) 1 d]
  have e1 : els (fun i => f (t + i)) 1 = [0] := by simp [els, List.range_succ, h1]
  have e2 : els (fun i => f (t + i) && decide (t + i ≠ t)) 1 = [] := els_false 1 (fun i hi => by have hi0 : i = 0 := (by omega); rw [hi0]; simp)
  have e3 : els (fun i => f (t + (1 + i)) && decide (t + (1 + i) ≠ t)) d = els (fun i => f (t + (1 + i))) d := els_ext fun i _ => by simp
  rw [e1, e2, e3]
  simp
/-- a word less its lowest bit -/
theorem low_split (y : Nat) (h0 : y ≠ 0) (h : y < 2 ^ 64) : Lib.ctz 64 y < 64 ∧ y.testBit (Lib.ctz 64 y) = true ∧ (∀ j, j < Lib.ctz 64 y → y.testBit j = false) ∧ ∀ j, (y &&& (y - 1)).testBit j = (y.testBit j && decide (j ≠ Lib.ctz 64 y)) := by
  have e : Lib.ctz 64 y = Lib.ctzFrom 64 y := by rw [Lib.ctz, if_neg h0]
  obtain ⟨m, hm, hk⟩ := Lib.ctzFrom_spec 64 y (Nat.pos_of_ne_zero h0) h
  rw [e]
  generalize Lib.ctzFrom 64 y = t at hm hk
  have hp : 0 < 2 ^ t := Nat.two_pow_pos t
  have y1 : y = 2 ^ t * (2 * m + 1) + 0 := by rw [hm]; rfl
  have y2 : y - 1 = 2 ^ t * (2 * m) + (2 ^ t - 1) := by rw [hm, Nat.mul_add, Nat.mul_one]; omega
  have b1 : ∀ j, y.testBit j = if j < t then false else (2 * m + 1).testBit (j - t) := by
    intro j
    rw [y1, Nat.testBit_two_pow_mul_add _ hp]
    split <;> simp
  have b2 : ∀ j, (y - 1).testBit j = if j < t then (2 ^ t - 1).testBit j else (2 * m).testBit (j - t) := by
    intro j
    rw [y2, Nat.testBit_two_pow_mul_add _ (by omega)]
  refine ⟨hk, ?_, ?_, ?_⟩
  · rw [b1, if_neg (by omega), Nat.sub_self]
    simp
  · intro j hj
    rw [b1, if_pos hj]
  · intro j
    rw [Nat.testBit_and, b1, b2]
    by_cases hj : j < t
    · rw [if_pos hj]; simp
    · rw [if_neg hj, if_neg hj]
      by_cases he : j = t
      · subst he; simp
      · obtain ⟨d, rfl⟩ : ∃ d, j = t + (d + 1) := ⟨j - t - 1, by omega⟩
        have e3 : t + (d + 1) - t = d + 1 := by omega
        rw [e3, Nat.testBit_succ, Nat.testBit_succ]
        have d1 : (2 * m + 1) / 2 = m := by omega
        have d2 : 2 * m / 2 = m := by omega
        rw [d1, d2]
        simp
theorem els_bits (y : Nat) (h0 : y ≠ 0) (h : y < 2 ^ 64) : els y.testBit 64 = Lib.ctz 64 y :: els (y &&& (y - 1)).testBit 64 := by
  obtain ⟨h1, h2, h3, h4⟩ := low_split y h0 h
  rw [els_first h1 h3 h2]
  congr 1
  exact els_ext fun j _ => (h4 j).symm
theorem els_zero : els (0 : Nat).testBit 64 = [] := els_false 64 fun i _ => by simp
theorem ones_els : ∀ (k x : Nat), ones k x = (els x.testBit k).length
  | 0, x => rfl
  | k + 1, x => by
    have h := els_add x.testBit 1 k
    rw [Nat.add_comm 1 k] at h
    have e1 : els (fun i => x.testBit (1 + i)) k = els (x / 2).testBit k := els_ext fun i _ => by rw [Nat.add_comm, Nat.testBit_succ]
    rw [ones, ones_els k (x / 2), h, List.length_append, List.length_map, e1]
    congr 1
    by_cases hx : x % 2 = 1
    · simp [els, List.range_succ, Nat.testBit_zero, hx]
    · have : x % 2 = 0 := by omega
      simp [els, List.range_succ, Nat.testBit_zero, this]
/-- what words before place k hold -/
theorem els_word {n : Nat} {ws : List Nat} {p : Nat → Bool} (h : Fits n ws p) {k x : Nat} (hx : ws[k]? = some x) : els p (64 * (k + 1)) = els p (64 * k) ++ (els x.testBit 64).map (64 * k + ·) := by
  rw [Nat.mul_add, Nat.mul_one, els_add]
  congr 2
  refine els_ext fun i hi => ?_
  rw [h.is, bit, show (64 * k + i) / 64 = k by omega, show (64 * k + i) % 64 = i by omega, hx]
  rfl
theorem els_all {n : Nat} {ws : List Nat} {p : Nat → Bool} (h : Fits n ws p) : els p (64 * ws.length) = els p n := els_more (by rw [h.len]; omega) h.lt
theorem els_len (p : Nat → Bool) (N : Nat) : (els p N).length ≤ N := by
  have := List.length_filter_le p (List.range N)
  rw [List.length_range] at this
  exact this
end Go.Proofs.YtcaoeoggabbekaaDoor
