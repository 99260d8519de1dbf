/- Plain: picks that are put one behind the other, and where they do not rise. -/
import Derived.Test.YtomabogjoampnaaDoorFirstS
import Derived.Laws.Bits128
import Derived.Deep.QuietTactic
import Derived.BigQuiet
namespace Go.Proofs.YtomabogjoampnaaDoor
open Go.RowKit
set_option linter.unusedVariables false

theorem i64_and1 (n : Int) : bits .and .i64 n 1 = n % 2 := by
  have h127 : (BitVec.ofInt 64 1).toNat = 2 ^ 1 - 1 := by decide
  have key : (BitVec.ofInt 64 n &&& BitVec.ofInt 64 1).toNat = (n % ((2 ^ 64 : Nat) : Int)).toNat % 2 ^ 1 := by
    rw [BitVec.toNat_and, BitVec.toNat_ofInt, h127, Nat.and_two_pow_sub_one_eq_mod]
  show IntKind.i64.wrap ((BitVec.ofInt 64 n &&& BitVec.ofInt 64 1).toNat : Nat) = n % 2
  rw [key, IntKind.wrap_i64]
  omega
theorem i64_and7 (n : Int) : bits .and .i64 n 7 = n % 8 := by
  have h127 : (BitVec.ofInt 64 7).toNat = 2 ^ 3 - 1 := by decide
  have key : (BitVec.ofInt 64 n &&& BitVec.ofInt 64 7).toNat = (n % ((2 ^ 64 : Nat) : Int)).toNat % 2 ^ 3 := by
    rw [BitVec.toNat_and, BitVec.toNat_ofInt, h127, Nat.and_two_pow_sub_one_eq_mod]
  show IntKind.i64.wrap ((BitVec.ofInt 64 n &&& BitVec.ofInt 64 7).toNat : Nat) = n % 8
  rw [key, IntKind.wrap_i64]
  omega
theorem tmod50 (x : Int) : -50 < x.tmod 50 ∧ x.tmod 50 < 50 := by
  have h1 := Int.tmod_lt_of_pos x (show (0 : Int) < 50 by decide)
  have h2 := Int.tmod_lt_of_pos (-x) (show (0 : Int) < 50 by decide)
  rw [Int.neg_tmod] at h2
  omega
def lastOf : Int → List Pk → Int
  | last, [] => last
  | _, p :: r => lastOf p.at_ r
theorem lastOf_snoc (L : List Pk) (p : Pk) : ∀ last, lastOf last (L ++ [p]) = p.at_ := by
  induction L with
  | nil => intro last; rfl
  | cons q L ih => intro last; exact ih q.at_
theorem mayF_snoc (L : List Pk) (p : Pk) : ∀ i last, mayF i last (L ++ [p]) = match mayF i last L with
    | some r => some r
    | none => if mayP p (lastOf last L) = 0 then none else some (i + L.length, mayP p (lastOf last L)) := by
  induction L with
  | nil =>
    intro i last
    simp only [List.nil_append, mayF, lastOf, List.length_nil, Nat.add_zero]
    rfl
  | cons q L ih =>
    intro i last
    simp only [List.cons_append, mayF]
    by_cases h : mayP q last = 0
    · rw [if_pos h, if_pos h, ih]
      simp only [lastOf, List.length_cons]
      rw [show i + 1 + L.length = i + (L.length + 1) by omega]
      rfl
    · rw [if_neg h, if_neg h]
/-- the picks so far, where the last one is, where they first did not rise -/
structure RS (L : List Pk) (k : Nat) (a bad : Int) : Prop where
  len : L.length = k
  lo : 0 ≤ a
  hi : a ≤ 100 + 50 * k
  ba : 0 < k → lastOf 0 L = a
  lst : 0 < k → ∃ q, L[k - 1]? = some q ∧ q.at_ = a
  may : (bad = -1 ∧ mayF 0 0 L = none) ∨ ∃ j : Nat, bad = j ∧ j < k ∧ mayF 0 0 L = some (j, 3)
theorem rs_start : RS [] 0 100 (-1) := ⟨rfl, by omega, by omega, by omega, by omega, .inl ⟨rfl, rfl⟩⟩
theorem mayP_rise (a' q last : Int) (h0 : 0 ≤ a') (h1 : a' ≤ 1000000) (hq : q = 0 ∨ q = 1) : mayP ⟨a', 1 + q, 0, 0⟩ last = if a' < last then 3 else 0 := by
  unfold mayP mayC
  rw [if_neg (by simp; omega), if_neg]
  have hA : 0 ≤ limA (1 + q) := by unfold limA; repeat (first | decide | split)
  have hB : 0 ≤ limB (1 + q) := by unfold limB; repeat (first | decide | split)
  simp only []
  omega
theorem rs_next {L : List Pk} {k : Nat} {a bad : Int} (h : RS L k a bad) (hk : k ≤ 50) (a' q : Int) (h0 : 0 ≤ a') (h1 : a' ≤ a + 50) (hq : q = 0 ∨ q = 1) (bad' : Int)
    (hb : bad' = if 0 < k ∧ a' < a ∧ bad < 0 then (k : Int) else bad) : RS (L ++ [⟨a', 1 + q, 0, 0⟩]) (k + 1) a' bad' := by
  have hl := h.len
  have hh := h.hi
  refine ⟨by simp [hl], h0, by omega, fun _ => lastOf_snoc _ _ _, fun _ => ⟨⟨a', 1 + q, 0, 0⟩, by simp [← hl], rfl⟩, ?_⟩
  rcases h.may with ⟨e, hm⟩ | ⟨j, e, hj, hm⟩
  · rw [mayF_snoc, hm]
    simp only []
    rw [mayP_rise a' q _ h0 (by omega) hq]
    by_cases hk0 : 0 < k
    · rw [h.ba hk0]
      by_cases ha : a' < a
      · rw [if_pos ⟨hk0, ha, by omega⟩] at hb
        right
        exact ⟨k, hb, by omega, by simp [ha, hl]⟩
      · rw [if_neg (by omega)] at hb
        left
        exact ⟨by omega, by simp [ha]⟩
    · have hL : L = [] := List.eq_nil_of_length_eq_zero (by omega)
      subst hL
      rw [if_neg (by omega)] at hb
      left
      refine ⟨by omega, ?_⟩
      have : ¬ a' < 0 := by omega
      simp [lastOf, this]
  · rw [mayF_snoc, hm]
    rw [if_neg (by omega)] at hb
    right
    exact ⟨j, by omega, by omega, rfl⟩
theorem mayF_zeros (n : Nat) (h : 0 < n) : mayF 0 0 (List.replicate n ⟨0, 0, 0, 0⟩) = some (0, 1) := by
  obtain ⟨m, rfl⟩ : ∃ m, n = m + 1 := ⟨n - 1, by omega⟩
  rfl
theorem pks_zeros (n : Nat) : pks (List.replicate n ⟨0, 0, 0, 0⟩) = List.replicate (n * 4) (.int .i64 0) := by
  induction n with
  | zero => rfl
  | succ n ih =>
    have e : pks (List.replicate (n + 1) ⟨0, 0, 0, 0⟩) = pkc ⟨0, 0, 0, 0⟩ ++ pks (List.replicate n ⟨0, 0, 0, 0⟩) := rfl
    rw [e, ih, show (n + 1) * 4 = n * 4 + 1 + 1 + 1 + 1 by omega, List.replicate_succ, List.replicate_succ, List.replicate_succ, List.replicate_succ]
    rfl
theorem pks_snoc (L : List Pk) (p : Pk) : pks (L ++ [p]) = pks L ++ pkc p := by simp [pks]
theorem pick_info : (Tryd.prog.info? 26).map (fun i => (i.zero, i.size, i.bytes)) = some (some (.agg #[.int .i64 0, .int .i64 0, .int .i64 0, .int .i64 0]), 4, 32) := by kernel_rfl
theorem pkc_one (p : Pk) : ∀ u ∈ pkc p, u.oneCell' = true := by intro u hu; simp [pkc] at hu; rcases hu with rfl | rfl | rfl | rfl <;> rfl
theorem made_zeros (n : Nat) : (madeCells (Value.agg #[.int .i64 0, .int .i64 0, .int .i64 0, .int .i64 0]).cells (n * 4)).toList = pks (List.replicate n ⟨0, 0, 0, 0⟩) := by
  rw [pks_zeros]
  have hz : ∀ j, j < 4 → (Value.agg #[.int .i64 0, .int .i64 0, .int .i64 0, .int .i64 0]).cells[j]! = .int .i64 0 := by
    intro j hj
    rcases j with _ | _ | _ | _ | j
    · rfl
    · rfl
    · rfl
    · rfl
    · omega
  have hs : (Value.agg #[.int .i64 0, .int .i64 0, .int .i64 0, .int .i64 0]).cells.size = 4 := rfl
  refine List.ext_getElem (by simp [madeCells]) fun j h1 h2 => ?_
  simp only [madeCells, Array.getElem_toList, Array.getElem_map, Array.getElem_range, List.getElem_replicate, hs]
  exact hz _ (Nat.mod_lt _ (by decide))
theorem reads_blk1 {w : World} {b : Nat} {t : TypeId} {x : Int} (h : Blk w b t #[.int .i64 x]) : Reads w w.heap.size 1 (some ⟨b, 0, none⟩) 1 ([x].map (Value.int .i64)) :=
  ⟨rfl, fun _ => ⟨_, rfl, h.lt, World.news_of_block h⟩⟩
theorem Reads.pick' {w : World} {B n k : Nat} {A : Option Addr} {l : List Pk} {q : Pk} (h : Reads w B 4 A n (pks l)) (hl : l.length = n) (hk : l[k]? = some q) : ∃ ad, A = some ad ∧ ad.block < B ∧
    w.cell? (ad.add (k * 4)) = some (.int .i64 q.at_) ∧ w.cell? ⟨(ad.add (k * 4)).block, (ad.add (k * 4)).off + 1, none⟩ = some (.int .i64 q.act) ∧
    w.cell? ⟨(ad.add (k * 4)).block, (ad.add (k * 4)).off + 2, none⟩ = some (.int .i64 q.a) ∧ w.cell? ⟨(ad.add (k * 4)).block, (ad.add (k * 4)).off + 3, none⟩ = some (.int .i64 q.b) := by
  obtain ⟨hlt, rfl⟩ := List.getElem?_eq_some_iff.1 hk
  exact h.pick hl hlt
end Go.Proofs.YtomabogjoampnaaDoor
