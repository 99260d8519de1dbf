/- The contract of script.may: what is amiss with one pick behind another one's place. -/
import Derived.Test.YtomabogjoampnaaDoorRows
import Derived.Test.YtomabogjoampnaaDoorMem
import Derived.WalkKit
import Derived.Outline
import Derived.Lib.Hide
namespace Go.Proofs.YtomabogjoampnaaDoor
open Go.RowKit
set_option linter.unusedVariables false

def limA (act : Int) : Int := if act = 3 then 11 else 0
def limB (act : Int) : Int := if act = 3 then 2047 else if act = 5 then 2047 else 0
/-- 0 nothing, 1 the kind, 2 an index, 3 the shape -/
def mayC (at_ act a b last : Int) : Nat :=
  if act < 1 ∨ 5 < act then 1 else if at_ < 0 ∨ 1048576 < at_ ∨ a < 0 ∨ limA act < a ∨ b < 0 ∨ limB act < b then 2 else if at_ < last then 3 else 0
def errV (kv iv sv : Value) : Nat → Value
  | 1 => kv
  | 2 => iv
  | 3 => sv
  | _ => .nilIface
def MayPost (w : World) (v : Value) (e : Ending) (w' : World) : Prop := e = .returned v ∧ Below w.heap.size w w'
/-- what the tests of the second case come to, the first that says yes -/
theorem may_ways (at_ act a b A B : Int) : at_ < 0 ∨ (¬ at_ < 0 ∧ 1048576 < at_) ∨ (¬ at_ < 0 ∧ ¬ 1048576 < at_ ∧ a < 0) ∨ (¬ at_ < 0 ∧ ¬ 1048576 < at_ ∧ ¬ a < 0 ∧ A < a) ∨
    (¬ at_ < 0 ∧ ¬ 1048576 < at_ ∧ ¬ a < 0 ∧ ¬ A < a ∧ b < 0) ∨ (¬ at_ < 0 ∧ ¬ 1048576 < at_ ∧ ¬ a < 0 ∧ ¬ A < a ∧ ¬ b < 0 ∧ B < b) ∨
    (¬ at_ < 0 ∧ ¬ 1048576 < at_ ∧ ¬ a < 0 ∧ ¬ A < a ∧ ¬ b < 0 ∧ ¬ B < b) := by omega

set_option maxRecDepth 100000 in
set_option maxHeartbeats 4000000 in
theorem may_bad (at_ act a b last : Int) (kv iv sv : Value) (w : World) (hg : 3 < w.heap.size) (hk : w.cell? ⟨1, 0, none⟩ = some kv) (h : act < 1 ∨ 5 < act) :
    Calls Tryd.prog 23 #[.agg #[.int .i64 at_, .int .i64 act, .int .i64 a, .int .i64 b], .int .i64 last] w (MayPost w kv) := by
  have n3 : (act == 3) = false := by simp; omega
  have n5 : (act == 5) = false := by simp; omega
  have hk' : ∀ o, (w.alloc o).cell? ⟨1, 0, none⟩ = some kv := fun o => (World.cell?_alloc_lt w o ⟨1, 0, none⟩ (by simp; omega)).trans hk
  rcases h with h | h
  · go_enter Tryd.func23, Tryd.ntmps23
    go_wp2
    go_ret
    exact ⟨rfl, (Below.refl _ _).alloc (Nat.le_refl _) _⟩
  · have h' : ¬ act < 1 := by omega
    go_enter Tryd.func23, Tryd.ntmps23
    go_wp2
    go_ret
    exact ⟨rfl, (Below.refl _ _).alloc (Nat.le_refl _) _⟩

set_option maxRecDepth 100000 in
set_option maxHeartbeats 4000000 in
theorem may_up_index (at_ act a b last : Int) (iv : Value) (w : World) (hg : 3 < w.heap.size) (hi : w.cell? ⟨2, 0, none⟩ = some iv) (h1 : ¬ act < 1) (h2 : ¬ 5 < act) (n3 : (act == 3) = true)
    (h : at_ < 0 ∨ 1048576 < at_ ∨ a < 0 ∨ 11 < a ∨ b < 0 ∨ 2047 < b) :
    Calls Tryd.prog 23 #[.agg #[.int .i64 at_, .int .i64 act, .int .i64 a, .int .i64 b], .int .i64 last] w (MayPost w iv) := by
  have hi' : ∀ o, (w.alloc o).cell? ⟨2, 0, none⟩ = some iv := fun o => (World.cell?_alloc_lt w o ⟨2, 0, none⟩ (by simp; omega)).trans hi
  rcases may_ways at_ act a b 11 2047 with k | ⟨k1, k⟩ | ⟨k1, k2, k⟩ | ⟨k1, k2, k3, k⟩ | ⟨k1, k2, k3, k4, k⟩ | ⟨k1, k2, k3, k4, k5, k⟩ | ⟨k1, k2, k3, k4, k5, k6⟩
  case inr.inr.inr.inr.inr.inr => omega
  all_goals
    clear h
    skip
    go_enter Tryd.func23, Tryd.ntmps23
    go_wp2
    go_ret
    exact ⟨rfl, (Below.refl _ _).alloc (Nat.le_refl _) _⟩
set_option maxRecDepth 100000 in
set_option maxHeartbeats 4000000 in
theorem may_up_fine (at_ act a b last : Int) (sv : Value) (w : World) (hg : 3 < w.heap.size) (hs : w.cell? ⟨3, 0, none⟩ = some sv) (h1 : ¬ act < 1) (h2 : ¬ 5 < act) (n3 : (act == 3) = true)
    (k1 : ¬ at_ < 0) (k2 : ¬ 1048576 < at_) (k3 : ¬ a < 0) (k4 : ¬ 11 < a) (k5 : ¬ b < 0) (k6 : ¬ 2047 < b) :
    Calls Tryd.prog 23 #[.agg #[.int .i64 at_, .int .i64 act, .int .i64 a, .int .i64 b], .int .i64 last] w (MayPost w (if at_ < last then sv else .nilIface)) := by
  have hs' : ∀ o, (w.alloc o).cell? ⟨3, 0, none⟩ = some sv := fun o => (World.cell?_alloc_lt w o ⟨3, 0, none⟩ (by simp; omega)).trans hs
  skip
  by_cases hl : at_ < last
  · rw [if_pos hl]
    go_enter Tryd.func23, Tryd.ntmps23
    go_wp2
    go_ret
    exact ⟨rfl, (Below.refl _ _).alloc (Nat.le_refl _) _⟩
  · rw [if_neg hl]
    go_enter Tryd.func23, Tryd.ntmps23
    go_wp2
    go_ret
    exact ⟨rfl, (Below.refl _ _).alloc (Nat.le_refl _) _⟩

set_option maxRecDepth 100000 in
set_option maxHeartbeats 4000000 in
theorem may_rep_index (at_ act a b last : Int) (iv : Value) (w : World) (hg : 3 < w.heap.size) (hi : w.cell? ⟨2, 0, none⟩ = some iv) (h1 : ¬ act < 1) (h2 : ¬ 5 < act) (n3 : (act == 3) = false) (n5 : (act == 5) = true)
    (h : at_ < 0 ∨ 1048576 < at_ ∨ a < 0 ∨ 0 < a ∨ b < 0 ∨ 2047 < b) :
    Calls Tryd.prog 23 #[.agg #[.int .i64 at_, .int .i64 act, .int .i64 a, .int .i64 b], .int .i64 last] w (MayPost w iv) := by
  have hi' : ∀ o, (w.alloc o).cell? ⟨2, 0, none⟩ = some iv := fun o => (World.cell?_alloc_lt w o ⟨2, 0, none⟩ (by simp; omega)).trans hi
  rcases may_ways at_ act a b 0 2047 with k | ⟨k1, k⟩ | ⟨k1, k2, k⟩ | ⟨k1, k2, k3, k⟩ | ⟨k1, k2, k3, k4, k⟩ | ⟨k1, k2, k3, k4, k5, k⟩ | ⟨k1, k2, k3, k4, k5, k6⟩
  case inr.inr.inr.inr.inr.inr => omega
  all_goals
    clear h
    skip
    go_enter Tryd.func23, Tryd.ntmps23
    go_wp2
    go_ret
    exact ⟨rfl, (Below.refl _ _).alloc (Nat.le_refl _) _⟩
set_option maxRecDepth 100000 in
set_option maxHeartbeats 4000000 in
theorem may_rep_fine (at_ act a b last : Int) (sv : Value) (w : World) (hg : 3 < w.heap.size) (hs : w.cell? ⟨3, 0, none⟩ = some sv) (h1 : ¬ act < 1) (h2 : ¬ 5 < act) (n3 : (act == 3) = false) (n5 : (act == 5) = true)
    (k1 : ¬ at_ < 0) (k2 : ¬ 1048576 < at_) (k3 : ¬ a < 0) (k4 : ¬ 0 < a) (k5 : ¬ b < 0) (k6 : ¬ 2047 < b) :
    Calls Tryd.prog 23 #[.agg #[.int .i64 at_, .int .i64 act, .int .i64 a, .int .i64 b], .int .i64 last] w (MayPost w (if at_ < last then sv else .nilIface)) := by
  have hs' : ∀ o, (w.alloc o).cell? ⟨3, 0, none⟩ = some sv := fun o => (World.cell?_alloc_lt w o ⟨3, 0, none⟩ (by simp; omega)).trans hs
  skip
  by_cases hl : at_ < last
  · rw [if_pos hl]
    go_enter Tryd.func23, Tryd.ntmps23
    go_wp2
    go_ret
    exact ⟨rfl, (Below.refl _ _).alloc (Nat.le_refl _) _⟩
  · rw [if_neg hl]
    go_enter Tryd.func23, Tryd.ntmps23
    go_wp2
    go_ret
    exact ⟨rfl, (Below.refl _ _).alloc (Nat.le_refl _) _⟩

set_option maxRecDepth 100000 in
set_option maxHeartbeats 4000000 in
theorem may_oth_index (at_ act a b last : Int) (iv : Value) (w : World) (hg : 3 < w.heap.size) (hi : w.cell? ⟨2, 0, none⟩ = some iv) (h1 : ¬ act < 1) (h2 : ¬ 5 < act) (n3 : (act == 3) = false) (n5 : (act == 5) = false)
    (h : at_ < 0 ∨ 1048576 < at_ ∨ a < 0 ∨ 0 < a ∨ b < 0 ∨ 0 < b) :
    Calls Tryd.prog 23 #[.agg #[.int .i64 at_, .int .i64 act, .int .i64 a, .int .i64 b], .int .i64 last] w (MayPost w iv) := by
  have hi' : ∀ o, (w.alloc o).cell? ⟨2, 0, none⟩ = some iv := fun o => (World.cell?_alloc_lt w o ⟨2, 0, none⟩ (by simp; omega)).trans hi
  rcases may_ways at_ act a b 0 0 with k | ⟨k1, k⟩ | ⟨k1, k2, k⟩ | ⟨k1, k2, k3, k⟩ | ⟨k1, k2, k3, k4, k⟩ | ⟨k1, k2, k3, k4, k5, k⟩ | ⟨k1, k2, k3, k4, k5, k6⟩
  case inr.inr.inr.inr.inr.inr => omega
  all_goals
    clear h
    skip
    go_enter Tryd.func23, Tryd.ntmps23
    go_wp2
    go_ret
    exact ⟨rfl, (Below.refl _ _).alloc (Nat.le_refl _) _⟩
set_option maxRecDepth 100000 in
set_option maxHeartbeats 4000000 in
theorem may_oth_fine (at_ act a b last : Int) (sv : Value) (w : World) (hg : 3 < w.heap.size) (hs : w.cell? ⟨3, 0, none⟩ = some sv) (h1 : ¬ act < 1) (h2 : ¬ 5 < act) (n3 : (act == 3) = false) (n5 : (act == 5) = false)
    (k1 : ¬ at_ < 0) (k2 : ¬ 1048576 < at_) (k3 : ¬ a < 0) (k4 : ¬ 0 < a) (k5 : ¬ b < 0) (k6 : ¬ 0 < b) :
    Calls Tryd.prog 23 #[.agg #[.int .i64 at_, .int .i64 act, .int .i64 a, .int .i64 b], .int .i64 last] w (MayPost w (if at_ < last then sv else .nilIface)) := by
  have hs' : ∀ o, (w.alloc o).cell? ⟨3, 0, none⟩ = some sv := fun o => (World.cell?_alloc_lt w o ⟨3, 0, none⟩ (by simp; omega)).trans hs
  skip
  by_cases hl : at_ < last
  · rw [if_pos hl]
    go_enter Tryd.func23, Tryd.ntmps23
    go_wp2
    go_ret
    exact ⟨rfl, (Below.refl _ _).alloc (Nat.le_refl _) _⟩
  · rw [if_neg hl]
    go_enter Tryd.func23, Tryd.ntmps23
    go_wp2
    go_ret
    exact ⟨rfl, (Below.refl _ _).alloc (Nat.le_refl _) _⟩

theorem may_any (at_ act a b last : Int) (kv iv sv : Value) (w : World) (hg : 3 < w.heap.size) (hk : w.cell? ⟨1, 0, none⟩ = some kv) (hi : w.cell? ⟨2, 0, none⟩ = some iv) (hs : w.cell? ⟨3, 0, none⟩ = some sv) :
    Calls Tryd.prog 23 #[.agg #[.int .i64 at_, .int .i64 act, .int .i64 a, .int .i64 b], .int .i64 last] w (MayPost w (errV kv iv sv (mayC at_ act a b last))) := by
  unfold mayC
  by_cases h : act < 1 ∨ 5 < act
  · rw [if_pos h]; exact may_bad at_ act a b last kv iv sv w hg hk h
  rw [if_neg h]
  by_cases h3 : act = 3
  · have hA : limA act = 11 := by simp [limA, h3]
    have hB : limB act = 2047 := by simp [limB, h3]
    rw [hA, hB]
    by_cases hx : at_ < 0 ∨ 1048576 < at_ ∨ a < 0 ∨ 11 < a ∨ b < 0 ∨ 2047 < b
    · rw [if_pos hx]; exact may_up_index at_ act a b last iv w hg hi (by omega) (by omega) (by simpa using h3) hx
    · rw [if_neg hx]
      have := may_up_fine at_ act a b last sv w hg hs (by omega) (by omega) (by simpa using h3) (by omega) (by omega) (by omega) (by omega) (by omega) (by omega)
      split <;> simp_all [errV]
  · by_cases h5 : act = 5
    · have hA : limA act = 0 := by simp [limA, h5]
      have hB : limB act = 2047 := by simp [limB, h5]
      rw [hA, hB]
      by_cases hx : at_ < 0 ∨ 1048576 < at_ ∨ a < 0 ∨ 0 < a ∨ b < 0 ∨ 2047 < b
      · rw [if_pos hx]; exact may_rep_index at_ act a b last iv w hg hi (by omega) (by omega) (by simpa using h3) (by simpa using h5) hx
      · rw [if_neg hx]
        have := may_rep_fine at_ act a b last sv w hg hs (by omega) (by omega) (by simpa using h3) (by simpa using h5) (by omega) (by omega) (by omega) (by omega) (by omega) (by omega)
        split <;> simp_all [errV]
    · have hA : limA act = 0 := by simp [limA, h3]
      have hB : limB act = 0 := by simp [limB, h3, h5]
      rw [hA, hB]
      by_cases hx : at_ < 0 ∨ 1048576 < at_ ∨ a < 0 ∨ 0 < a ∨ b < 0 ∨ 0 < b
      · rw [if_pos hx]; exact may_oth_index at_ act a b last iv w hg hi (by omega) (by omega) (by simpa using h3) (by simpa using h5) hx
      · rw [if_neg hx]
        have := may_oth_fine at_ act a b last sv w hg hs (by omega) (by omega) (by simpa using h3) (by simpa using h5) (by omega) (by omega) (by omega) (by omega) (by omega) (by omega)
        split <;> simp_all [errV]
end Go.Proofs.YtomabogjoampnaaDoor
