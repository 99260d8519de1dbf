/- Sets of numbers: joined and taken away, told pointwise. -/
import Derived.Test.YtcaoeoggabbekaaDoorFirstB
namespace Go.Proofs.YtcaoeoggabbekaaDoor
open Go.RowKit Go.Shelf
set_option linter.unusedVariables false

def orP (p q : Nat → Bool) : Nat → Bool := fun j => p j || q j
def subP (p q : Nat → Bool) : Nat → Bool := fun j => p j && !q j
theorem mem_elsI {p : Nat → Bool} {N j : Nat} : (j : Int) ∈ elsI p N ↔ j < N ∧ p j = true := by
  rw [elsI, List.mem_map]
  constructor
  · rintro ⟨i, hi, e⟩
    obtain rfl : i = j := by omega
    exact mem_els.1 hi
  · intro h
    exact ⟨j, mem_els.2 h, rfl⟩
theorem joinP_or {p q : Nat → Bool} {n m : Nat} (hq : ∀ j, q j = true → j < m) (hqn : ∀ j, q j = true → j < n) (j : Nat) : joinP p n (elsI q m) j = orP p q j := by
  rw [joinP, orP]
  congr 1
  rw [Bool.eq_iff_iff, decide_eq_true_eq, mem_elsI]
  constructor
  · exact fun h => h.1.2
  · exact fun h => ⟨⟨hq j h, h⟩, hqn j h⟩
theorem lessP_sub {p q : Nat → Bool} {m : Nat} (hq : ∀ j, q j = true → j < m) (j : Nat) : lessP p (elsI q m) j = subP p q j := by
  rw [lessP, subP]
  congr 2
  rw [Bool.eq_iff_iff, decide_eq_true_eq, mem_elsI]
  constructor
  · exact fun h => h.2
  · exact fun h => ⟨hq j h, h⟩
theorem anP_sub {p q : Nat → Bool} {n m : Nat} (h : ∀ j, q j = true → p j = true) : anP p n (elsI q m) = false := by
  rw [anP, List.any_eq_false]
  intro x hx
  rw [elsI, List.mem_map] at hx
  obtain ⟨i, hi, rfl⟩ := hx
  have := h i (mem_els.1 hi).2
  simp [hasZ, this]
theorem memP_lt {n : Nat} {l : List Int} {j : Nat} (h : memP n l j = true) : j < n := by
  simp [memP] at h
  exact h.2
def JoinsPost (w : World) (b g n : Nat) (p q : Nat → Bool) (m : Nat) (e : Ending) (w' : World) : Prop :=
  e = .returned (.bool (anP p n (elsI q m))) ∧ SetAt w' b g n (orP p q) ∧ But g w w'
theorem join_or (b g n : Nat) (p : Nat → Bool) (b' g' : Nat) (q : Nat → Bool) (w : World) (h : SetAt w b g n p) (h' : SetAt w b' g' n q) (hT : TabIn w) :
    Calls Tryd.prog 22 #[.pointer (some ⟨b, 0, none⟩), .pointer (some ⟨b', 0, none⟩)] w (JoinsPost w b g n p q n) :=
  (join_any b g n p b' g' n q w h h' hT).mono fun e w' ⟨h1, h2, h3⟩ => ⟨h1, h2.congr (joinP_or (fun _ => h'.lt) (fun _ => h'.lt)), h3⟩
def LessenPost (w : World) (b g n : Nat) (p q : Nat → Bool) (e : Ending) (w' : World) : Prop :=
  (∃ v, e = .returned v) ∧ SetAt w' b g n (subP p q) ∧ But g w w'
theorem less_sub (b g n : Nat) (p : Nat → Bool) (b' g' m : Nat) (q : Nat → Bool) (w : World) (h : SetAt w b g n p) (h' : SetAt w b' g' m q) (hT : TabIn w) :
    Calls Tryd.prog 23 #[.pointer (some ⟨b, 0, none⟩), .pointer (some ⟨b', 0, none⟩)] w (LessenPost w b g n p q) :=
  (less_any b g n p b' g' m q w h h' hT).mono fun e w' ⟨h1, h2, h3⟩ => ⟨h1, h2.congr (lessP_sub (fun _ => h'.lt)), h3⟩
theorem filter_or_len {α : Type} (p q : α → Bool) : ∀ l : List α, (l.filter fun x => p x || q x).length ≤ (l.filter p).length + (l.filter q).length
  | [] => by simp
  | x :: l => by
    have ih := filter_or_len p q l
    cases hp : p x <;> cases hq : q x <;> simp [List.filter_cons, hp, hq] <;> omega
theorem filter_mono_len {α : Type} {p q : α → Bool} (h : ∀ x, p x = true → q x = true) : ∀ l : List α, (l.filter p).length ≤ (l.filter q).length
  | [] => by simp
  | x :: l => by
    have ih := filter_mono_len h l
    cases hp : p x
    · cases hq : q x <;> simp [List.filter_cons, hp, hq] <;> omega
    · have hq := h x hp
      simp [List.filter_cons, hp, hq]
      exact ih
theorem els_or_le (p q : Nat → Bool) (N : Nat) : (els (orP p q) N).length ≤ (els p N).length + (els q N).length := filter_or_len p q _
theorem els_or_ge1 (p q : Nat → Bool) (N : Nat) : (els p N).length ≤ (els (orP p q) N).length := filter_mono_len (fun x h => by simp [orP, h]) _
theorem els_or_ge2 (p q : Nat → Bool) (N : Nat) : (els q N).length ≤ (els (orP p q) N).length := filter_mono_len (fun x h => by simp [orP, h]) _
theorem elsI_congr {p q : Nat → Bool} {N : Nat} (h : ∀ j, p j = q j) : elsI p N = elsI q N := by
  obtain rfl : p = q := funext h
  rfl
theorem sameI_congr {p q : Nat → Bool} {N : Nat} (h : ∀ j, p j = q j) : sameI (elsI p N) (elsI q N) = true := by
  rw [elsI_congr h]
  simp [sameI]
theorem orP_comm (p q : Nat → Bool) (j : Nat) : orP p q j = orP q p j := by simp [orP, Bool.or_comm]
theorem sub_eq (x y z : Nat → Bool) (j : Nat) : subP (orP (orP y x) z) z j = subP (orP x y) z j := by
  simp only [subP, orP]
  cases x j <;> cases y j <;> cases z j <;> rfl
end Go.Proofs.YtcaoeoggabbekaaDoor
