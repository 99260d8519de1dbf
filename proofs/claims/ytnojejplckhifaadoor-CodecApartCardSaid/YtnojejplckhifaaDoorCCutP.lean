/- Words for the law CodecCut: bytes cut off, one more, one turned. -/
import Derived.Test.YtnojejplckhifaaDoorNumb
import Derived.Test.YtnojejplckhifaaDoorRefPut
import Derived.Laws.OwnMore
import Derived.Deep.RegionWith
namespace Go.Proofs.YtnojejplckhifaaDoor
open Go.RowKit
set_option linter.unusedVariables false

theorem Reads.take {w : World} {B size n k : Nat} {A : Option Addr} {xs : List Value} (h : Reads w B size A n xs) (hk : k ≤ n) : Reads w B size A k (xs.take (k * size)) := by
  have hl := h.1
  have hm : k * size ≤ n * size := Nat.mul_le_mul_right size hk
  refine ⟨by rw [List.length_take]; omega, fun h0 => ?_⟩
  obtain ⟨ad, e, hb, hc⟩ := h.2 (by omega)
  refine ⟨ad, e, hb, fun j u hu => ?_⟩
  rw [List.getElem?_take] at hu
  split at hu
  · exact hc j u hu
  · cases hu
theorem reads_bytes_take {w : World} {B n k : Nat} {A : Option Addr} {l : List Nat} (h : Reads w B 1 A n (l.map bv)) (hk : k ≤ n) : Reads w B 1 A k ((l.take k).map bv) := by
  have := h.take hk
  rw [Nat.mul_one] at this
  rwa [List.map_take]
/-- a byte turned: another program, or the same byte -/
theorem set_prog {P P' : Prg} (hP : okP P) (hm : mayP P = none) (hl : (encP P).length ≤ 16384) {t x y : Nat} (hx : x < 256) (hy : (encP P)[t]? = some y) (h : decP ((encP P).set t x) = (some P', none)) : P = P' ↔ y = x := by
  have hb : ∀ c ∈ (encP P).set t x, c < 256 := by
    intro c hc
    rcases List.mem_or_eq_of_mem_set hc with h | rfl
    · exact encP_lt P hP c h
    · exact hx
  obtain ⟨_, _, h3, _⟩ := dec_is _ hb P' none h
  have htl : t < (encP P).length := (List.getElem?_eq_some_iff.1 hy).1
  constructor
  · rintro rfl
    have : ((encP P).set t x)[t]? = some y := by rw [h3]; exact hy
    rw [List.getElem?_set_self htl] at this
    exact (Option.some.inj this).symm
  · rintro rfl
    have e : (encP P).set t y = encP P := by
      apply List.ext_getElem?
      intro i
      by_cases hi : t = i
      · subst hi; rw [List.getElem?_set_self htl, hy]
      · rw [List.getElem?_set_ne hi]
    rw [e, dec_enc P hP hm hl] at h
    injection h with h1 _
    injection h1
theorem set_lt {P : Prg} (hP : okP P) {t x : Nat} (hx : x < 256) : ∀ c ∈ (encP P).set t x, c < 256 := by
  intro c hc
  rcases List.mem_or_eq_of_mem_set hc with h | rfl
  · exact encP_lt P hP c h
  · exact hx
theorem snoc_lt {P : Prg} (hP : okP P) {x : Nat} (hx : x < 256) : ∀ c ∈ encP P ++ [x], c < 256 := by
  intro c hc
  rcases List.mem_append.1 hc with h | h
  · exact encP_lt P hP c h
  · obtain rfl := List.mem_singleton.1 h; exact hx
theorem take_lt {P : Prg} (hP : okP P) (t : Nat) : ∀ c ∈ (encP P).take t, c < 256 := fun c hc => encP_lt P hP c (List.mem_of_mem_take hc)
end Go.Proofs.YtnojejplckhifaaDoor
