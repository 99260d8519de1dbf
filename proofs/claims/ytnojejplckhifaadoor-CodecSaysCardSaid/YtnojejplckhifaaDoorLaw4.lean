/- Words for the laws of chapter 4: bytes among the arguments as numbers; what Decode answers, whichever. -/
import Derived.Test.YtnojejplckhifaaDoorFirst4
import Derived.Test.YtnojejplckhifaaDoorPA
import Derived.Test.YtnojejplckhifaaDoorDoor4
namespace Go.Proofs.YtnojejplckhifaaDoor
open Go.RowKit
set_option linter.unusedVariables false

theorem u8_wf {n : Int} (h : (Lit.int .u8 n).wf = true) : 0 ≤ n ∧ n < 256 := by
  simp [Lit.wf, IntKind.min, IntKind.max, IntKind.signed, IntKind.bits] at h
  omega
theorem bytes_nat (z : List Int) (h : ∀ x ∈ z, (Lit.int .u8 x).wf = true) : z.map (Value.int .u8) = (z.map Int.toNat).map bv ∧ ∀ x ∈ z.map Int.toNat, x < 256 := by
  constructor
  · rw [List.map_map]
    refine List.map_congr_left fun x hx => ?_
    have := u8_wf (h x hx)
    simp only [Function.comp, bv]
    congr 1
    omega
  · intro x hx
    obtain ⟨y, hy, rfl⟩ := List.mem_map.1 hx
    have := u8_wf (h y hy)
    omega
theorem dpost_any {w w' : World} {ad : Nat → Addr} {l : List Nat} {e : Ending} (h : DPost w ad (decP l) e w') : Below w.heap.size w w' ∧ ∃ A1 n1 c1 A2 n2 c2 v, e = .returned (.tuple #[.agg #[.slice A1 n1 c1, .slice A2 n2 c2], v]) ∧ FltV w' ad v (decP l).2 ∧ ((decP l).2 ≠ none → n1 = 0 ∧ n2 = 0) := by
  rcases dec_cases l with ⟨P, hP⟩ | ⟨f, hf⟩
  · rw [hP] at h ⊢
    obtain ⟨hb, p, _, he, _⟩ := dpost_some h
    exact ⟨hb, _, _, _, _, _, _, _, he, rfl, fun h => absurd rfl h⟩
  · rw [hf] at h ⊢
    obtain ⟨hb, v, he, hv⟩ := dpost_none h
    exact ⟨hb, _, _, _, _, _, _, _, he, hv, fun _ => ⟨rfl, rfl⟩⟩
theorem flt_self (k : Nat) (l : List Int) (c : Int) (h : 101 + (k : Int) = c) : fltIs (some (k, l)) c l = true := by
  subst h
  simp [fltIs, fltC, fltL, sameI]
end Go.Proofs.YtnojejplckhifaaDoor
