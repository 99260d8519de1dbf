/- Words for the laws of chapter 4 that take programs: what Encode answers, whichever; Light, SameProgram at spelled values. -/
import Derived.Test.YtnojejplckhifaaDoorPA
import Derived.Test.YtnojejplckhifaaDoorSamePr
import Derived.Test.YtnojejplckhifaaDoorLight
import Derived.Test.YtnojejplckhifaaDoorLaw4
import Derived.Deep.CutBlock
import Derived.Deep.CutRange
namespace Go.Proofs.YtnojejplckhifaaDoor
open Go.RowKit
set_option linter.unusedVariables false

theorem light_is (p : PV) (v : Value) (hv : v = p.val) (w : World) (hp : PAt w w.heap.size p) : Calls Tryd.prog 10 #[v] w (LPost w p) := by
  subst hv
  exact light_any p w hp
theorem sameQ_is (p q : PV) (v v' : Value) (hv : v = p.val) (hv' : v' = q.val) (w : World) (hp : PAt w w.heap.size p) (hq : PAt w w.heap.size q) (h1 : p.cls.length ≤ 1048576) (h2 : p.ms.length ≤ 1048576)
    (h3 : ∀ x ∈ p.ms, x.m.code.length ≤ 1048576) (h4 : ∀ x ∈ q.ms, x.m.code.length ≤ 1048576) :
    Calls Tryd.prog 19 #[v, v'] w (YPost w (p.prg = q.prg)) := by
  subst hv hv'
  exact sameProg_any p q w hp hq (by omega) (by omega) (fun x hx => by have := h3 x hx; omega) (fun x hx => by have := h4 x hx; omega)
theorem own_cap5 {w : World} {base : Nat} {e : TypeId} {size n n' c : Nat} {A : Option Addr} {xs : List Value} (h : w.ownsRow base e size (.slice A n' c) n xs) : n ≤ c ∧ c ≤ maxLen := by
  rcases h.2 with ⟨hv, hn⟩ | ⟨g, cap, cur, hv, _, _, h1, h2, _⟩
  · injection hv with e1 e2 e3
    subst e3 hn
    exact ⟨Nat.le_refl _, Nat.zero_le _⟩
  · injection hv with e1 e2 e3
    subst e3
    exact ⟨h1, h2⟩
/-- bytes that were made, n of them -/
structure Enc5 (w : World) (P : Prg) (A : Option Addr) (n c : Nat) : Prop where
  len : n = (encP P).length
  rd : Reads w w.heap.size 1 A n ((encP P).map bv)
  cap : n ≤ c ∧ c ≤ maxLen
  may : mayP P = none
  small : n ≤ 16384
theorem Enc5.next {w w' : World} {P : Prg} {A : Option Addr} {n c : Nat} (h : Enc5 w P A n c) (hb : Below w.heap.size w w') : Enc5 w' P A n c := ⟨h.len, (h.rd.below hb).more hb.size, h.cap, h.may, h.small⟩
theorem enc_cases (P : Prg) : (encO P = (some (encP P), none) ∧ mayP P = none ∧ (encP P).length ≤ 16384) ∨ ∃ f, encO P = (none, some f) ∧ ((f = (0, []) ∧ mayP P = none ∧ 16384 < (encP P).length) ∨ mayP P = some f) := by
  unfold encO
  cases h : mayP P with
  | some f => exact .inr ⟨f, rfl, .inr rfl⟩
  | none =>
    dsimp only
    by_cases hl : 16384 < (encP P).length
    · rw [if_pos hl]; exact .inr ⟨_, rfl, .inl ⟨rfl, rfl, hl⟩⟩
    · rw [if_neg hl]; exact .inl ⟨rfl, rfl, by omega⟩
theorem epost_any {w w' : World} {ad : Nat → Addr} {P : Prg} {e : Ending} (h : EPost w ad (encO P) e w') : Below w.heap.size w w' ∧ ∃ A n c v, e = .returned (.tuple #[.slice A n c, v]) ∧ FltV w' ad v (encO P).2 ∧ ((encO P).2 = none → Enc5 w' P A n c) ∧ ((encO P).2 ≠ none → n = 0) := by
  rcases enc_cases P with ⟨hP, hm, hl⟩ | ⟨f, hf, _⟩
  · rw [hP] at h ⊢
    obtain ⟨hb, A, c, he, ho⟩ := epost_some h
    exact ⟨hb, A, _, c, _, he, rfl, fun _ => ⟨rfl, Reads.of_own ho, own_cap5 ho, hm, hl⟩, fun h => absurd rfl h⟩
  · rw [hf] at h ⊢
    obtain ⟨hb, v, he, hv⟩ := epost_none h
    exact ⟨hb, none, 0, 0, v, he, hv, fun h => by simp at h, fun _ => rfl⟩
/-- a program that was read is small -/
theorem ok_small {P : Prg} (h : okP P) : P.cls.length ≤ 12 ∧ P.mets.length ≤ 12 ∧ ∀ m ∈ P.mets, m.par.length ≤ 12 ∧ m.loc.length ≤ 12 ∧ m.code.length ≤ 120 := by
  refine ⟨h.1.1, h.2.1.2, fun m hm => ?_⟩
  obtain ⟨⟨⟨h1, _⟩, h2, _⟩, _, ⟨_, h3⟩, _⟩ := h.2.2 m hm
  exact ⟨h1, by omega, h3⟩
theorem ok_num {P : Prg} (h : okP P) : ∀ m ∈ P.mets, ∀ x ∈ m.code, I64 x.n := by
  intro m hm x hx
  have hx := ((h.2.2 m hm).2.2.2 x hx).2.2.2
  split at hx
  · exact hx
  · rw [hx]; unfold I64; omega
theorem ok_pv {q : PV} (h : okP q.prg) : q.cls.length ≤ 12 ∧ q.ms.length ≤ 12 ∧ ∀ x ∈ q.ms, x.m.par.length ≤ 12 ∧ x.m.loc.length ≤ 12 ∧ x.m.code.length ≤ 120 := by
  obtain ⟨h1, h2, h3⟩ := ok_small h
  refine ⟨h1, by simpa [PV.prg] using h2, fun x hx => h3 x.m (List.mem_map.2 ⟨x, hx, rfl⟩)⟩
theorem ok_cls {q : PV} (h : okP q.prg) : ∀ c ∈ q.cls, c.length ≤ maxLen := fun c hc => by have := (h.1.2 c hc).1; unfold maxLen; omega
/-- Encode at a program that was read -/
theorem encode_ok (q : PV) (v : Value) (hv : v = q.val) (o : Option (List Nat) × Option (Nat × List Int)) (ho : encO q.prg = o) (ad : Nat → Addr) (w : World) (hE : Errs w ad) (hp : PAt w w.heap.size q) (h : okP q.prg) :
    Calls Tryd.prog 11 #[v] w (EPost w ad o) := by
  obtain ⟨h1, h2, h3⟩ := ok_pv h
  have hm : (120 : Nat) ≤ maxLen := by decide
  exact encode_is q v hv o ho ad w hE hp (ok_cls h) (by omega) (by omega) (fun x hx => by have := h3 x hx; omega) (fun x hx => by have := h3 x hx; omega) (ok_num h)
theorem dec_small {l : List Nat} {P : Prg} {o : Option (Nat × List Int)} (h : decP l = (some P, o)) : l.length ≤ 16384 := by
  unfold decP at h
  split at h
  · cases h
  · omega
/-- what was read has bytes, and these -/
theorem enc_dec {l : List Nat} (hb : ∀ c ∈ l, c < 256) {P : Prg} (h : decP l = (some P, none)) : encO P = (some l, none) := by
  obtain ⟨_, h2, h3, _⟩ := dec_is l hb P none h
  have := dec_small h
  unfold encO
  rw [h2]
  dsimp only
  rw [← h3, if_neg (by omega)]
end Go.Proofs.YtnojejplckhifaaDoor
