/- Plain: bytes that are cut off: fewer picks, or they end too early. -/
import Derived.Test.YtomabogjoampnaaDoorCutP
namespace Go.Proofs.YtomabogjoampnaaDoor
open Go.RowKit
set_option linter.unusedVariables false

theorem takeF_app : ∀ (x y : List Nat) (i u : Nat) (r : Nat × Nat), takeF i u x = some r → takeF i u (x ++ y) = some r
  | [], y, i, u, r, h => by simp [takeF] at h
  | c :: x, y, i, u, r, h => by
    rw [List.cons_append, takeF]
    rw [takeF] at h
    split at h
    · cases h
    · rename_i h1
      rw [if_neg h1]
      split at h
      · cases h
      · rename_i h2
        rw [if_neg h2]
        split at h
        · rename_i h3
          rw [if_pos h3]
          exact h
        · rename_i h3
          rw [if_neg h3]
          exact takeF_app x y (i + 1) _ r h
theorem takeF_cut : ∀ (x y : List Nat) (i u : Nat) (r : Nat × Nat), takeF i u (x ++ y) = some r → takeF i u x = some r ∨ (allHigh x ∧ takeF i u x = none ∧ x.length + i < 10)
  | [], y, i, u, r, h => by
    right
    refine ⟨(fun x hx => absurd hx (by simp)), rfl, ?_⟩
    rcases Nat.lt_or_ge i 10 with h1 | h1
    · simpa using h1
    · rw [List.nil_append, takeF_ten i u y h1] at h
      cases h
  | c :: x, y, i, u, r, h => by
    rw [List.cons_append, takeF] at h
    split at h
    · cases h
    · rename_i h1
      split at h
      · cases h
      · rename_i h2
        split at h
        · rename_i h3
          left
          rw [takeF, if_neg h1, if_neg h2, if_pos h3]
          exact h
        · rename_i h3
          rcases takeF_cut x y (i + 1) _ r h with g | ⟨g1, g2, g3⟩
          · left
            rw [takeF, if_neg h1, if_neg h2, if_neg h3]
            exact g
          · right
            refine ⟨fun z hz => ?_, ?_, by simp; omega⟩
            · rcases List.mem_cons.1 hz with rfl | hz
              · omega
              · exact g1 z hz
            · rw [takeF, if_neg h1, if_neg h2, if_neg h3]
              exact g2
theorem tk_more {C D : List Nat} {a u nx : Nat} (h : tk C (a : Int) = some (u, nx)) : tk (C ++ D) (a : Int) = some (u, nx) := by
  by_cases ha : a < C.length
  · rw [tk_in C a ha] at h
    rw [tk_in (C ++ D) a (by simp; omega), List.drop_append_of_le_length (by omega)]
    cases hf : takeF 0 0 (C.drop a) with
    | none => rw [hf] at h; cases h
    | some r =>
      rw [hf] at h
      rw [takeF_app _ D 0 0 r hf]
      exact h
  · rw [tk_neg C a (by omega)] at h
    cases h
theorem tk_cut {C D : List Nat} {a u nx : Nat} (ha : a ≤ C.length) (h : tk (C ++ D) (a : Int) = some (u, nx)) : tk C (a : Int) = some (u, nx) ∨ short C a := by
  by_cases hlt : a < C.length
  · rw [tk_in (C ++ D) a (by simp; omega), List.drop_append_of_le_length (by omega)] at h
    cases hf : takeF 0 0 (C.drop a ++ D) with
    | none => rw [hf] at h; cases h
    | some r =>
      rcases takeF_cut _ D 0 0 r hf with g | ⟨g1, g2, g3⟩
      · left
        rw [hf] at h
        rw [tk_in C a hlt, g]
        exact h
      · right
        refine ⟨by rw [tk_in C a hlt, g2]; rfl, by simp at g3; omega, g1⟩
  · right
    refine ⟨tk_neg C a (by omega), by omega, ?_⟩
    rw [List.drop_eq_nil_of_le (by omega)]
    intro x hx
    cases hx
theorem nr_more {C D : List Nat} {a : Nat} {r : Nat × Nat} (h : nr C a = some r) : nr (C ++ D) a = some r := by
  obtain ⟨u, nx⟩ := r
  obtain ⟨h1, h2⟩ := nr_some h
  unfold nr
  rw [tk_more h1]
  simp [h2]
theorem nr_cut {C D : List Nat} {a : Nat} {r : Nat × Nat} (ha : a ≤ C.length) (h : nr (C ++ D) a = some r) (hn : nr C a = none) : short C a := by
  obtain ⟨u, nx⟩ := r
  obtain ⟨h1, h2⟩ := nr_some h
  rcases tk_cut ha h1 with g | g
  · unfold nr at hn
    rw [g] at hn
    simp [h2] at hn
  · exact g
theorem step_more {C D : List Nat} {a nx : Nat} {last : Int} {p : Pk} (h : prsStep C a last = some (p, nx)) : prsStep (C ++ D) a last = some (p, nx) := by
  unfold prsStep at h ⊢
  cases h1 : nr C a with
  | none => rw [h1] at h; cases h
  | some x1 =>
    obtain ⟨d, a1⟩ := x1
    rw [h1] at h
    rw [nr_more h1]
    dsimp only at h ⊢
    cases h2 : nr C a1 with
    | none => rw [h2] at h; cases h
    | some x2 =>
      obtain ⟨act, a2⟩ := x2
      rw [h2] at h
      rw [nr_more h2]
      dsimp only at h ⊢
      by_cases h3 : act = 3
      · rw [if_pos h3] at h ⊢
        cases h4 : nr C a2 with
        | none => rw [h4] at h; cases h
        | some x3 =>
          obtain ⟨x, a3⟩ := x3
          rw [h4] at h
          rw [nr_more h4]
          dsimp only at h ⊢
          cases h5 : nr C a3 with
          | none => rw [h5] at h; cases h
          | some x4 =>
            obtain ⟨y, a4⟩ := x4
            rw [h5] at h
            rw [nr_more h5]
            exact h
      · rw [if_neg h3] at h ⊢
        by_cases h5 : act = 5
        · rw [if_pos h5] at h ⊢
          cases h4 : nr C a2 with
          | none => rw [h4] at h; cases h
          | some x3 =>
            obtain ⟨y, a3⟩ := x3
            rw [h4] at h
            rw [nr_more h4]
            exact h
        · rw [if_neg h5] at h ⊢
          exact h
theorem run_more {C D : List Nat} {out : List Pk} {a : Nat} {last : Int} (h : Run C out a last) : Run (C ++ D) out a last := by
  induction h with
  | start => exact .start
  | step h1 h2 h3 ih => exact .step ih (by simp; omega) (step_more h3)
theorem err_short {C D : List Nat} (hb : ∀ x ∈ C, x < 256) {a e : Nat} {last : Int} {r : Pk × Nat} (h : StepErr C a e) (ha : a ≤ C.length) (hs : prsStep (C ++ D) a last = some r) : short C e := by
  have key : ∀ {e}, e ≤ C.length → nr C e = none → (nr (C ++ D) e = none → StepErr (C ++ D) a e) → short C e := by
    intro e he hn hB
    cases hx : nr (C ++ D) e with
    | none =>
      have := stepErr_none (hB hx) last
      rw [hs] at this
      cases this
    | some r => exact nr_cut he hx hn
  have nx : ∀ {a u b}, nr C a = some (u, b) → b ≤ C.length := fun h => (tk_next hb (nr_some h).1).2.2.1
  cases h with
  | one h1 => exact key ha h1 .one
  | two h1 h2 => exact key (nx h1) h2 (.two (nr_more h1))
  | thr h1 h2 h3 h4 => exact key (nx h2) h4 (.thr (nr_more h1) (nr_more h2) h3)
  | four h1 h2 h3 h4 => exact key (nx h3) h4 (.four (nr_more h1) (nr_more h2) (nr_more h3))
theorem cut_ok {B C D : List Nat} {l z : List Pk} {le le' : Int} (hB : B = C ++ D) (hlt : C.length < B.length) (hl : Run B l B.length le') (hz : Run C z C.length le) : z = l.take z.length ∧ z.length < l.length := by
  have hz' : Run B z C.length le := by rw [hB]; exact run_more hz
  rcases Nat.lt_or_ge z.length l.length with h | h
  · exact ⟨run_prefix hl hz' (by omega), h⟩
  · exfalso
    have e1 := run_prefix hz' hl h
    rcases Nat.lt_or_ge l.length z.length with h' | h'
    · obtain ⟨a', last', q, mx, g1, g2, g3, g4⟩ := run_take hz' l.length h'
      rw [← e1] at g1
      have := (run_same hl g1).1
      omega
    · rw [List.take_of_length_le (by omega)] at e1
      subst e1
      have := (run_same hl hz').1
      omega
theorem cut_err {B C D : List Nat} {l out : List Pk} {a x k pos : Nat} {last le' : Int} (hb : ∀ x ∈ C, x < 256) (hB : B = C ++ D) (hl : Run B l B.length le') (h : Run C out a last) (ha : a < C.length) (hx : StepErr C a x) (hn : NErr C x k pos) : k = 5 ∧ pos = C.length := by
  have h' : Run B out a last := by rw [hB]; exact run_more h
  cases hs : prsStep B a last with
  | none => exact (run_stuck hl h' (by rw [hB]; simp; omega) hs).elim
  | some r =>
    rw [hB] at hs
    have hsh := err_short hb hx (by omega) hs
    rcases hn with ⟨_, h1, h2⟩ | ⟨h1, _⟩
    · exact ⟨h1, h2⟩
    · exact absurd hsh h1
theorem mayF_take : ∀ (l : List Pk) (k i : Nat) (last : Int), mayF i last l = none → mayF i last (l.take k) = none
  | [], k, i, last, h => by simp [mayF]
  | p :: r, 0, i, last, h => rfl
  | p :: r, k + 1, i, last, h => by
    obtain ⟨h1, h2⟩ := mayF_none h p r rfl
    rw [List.take_succ_cons, mayF, if_pos h1]
    exact mayF_take r k (i + 1) p.at_ h2
theorem Reads.take {w : World} {B size n k : Nat} {A : Option Addr} {xs : List Value} (h : Reads w B size A n xs) (hk : k ≤ n) : Reads w B size A k (xs.take (k * size)) := by
  have hl := h.1
  have hm : k * size ≤ n * size := Nat.mul_le_mul_right size hk
  refine ⟨by rw [List.length_take]; omega, fun h0 => ?_⟩
  obtain ⟨ad, e, hb, hc⟩ := h.2 (by omega)
  refine ⟨ad, e, hb, fun j u hu => ?_⟩
  rw [List.getElem?_take] at hu
  split at hu
  · exact hc j u hu
  · cases hu
theorem pks_app (a b : List Pk) : pks (a ++ b) = pks a ++ pks b := by simp [pks]
theorem pks_take (l : List Pk) (k : Nat) (hk : k ≤ l.length) : pks (l.take k) = (pks l).take (k * 4) := by
  have e : pks l = pks (l.take k) ++ pks (l.drop k) := by rw [← pks_app, List.take_append_drop]
  have hl : (pks (l.take k)).length = k * 4 := by rw [pks_len, List.length_take]; omega
  generalize pks (l.take k) = x at e hl
  rw [e, ← hl, List.take_left']
  rfl
theorem prn_nil_iff (l : List Pk) : (prn 0 l).length = 0 ↔ l = [] := by
  rcases l with _ | ⟨p, r⟩
  · simp [prn]
  · have := prn1_pos 0 p
    constructor
    · intro h
      simp [prn] at h
      rw [h.1] at this
      simp at this
    · intro h; cases h
end Go.Proofs.YtomabogjoampnaaDoor
