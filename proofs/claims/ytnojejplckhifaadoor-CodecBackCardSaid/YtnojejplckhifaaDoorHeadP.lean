/- Plain: which errors the reading of bytes has, and what becomes of bytes that do not begin as a program. -/
import Derived.Test.YtnojejplckhifaaDoorCdcP
namespace Go.Proofs.YtnojejplckhifaaDoor
open Go.RowKit
set_option linter.unusedVariables false

/-- the byte that stands there in the beginning -/
def hq : Nat → Nat
  | 0 => 79
  | 1 => 68
  | _ => 1
theorem failR_stay (s : RS) (k p : Nat) (h : s.err ≠ none) : failR s k p = s := by
  unfold failR
  split
  · rfl
  · rename_i h'; exact absurd h' h
theorem progR_head (l : List Nat) (e : Nat × Nat) (h : (headR l).err = some e) : (progR l).2.err = some e := by
  have e1 : (mapR progB prgV l ⟨0, none⟩).2 = (pR4 l (headR l)).2 := by
    unfold mapR progB pR2 pR3 bindR headR
    dsimp only
  have hne : (headR l).err ≠ none := by rw [h]; simp
  have e2 : (pR4 l (headR l)).2 = headR l := rd_p4.stay l _ hne
  rw [progR_eq]
  dsimp only
  rw [e1, e2]
  split
  · rw [failR_stay _ _ _ hne]; exact h
  · exact h
theorem dec_head (l : List Nat) (e : Nat × Nat) (h : (headR l).err = some e) (hl : l.length ≤ 16384) : decP l = (none, some (e.1, [(e.2 : Int)])) := by
  unfold decP
  rw [if_neg (by omega), progR_head l e h]
theorem head_end (l : List Nat) (i : Nat) (hi : i < 3) (hm : ∀ j, j < i → l[j]? = some (hq j)) (hl : l.length = i) : (headR l).err = some (5, i) := by
  rcases i with _ | _ | _ | i
  · obtain rfl := List.eq_nil_of_length_eq_zero hl
    rfl
  · match l, hl with
    | [a], _ =>
      have h0 := hm 0 (by decide)
      obtain rfl : a = 79 := by simpa [hq] using h0
      rfl
  · match l, hl with
    | [a, b], _ =>
      have h0 := hm 0 (by decide)
      have h1 := hm 1 (by decide)
      obtain rfl : a = 79 := by simpa [hq] using h0
      obtain rfl : b = 68 := by simpa [hq] using h1
      rfl
  · omega
theorem head_bad (l : List Nat) (i : Nat) (hi : i < 3) (hm : ∀ j, j < i → l[j]? = some (hq j)) (c : Nat) (hc : l[i]? = some c) (hne : c ≠ hq i) : (headR l).err = some (6, i) := by
  rcases i with _ | _ | _ | i
  · match l, hc with
    | a :: r, hc =>
      obtain rfl : a = c := by simpa using hc
      have : mIs 79 a = false := by simp [mIs]; exact hne
      simp [headR, byteR, this]
  · match l, hc with
    | a :: b :: r, hc =>
      obtain rfl : b = c := by simpa using hc
      have h0 := hm 0 (by decide)
      obtain rfl : a = 79 := by simpa [hq] using h0
      have : mIs 68 b = false := by simp [mIs]; exact hne
      have h2 : mIs 79 79 = true := by decide
      simp [headR, byteR, this, h2]
  · match l, hc with
    | a :: b :: d :: r, hc =>
      obtain rfl : d = c := by simpa using hc
      have h0 := hm 0 (by decide)
      have h1 := hm 1 (by decide)
      obtain rfl : a = 79 := by simpa [hq] using h0
      obtain rfl : b = 68 := by simpa [hq] using h1
      have : mIs 1 d = false := by simp [mIs]; exact hne
      have h2 : mIs 79 79 = true := by decide
      have h3 : mIs 68 68 = true := by decide
      simp [headR, byteR, this, h2, h3]
  · omega
/-! ### the errors' numbers -/
def EOk (s : RS) : Prop := ∀ e, s.err = some e → e.1 = 5 ∨ e.1 = 6
theorem eok_none (a : Nat) : EOk ⟨a, none⟩ := fun e h => by cases h
theorem eok_fail {s : RS} (p : Nat) (h : EOk s) : EOk (failR s 6 p) := by
  unfold failR
  split
  · exact h
  · intro e he; cases he; exact .inr rfl
theorem eok_byte (l : List Nat) (m : Nat → Bool) (s : RS) (h : EOk s) : EOk (byteR l m s).2 := by
  unfold byteR
  split
  · exact h
  · split
    · intro e he; cases he; exact .inl rfl
    · split
      · exact eok_none _
      · intro e he; cases he; exact .inr rfl
theorem eok_whole (l : List Nat) (s : RS) (h : EOk s) : EOk (wholeR l s).2 := by
  unfold wholeR
  split
  · exact h
  · split
    · exact eok_none _
    · intro e he
      dsimp only at he
      split at he <;> cases he
      · exact .inl rfl
      · exact .inr rfl
theorem eok_number (l : List Nat) (a b : Nat) (s : RS) (h : EOk s) : EOk (numberR l a b s).2 := by
  unfold numberR
  split
  · exact eok_fail _ (eok_whole l s h)
  · exact eok_whole l s h
theorem eok_times {α : Type} (f : RS → α × RS) (hf : ∀ s, EOk s → EOk (f s).2) (k : Nat) (s : RS) (h : EOk s) : EOk (timesR f k s).2 := by
  induction k with
  | zero => exact h
  | succ k ih => rw [timesR]; exact hf _ ih
theorem eok_letters (l : List Nat) (m : Nat) (s : RS) (h : EOk s) : EOk (lettersR l m s).2 := eok_times _ (fun s hs => eok_byte l mIR s hs) _ _ (eok_number l 0 m s h)
theorem eok_instr (l : List Nat) (s : RS) (h : EOk s) : EOk (instrR l s).2 := by
  have h0 := eok_byte l mOp s h
  have h1 : EOk (insA l (byteR l mOp s).1 (byteR l mOp s).2).2 := by
    unfold insA; split
    · exact eok_number _ _ _ _ h0
    · exact h0
  have h2 : EOk (insB l (byteR l mOp s).1 (insA l (byteR l mOp s).1 (byteR l mOp s).2).2).2 := by
    unfold insB; split
    · exact eok_number _ _ _ _ h1
    · exact h1
  unfold instrR
  dsimp only
  unfold insN
  split
  · exact eok_whole _ _ h2
  · exact h2
theorem eok_method (l : List Nat) (s : RS) (h : EOk s) : EOk (methodR l s).2 := by
  unfold methodR
  dsimp only
  exact eok_times _ (fun s hs => eok_instr l s hs) _ _ (eok_number _ _ _ _ (eok_byte _ _ _ (eok_letters _ _ _ (eok_letters _ _ _ h))))
theorem eok_prog (l : List Nat) : EOk (progR l).2 := by
  have h0 : EOk (headR l) := eok_byte _ _ _ (eok_byte _ _ _ (eok_byte _ _ _ (eok_none 0)))
  have h4 : EOk (timesR (methodR l) (numberR l 1 12 (timesR (classR l) (numberR l 0 12 (headR l)).1 (numberR l 0 12 (headR l)).2).2).1 (numberR l 1 12 (timesR (classR l) (numberR l 0 12 (headR l)).1 (numberR l 0 12 (headR l)).2).2).2).2 :=
    eok_times _ (fun s hs => eok_method l s hs) _ _ (eok_number _ _ _ _ (eok_times (classR l) (fun s hs => eok_letters l 10 s hs) _ _ (eok_number _ _ _ _ h0)))
  unfold progR
  dsimp only
  split
  · exact eok_fail _ h4
  · exact h4
/-- an error of prog.May: bare, or with two places -/
def MOk (o : Option (Nat × List Int)) : Prop := ∀ f, o = some f → f.1 < 4 ∧ ((f.1 = 0 ∧ f.2 = []) ∨ f.2.length = 2)
theorem mayC_lt (c : List UInt8) (k : Nat) (h : mayC c = some k) : k < 4 := by
  unfold mayC at h
  split at h
  · cases h; decide
  · split at h
    · cases h
    · cases h; decide
theorem mayI_lt (P : Prg) (m : Met) (x : Ins) (k : Nat) (h : mayI P m x = some k) : k < 4 := by
  unfold mayI at h
  split at h
  · cases h; decide
  · split at h
    · cases h; decide
    · split at h
      · cases h
      · cases h; decide
theorem mayH_lt (m : Met) (b : Bool) (k : Nat) (h : mayH m b = some k) : k < 4 := by
  unfold mayH at h
  split at h
  · cases h; decide
  · split at h
    · cases h
    · cases h; decide
theorem mok_two (k : Nat) (a b : Int) (h : k < 4) : MOk (some (k, [a, b])) := fun f hf => by cases hf; exact ⟨h, .inr rfl⟩
theorem mok_none : MOk none := fun f hf => by cases hf
theorem mok_cs : ∀ (l : List (List UInt8)) (i : Nat), MOk (mayCs i l)
  | [], _ => mok_none
  | c :: r, i => by
    rw [mayCs]
    split
    · rename_i k hk; exact mok_two _ _ _ (mayC_lt c k hk)
    · exact mok_cs r (i + 1)
theorem mok_is (P : Prg) (m : Met) (i : Nat) : ∀ (l : List Ins) (pc : Nat), MOk (mayIs P m i pc l)
  | [], _ => mok_none
  | x :: r, pc => by
    rw [mayIs]
    split
    · rename_i k hk; exact mok_two _ _ _ (mayI_lt P m x k hk)
    · exact mok_is P m i r (pc + 1)
theorem mok_m (P : Prg) (i : Nat) (m : Met) : MOk (mayM P i m) := by
  unfold mayM
  split
  · rename_i k hk; exact mok_two _ _ _ (mayH_lt m _ k hk)
  · exact mok_is P m i _ _
theorem mok_ms (P : Prg) : ∀ (l : List Met) (i : Nat), MOk (mayMs P i l)
  | [], _ => mok_none
  | m :: r, i => by
    rw [mayMs]
    split
    · rename_i f hf; rw [← hf]; exact mok_m P i m
    · exact mok_ms P r (i + 1)
theorem may_err (P : Prg) : MOk (mayP P) := by
  unfold mayP
  split
  · intro f hf; cases hf; exact ⟨by decide, .inl ⟨rfl, rfl⟩⟩
  · split
    · rename_i f hf; rw [← hf]; exact mok_cs _ _
    · exact mok_ms P _ _
theorem dec_err (l : List Nat) (f : Nat × List Int) (h : (decP l).2 = some f) : f.1 < 14 ∧ ((f.1 = 0 ∧ f.2 = []) ∨ 1 ≤ f.2.length) := by
  unfold decP at h
  split at h
  · cases h; exact ⟨by decide, .inl ⟨rfl, rfl⟩⟩
  · split at h
    · rename_i e he
      cases h
      have := eok_prog l e he
      exact ⟨by omega, .inr (by simp)⟩
    · split at h
      · rename_i g hg
        cases h
        obtain ⟨h1, h2 | h2⟩ := may_err _ _ hg
        · exact ⟨by omega, .inl h2⟩
        · exact ⟨by omega, .inr (by omega)⟩
      · cases h
/-- either a program or an error -/
theorem dec_cases (l : List Nat) : (∃ P, decP l = (some P, none)) ∨ ∃ f, decP l = (none, some f) := by
  unfold decP
  split
  · exact .inr ⟨_, rfl⟩
  · split
    · exact .inr ⟨_, rfl⟩
    · split
      · exact .inr ⟨_, rfl⟩
      · exact .inl ⟨_, rfl⟩
end Go.Proofs.YtnojejplckhifaaDoor
