/- Plain: how picks are read from bytes. -/
import Derived.Test.YtomabogjoampnaaDoorNum3
import Derived.Test.YtomabogjoampnaaDoorPutTake
namespace Go.Proofs.YtomabogjoampnaaDoor
open Go.RowKit
set_option linter.unusedVariables false

/-- the number at a place, up to 2^20 -/
def nr (l : List Nat) (a : Nat) : Option (Nat × Nat) :=
  match tk l (a : Int) with
  | some (u, nx) => if u ≤ 1048576 then some (u, nx) else none
  | none => none
theorem nr_some {l : List Nat} {a u nx : Nat} (h : nr l a = some (u, nx)) : tk l (a : Int) = some (u, nx) ∧ u ≤ 1048576 := by
  unfold nr at h
  split at h
  · split at h
    · cases h
      exact ⟨by assumption, by assumption⟩
    · cases h
  · cases h
theorem nr_none {l : List Nat} {a : Nat} (h : nr l a = none) : tk l (a : Int) = none ∨ ∃ u nx, tk l (a : Int) = some (u, nx) ∧ 1048576 < u := by
  unfold nr at h
  split at h
  · split at h
    · cases h
    · exact .inr ⟨_, _, by assumption, by omega⟩
  · exact .inl (by assumption)
theorem tk_next {l : List Nat} {a u nx : Nat} (hb : ∀ x ∈ l, x < 256) (h : tk l (a : Int) = some (u, nx)) : U64 u ∧ a < nx ∧ nx ≤ l.length ∧ l.take nx = l.take a ++ enc u := by
  by_cases ha : a < l.length
  · rw [tk_in l a ha] at h
    cases hf : takeF 0 0 (l.drop a) with
    | none => rw [hf] at h; cases h
    | some p =>
      rw [hf] at h
      obtain ⟨v, m⟩ := p
      simp at h
      obtain ⟨rfl, rfl⟩ := h
      obtain ⟨h1, h2, h3, _, h5⟩ := take_back _ v m hf (fun c hc => hb c (List.mem_of_mem_drop hc))
      refine ⟨h1, by omega, by simp at h3; omega, ?_⟩
      rw [h5, List.take_add]
  · rw [tk_neg l a (by omega)] at h
    cases h
def prsStep (l : List Nat) (a : Nat) (last : Int) : Option (Pk × Nat) :=
  match nr l a with
  | none => none
  | some (d, a1) => match nr l a1 with
    | none => none
    | some (act, a2) =>
      if act = 3 then match nr l a2 with
        | none => none
        | some (x, a3) => match nr l a3 with
          | none => none
          | some (y, a4) => some (⟨last + d, 3, x, y⟩, a4)
      else if act = 5 then match nr l a2 with
        | none => none
        | some (y, a3) => some (⟨last + d, 5, 0, y⟩, a3)
      else some (⟨last + d, act, 0, 0⟩, a2)
/-- where a step's first number that is none lies -/
inductive StepErr (l : List Nat) (a : Nat) : Nat → Prop
  | one : nr l a = none → StepErr l a a
  | two {d a1} : nr l a = some (d, a1) → nr l a1 = none → StepErr l a a1
  | thr {d a1 act a2} : nr l a = some (d, a1) → nr l a1 = some (act, a2) → (act = 3 ∨ act = 5) → nr l a2 = none → StepErr l a a2
  | four {d a1 a2 x a3} : nr l a = some (d, a1) → nr l a1 = some (3, a2) → nr l a2 = some (x, a3) → nr l a3 = none → StepErr l a a3
theorem stepErr_none {l : List Nat} {a e : Nat} (h : StepErr l a e) (last : Int) : prsStep l a last = none := by
  cases h with
  | one h => simp [prsStep, h]
  | two h h2 => simp [prsStep, h, h2]
  | thr h h2 h3 h4 => rcases h3 with rfl | rfl <;> simp [prsStep, h, h2, h4]
  | four h h2 h3 h4 => simp [prsStep, h, h2, h3, h4]
/-- these picks are what is read first; up to where, and the last safepoint -/
inductive Run (l : List Nat) : List Pk → Nat → Int → Prop
  | start : Run l [] 0 0
  | step {out : List Pk} {a : Nat} {last : Int} {p : Pk} {nx : Nat} : Run l out a last → a < l.length → prsStep l a last = some (p, nx) → Run l (out ++ [p]) nx p.at_
theorem snoc_inj {A : Type} {a b : List A} {x y : A} (h : a ++ [x] = b ++ [y]) : a = b ∧ x = y := by
  have := List.append_inj' h rfl
  exact ⟨this.1, by simpa using this.2⟩
theorem run_same {l : List Nat} {out : List Pk} {a : Nat} {last : Int} (h : Run l out a last) : ∀ {a' last'}, Run l out a' last' → a = a' ∧ last = last' := by
  induction h with
  | start =>
    intro a' last' h'
    generalize hz : ([] : List Pk) = z at h'
    cases h' with
    | start => exact ⟨rfl, rfl⟩
    | step _ _ _ => simp at hz
  | @step out a last p nx h1 h2 h3 ih =>
    intro a' last' h'
    generalize hz : out ++ [p] = z at h'
    cases h' with
    | start => simp at hz
    | @step out' b last2 q nx' k1 k2 k3 =>
      obtain ⟨rfl, rfl⟩ := snoc_inj hz
      obtain ⟨rfl, rfl⟩ := ih k1
      rw [h3] at k3
      cases k3
      exact ⟨rfl, rfl⟩
theorem run_take {l : List Nat} {z : List Pk} {e : Nat} {le : Int} (h : Run l z e le) : ∀ k, k < z.length → ∃ a last p nx, Run l (z.take k) a last ∧ a < l.length ∧ z[k]? = some p ∧ prsStep l a last = some (p, nx) := by
  induction h with
  | start => intro k hk; simp at hk
  | @step out a last p nx h1 h2 h3 ih =>
    intro k hk
    rcases Nat.lt_or_ge k out.length with hlt | hge
    · obtain ⟨a', last', q, mx, g1, g2, g3, g4⟩ := ih k hlt
      exact ⟨a', last', q, mx, by rw [List.take_append_of_le_length (by omega)]; exact g1, g2, by rw [List.getElem?_append_left hlt]; exact g3, g4⟩
    · have hk' : k = out.length := by simp at hk; omega
      subst hk'
      exact ⟨a, last, p, nx, by simpa using h1, h2, by simp, h3⟩
theorem run_prefix {l : List Nat} {z : List Pk} {e : Nat} {le : Int} (hz : Run l z e le) {out : List Pk} {a : Nat} {last : Int} (h : Run l out a last) : out.length ≤ z.length → out = z.take out.length := by
  induction h with
  | start => intro _; simp
  | @step out a last p nx h1 h2 h3 ih =>
    intro hl
    simp at hl
    have e1 := ih (by omega)
    obtain ⟨a', last', q, mx, g1, g2, g3, g4⟩ := run_take hz out.length (by omega)
    rw [← e1] at g1
    obtain ⟨rfl, rfl⟩ := run_same h1 g1
    rw [h3] at g4
    cases g4
    obtain ⟨hk, e2⟩ := List.getElem?_eq_some_iff.1 g3
    rw [List.length_append, List.length_singleton, List.take_succ_eq_append_getElem hk, ← e1, e2]
/-- a reading that stands before the end, and can not go on: there is none up to the end -/
theorem run_stuck {l : List Nat} {z out : List Pk} {a : Nat} {last le : Int} (hz : Run l z l.length le) (h : Run l out a last) (ha : a < l.length) (hn : prsStep l a last = none) : False := by
  rcases Nat.lt_or_ge out.length z.length with hlt | hge
  · have e1 := run_prefix hz h (by omega)
    obtain ⟨a', last', q, mx, g1, g2, g3, g4⟩ := run_take hz out.length hlt
    rw [← e1] at g1
    obtain ⟨rfl, rfl⟩ := run_same h g1
    rw [hn] at g4
    cases g4
  · have e1 := run_prefix h hz hge
    rcases Nat.lt_or_ge z.length out.length with hlt | hge'
    · obtain ⟨a', last', q, mx, g1, g2, g3, g4⟩ := run_take h z.length hlt
      rw [← e1] at g1
      obtain ⟨e2, _⟩ := run_same hz g1
      omega
    · rw [List.take_of_length_le (by omega)] at e1
      subst e1
      obtain ⟨e2, _⟩ := run_same hz h
      omega
theorem run_uniq {l : List Nat} {z z' : List Pk} {le le' : Int} (hz : Run l z l.length le) (hz' : Run l z' l.length le') : z = z' := by
  have key : ∀ {z z' : List Pk} {le le' : Int}, Run l z l.length le → Run l z' l.length le' → z.length ≤ z'.length → z = z' := by
    intro z z' le le' hz hz' hl
    have e1 := run_prefix hz' hz hl
    rcases Nat.lt_or_ge z.length z'.length with hlt | hge
    · obtain ⟨a', last', q, mx, g1, g2, g3, g4⟩ := run_take hz' z.length hlt
      rw [← e1] at g1
      obtain ⟨e2, _⟩ := run_same hz g1
      omega
    · rwa [List.take_of_length_le (by omega)] at e1
  rcases Nat.le_total z.length z'.length with h | h
  · exact key hz hz' h
  · exact (key hz' hz h).symm
theorem step_facts {l : List Nat} (hb : ∀ x ∈ l, x < 256) {a nx : Nat} {last : Int} {p : Pk} (h : prsStep l a last = some (p, nx)) : a < nx ∧ nx ≤ l.length ∧ last ≤ p.at_ ∧ p.at_ ≤ last + 1048576 ∧ l.take nx = l.take a ++ prn1 last p := by
  unfold prsStep at h
  cases h1 : nr l a with
  | none => rw [h1] at h; cases h
  | some x1 =>
    obtain ⟨d, a1⟩ := x1
    rw [h1] at h
    simp only [] at h
    obtain ⟨k1, u1⟩ := nr_some h1
    obtain ⟨_, m1, n1, t1⟩ := tk_next hb k1
    cases h2 : nr l a1 with
    | none => rw [h2] at h; cases h
    | some x2 =>
      obtain ⟨act, a2⟩ := x2
      rw [h2] at h
      simp only [] at h
      obtain ⟨k2, u2⟩ := nr_some h2
      obtain ⟨_, m2, n2, t2⟩ := tk_next hb k2
      have e0 : (last + (d : Int) - last).toNat = d := by omega
      by_cases h3 : act = 3
      · rw [if_pos h3] at h
        cases h4 : nr l a2 with
        | none => rw [h4] at h; cases h
        | some x3 =>
          obtain ⟨x, a3⟩ := x3
          rw [h4] at h
          simp only [] at h
          obtain ⟨k3, u3⟩ := nr_some h4
          obtain ⟨_, m3, n3, t3⟩ := tk_next hb k3
          cases h5 : nr l a3 with
          | none => rw [h5] at h; cases h
          | some x4 =>
            obtain ⟨y, a4⟩ := x4
            rw [h5] at h
            simp only [] at h
            obtain ⟨k4, u4⟩ := nr_some h5
            obtain ⟨_, m4, n4, t4⟩ := tk_next hb k4
            cases h
            subst h3
            refine ⟨by omega, n4, by simp only []; omega, by simp only []; omega, ?_⟩
            rw [t4, t3, t2, t1]
            simp [prn1, e0]
      · rw [if_neg h3] at h
        by_cases h5 : act = 5
        · rw [if_pos h5] at h
          cases h4 : nr l a2 with
          | none => rw [h4] at h; cases h
          | some x3 =>
            obtain ⟨y, a3⟩ := x3
            rw [h4] at h
            simp only [] at h
            obtain ⟨k3, u3⟩ := nr_some h4
            obtain ⟨_, m3, n3, t3⟩ := tk_next hb k3
            cases h
            subst h5
            refine ⟨by omega, n3, by simp only []; omega, by simp only []; omega, ?_⟩
            rw [t3, t2, t1]
            simp [prn1, e0]
        · rw [if_neg h5] at h
          cases h
          refine ⟨by omega, n2, by simp only []; omega, by simp only []; omega, ?_⟩
          have e3 : ¬ ((act : Int) = 3) := by omega
          have e5 : ¬ ((act : Int) = 5) := by omega
          rw [t2, t1]
          simp [prn1, e0, e3, e5]
theorem run_bytes {l : List Nat} (hb : ∀ x ∈ l, x < 256) {out : List Pk} {a : Nat} {last : Int} (h : Run l out a last) : a ≤ l.length ∧ out.length ≤ a ∧ 0 ≤ last ∧ last ≤ 1048576 * out.length := by
  induction h with
  | start => simp
  | @step out a last p nx h1 h2 h3 ih =>
    obtain ⟨g1, g2, g3, g4, _⟩ := step_facts hb h3
    simp only [List.length_append, List.length_singleton]
    omega
theorem prn_snoc (out : List Pk) (p : Pk) : ∀ last, prn last (out ++ [p]) = prn last out ++ prn1 (lastOf last out) p := by
  induction out with
  | nil => intro last; simp [prn, lastOf]
  | cons q out ih => intro last; simp [prn, lastOf, ih]
theorem run_prn {l : List Nat} (hb : ∀ x ∈ l, x < 256) {out : List Pk} {a : Nat} {last : Int} (h : Run l out a last) : prn 0 out = l.take a ∧ lastOf 0 out = last := by
  induction h with
  | start => simp [prn, lastOf]
  | @step out a last p nx h1 h2 h3 ih =>
    obtain ⟨g1, g2, g3, g4, g5⟩ := step_facts hb h3
    rw [prn_snoc, ih.1, ih.2, g5, lastOf_snoc]
    exact ⟨rfl, rfl⟩
end Go.Proofs.YtomabogjoampnaaDoor
