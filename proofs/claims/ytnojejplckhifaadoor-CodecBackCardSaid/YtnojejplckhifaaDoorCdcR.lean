/- Plain: what reads back what was put, and stands where it stood: readers and their bytes. No program here. -/
import Derived.Test.YtnojejplckhifaaDoorCdc
namespace Go.Proofs.YtnojejplckhifaaDoor
open Go.RowKit
set_option linter.unusedVariables false

def allHigh (l : List Nat) : Prop := ∀ x ∈ l, 128 ≤ x
def short (l : List Nat) (at_ : Nat) : Prop := tk l (at_ : Int) = none ∧ l.length - at_ < 10 ∧ allHigh (l.drop at_)
theorem takeF_app : ∀ (x y : List Nat) (i u : Nat) (r : Nat × Nat), takeF i u x = some r → takeF i u (x ++ y) = some r
  | [], y, i, u, r, h => by simp [takeF] at h
  | c :: x, y, i, u, r, h => by
    rw [List.cons_append, takeF]
    rw [takeF] at h
    split at h
    · cases h
    · rename_i h1
      rw [if_neg h1]
      split at h
      · cases h
      · rename_i h2
        rw [if_neg h2]
        split at h
        · rename_i h3
          rw [if_pos h3]
          exact h
        · rename_i h3
          rw [if_neg h3]
          exact takeF_app x y (i + 1) _ r h
theorem takeF_cut : ∀ (x y : List Nat) (i u : Nat) (r : Nat × Nat), takeF i u (x ++ y) = some r → takeF i u x = some r ∨ (allHigh x ∧ takeF i u x = none ∧ x.length + i < 10)
  | [], y, i, u, r, h => by
    right
    refine ⟨(fun x hx => absurd hx (by simp)), rfl, ?_⟩
    rcases Nat.lt_or_ge i 10 with h1 | h1
    · simpa using h1
    · rw [List.nil_append, takeF_ten i u y h1] at h
      cases h
  | c :: x, y, i, u, r, h => by
    rw [List.cons_append, takeF] at h
    split at h
    · cases h
    · rename_i h1
      split at h
      · cases h
      · rename_i h2
        split at h
        · rename_i h3
          left
          rw [takeF, if_neg h1, if_neg h2, if_pos h3]
          exact h
        · rename_i h3
          rcases takeF_cut x y (i + 1) _ r h with g | ⟨g1, g2, g3⟩
          · left
            rw [takeF, if_neg h1, if_neg h2, if_neg h3]
            exact g
          · right
            refine ⟨fun z hz => ?_, ?_, by simp; omega⟩
            · rcases List.mem_cons.1 hz with rfl | hz
              · omega
              · exact g1 z hz
            · rw [takeF, if_neg h1, if_neg h2, if_neg h3]
              exact g2
theorem tk_more {C D : List Nat} {a u nx : Nat} (h : tk C (a : Int) = some (u, nx)) : tk (C ++ D) (a : Int) = some (u, nx) := by
  by_cases ha : a < C.length
  · rw [tk_in C a ha] at h
    rw [tk_in (C ++ D) a (by simp; omega), List.drop_append_of_le_length (by omega)]
    cases hf : takeF 0 0 (C.drop a) with
    | none => rw [hf] at h; cases h
    | some r =>
      rw [hf] at h
      rw [takeF_app _ D 0 0 r hf]
      exact h
  · rw [tk_neg C a (by omega)] at h
    cases h
theorem tk_cut {C D : List Nat} {a u nx : Nat} (ha : a ≤ C.length) (h : tk (C ++ D) (a : Int) = some (u, nx)) : tk C (a : Int) = some (u, nx) ∨ short C a := by
  by_cases hlt : a < C.length
  · rw [tk_in (C ++ D) a (by simp; omega), List.drop_append_of_le_length (by omega)] at h
    cases hf : takeF 0 0 (C.drop a ++ D) with
    | none => rw [hf] at h; cases h
    | some r =>
      rcases takeF_cut _ D 0 0 r hf with g | ⟨g1, g2, g3⟩
      · left
        rw [hf] at h
        rw [tk_in C a hlt, g]
        exact h
      · right
        refine ⟨by rw [tk_in C a hlt, g2]; rfl, by simp at g3; omega, g1⟩
  · right
    refine ⟨tk_neg C a (by omega), by omega, ?_⟩
    rw [List.drop_eq_nil_of_le (by omega)]
    intro x hx
    cases hx
theorem takeF_le : ∀ (x : List Nat) (i u : Nat) (r : Nat × Nat), takeF i u x = some r → r.2 ≤ i + x.length
  | [], i, u, r, h => by simp [takeF] at h
  | c :: x, i, u, r, h => by
    rw [takeF] at h
    split at h
    · cases h
    · split at h
      · cases h
      · split at h
        · split at h
          · cases h
          · simp at h
            rw [← h]
            simp
        · have := takeF_le x (i + 1) _ r h
          simp
          omega
theorem tk_le {C : List Nat} {a u nx : Nat} (h : tk C (a : Int) = some (u, nx)) : nx ≤ C.length := by
  by_cases ha : a < C.length
  · rw [tk_in C a ha] at h
    cases hf : takeF 0 0 (C.drop a) with
    | none => rw [hf] at h; cases h
    | some r =>
      rw [hf] at h
      simp at h
      have := takeF_le _ 0 0 r hf
      simp at this
      omega
  · rw [tk_neg C a (by omega)] at h
    cases h
theorem tk_next {l : List Nat} {a u nx : Nat} (hb : ∀ x ∈ l, x < 256) (h : tk l (a : Int) = some (u, nx)) : U64 u ∧ a < nx ∧ nx ≤ l.length ∧ l.take nx = l.take a ++ enc u := by
  by_cases ha : a < l.length
  · rw [tk_in l a ha] at h
    cases hf : takeF 0 0 (l.drop a) with
    | none => rw [hf] at h; cases h
    | some p =>
      rw [hf] at h
      obtain ⟨v, m⟩ := p
      simp at h
      obtain ⟨rfl, rfl⟩ := h
      obtain ⟨h1, h2, h3, _, h5⟩ := take_back _ v m hf (fun c hc => hb c (List.mem_of_mem_drop hc))
      refine ⟨h1, by omega, by simp at h3; omega, ?_⟩
      rw [h5, List.take_add]
  · rw [tk_neg l a (by omega)] at h
    cases h
theorem shortB_of {l : List Nat} {a : Nat} (ha : a ≤ l.length) (h : short l a) : shortB l a = true := by
  obtain ⟨_, h1, h2⟩ := h
  unfold shortB
  rw [Bool.and_eq_true]
  refine ⟨by simpa using (show l.length < a + 10 by omega), List.all_eq_true.2 fun x hx => by simpa using h2 x hx⟩
theorem pre_app {x y z : List Nat} (h : x <+: z) (h' : y <+: z.drop x.length) : x ++ y <+: z := by
  obtain ⟨r, rfl⟩ := h
  rw [List.drop_left] at h'
  obtain ⟨q, rfl⟩ := h'
  exact ⟨q, by simp⟩
theorem app_pre {x y z : List Nat} (h : x ++ y <+: z) : x <+: z ∧ y <+: z.drop x.length := by
  obtain ⟨r, rfl⟩ := h
  rw [List.append_assoc]
  exact ⟨List.prefix_append _ _, by rw [List.drop_left]; exact List.prefix_append _ _⟩
/-- what is left is too short for x and y: too short for x, or x stands there and what is left is too short for y -/
theorem short_app {x y z : List Nat} (h : z <+: x ++ y) (hl : z.length < (x ++ y).length) : (z <+: x ∧ z.length < x.length) ∨ (x <+: z ∧ z.drop x.length <+: y ∧ (z.drop x.length).length < y.length) := by
  rcases Nat.lt_or_ge z.length x.length with h1 | h1
  · exact .inl ⟨List.prefix_of_prefix_length_le h (List.prefix_append x y) (by omega), h1⟩
  · have hx : x <+: z := List.prefix_of_prefix_length_le (List.prefix_append x y) h h1
    right
    obtain ⟨r, rfl⟩ := hx
    rw [List.drop_left]
    rw [List.prefix_append_right_inj] at h
    exact ⟨List.prefix_append _ _, h, by simp at hl; omega⟩

/-- a reader and its bytes -/
structure Rd {α : Type} (f : List Nat → RS → α × RS) (e : α → List Nat) (ok : α → Prop) : Prop where
  stay : ∀ l s, s.err ≠ none → (f l s).2 = s
  back : ∀ l a x, ok x → e x <+: l.drop a → f l ⟨a, none⟩ = (x, ⟨a + (e x).length, none⟩)
  is : ∀ l a x a', (∀ c ∈ l, c < 256) → f l ⟨a, none⟩ = (x, ⟨a', none⟩) → ok x ∧ e x <+: l.drop a ∧ a' = a + (e x).length
  cut : ∀ l a x, ok x → a ≤ l.length → l.drop a <+: e x → (l.drop a).length < (e x).length → (f l ⟨a, none⟩).2.err = some (5, l.length)

theorem pair_eta {α β : Type} (p : α × β) {x : α} {y : β} (h1 : p.1 = x) (h2 : p.2 = y) : p = (x, y) := by cases p; simp_all
theorem rs_none {s : RS} (h : s.err = none) : s = ⟨s.at_, none⟩ := by cases s; simp_all

/-- one behind the other -/
def bindR {α β : Type} (f : List Nat → RS → α × RS) (g : α → List Nat → RS → β × RS) (l : List Nat) (s : RS) : (α × β) × RS :=
  (((f l s).1, (g (f l s).1 l (f l s).2).1), (g (f l s).1 l (f l s).2).2)
theorem Rd.bind {α β : Type} {f : List Nat → RS → α × RS} {e : α → List Nat} {ok : α → Prop} {g : α → List Nat → RS → β × RS} {e' : α → β → List Nat} {ok' : α → β → Prop}
    (hf : Rd f e ok) (hs : ∀ x l s, s.err ≠ none → (g x l s).2 = s) (hg : ∀ x, ok x → Rd (g x) (e' x) (ok' x)) :
    Rd (bindR f g) (fun p => e p.1 ++ e' p.1 p.2) (fun p => ok p.1 ∧ ok' p.1 p.2) where
  stay l s h := by
    show (g (f l s).1 l (f l s).2).2 = s
    rw [hf.stay l s h, hs _ _ _ h]
  back l a x h hp := by
    obtain ⟨h1, h2⟩ := app_pre hp
    have hb := hf.back l a x.1 h.1 h1
    rw [List.drop_drop] at h2
    have hc := (hg x.1 h.1).back l _ x.2 h.2 h2
    show (((f l ⟨a, none⟩).1, (g (f l ⟨a, none⟩).1 l (f l ⟨a, none⟩).2).1), (g (f l ⟨a, none⟩).1 l (f l ⟨a, none⟩).2).2) = _
    rw [hb]
    simp only []
    rw [hc]
    simp [Nat.add_assoc]
  is l a x a' hl h := by
    have h' : (((f l ⟨a, none⟩).1, (g (f l ⟨a, none⟩).1 l (f l ⟨a, none⟩).2).1), (g (f l ⟨a, none⟩).1 l (f l ⟨a, none⟩).2).2) = (x, ⟨a', none⟩) := h
    have hE : (f l ⟨a, none⟩).2.err = none := by
      cases hq : (f l ⟨a, none⟩).2.err with
      | none => rfl
      | some v =>
        have h2 := congrArg Prod.snd h'
        simp only [] at h2
        rw [hs _ l (f l ⟨a, none⟩).2 (by rw [hq]; simp)] at h2
        rw [h2] at hq
        cases hq
    obtain ⟨a1, ha1⟩ : ∃ a1, (f l ⟨a, none⟩).2 = ⟨a1, none⟩ := ⟨_, rs_none hE⟩
    obtain ⟨y, hy⟩ : ∃ y, (f l ⟨a, none⟩).1 = y := ⟨_, rfl⟩
    rw [ha1, hy] at h'
    obtain ⟨o1, p1, q1⟩ := hf.is l a y a1 hl (pair_eta _ hy ha1)
    have hx : (y, (g y l ⟨a1, none⟩).1) = x := congrArg Prod.fst h'
    have hst : (g y l ⟨a1, none⟩).2 = ⟨a', none⟩ := congrArg Prod.snd h'
    subst hx
    obtain ⟨o2, p2, q2⟩ := (hg y o1).is l a1 _ a' hl (pair_eta _ rfl hst)
    subst q1
    exact ⟨⟨o1, o2⟩, pre_app p1 (by rw [List.drop_drop]; exact p2), by simp; omega⟩
  cut l a x h ha hp hlt := by
    show (g (f l ⟨a, none⟩).1 l (f l ⟨a, none⟩).2).2.err = _
    rcases short_app hp hlt with ⟨h1, h2⟩ | ⟨h1, h2, h3⟩
    · have hc := hf.cut l a x.1 h.1 ha h1 h2
      rw [hs _ _ _ (by rw [hc]; simp)]
      exact hc
    · rw [hf.back l a x.1 h.1 h1]
      rw [List.drop_drop] at h2 h3
      have hle : (e x.1).length ≤ (l.drop a).length := h1.length_le
      exact (hg x.1 h.1).cut l _ x.2 h.2 (by simp at hle; omega) h2 h3
/-- seen otherwise -/
def mapR {α β : Type} (f : List Nat → RS → α × RS) (φ : α → β) (l : List Nat) (s : RS) : β × RS := (φ (f l s).1, (f l s).2)
theorem Rd.map {α β : Type} {f : List Nat → RS → α × RS} {e : α → List Nat} {ok : α → Prop} (φ : α → β) (ψ : β → α) {e' : β → List Nat} {ok' : β → Prop} (hf : Rd f e ok)
    (h1 : ∀ x, ok x → ok' (φ x) ∧ e' (φ x) = e x) (h2 : ∀ y, ok' y → ok (ψ y) ∧ φ (ψ y) = y ∧ e (ψ y) = e' y) : Rd (mapR f φ) e' ok' where
  stay l s h := hf.stay l s h
  back l a y h hp := by
    obtain ⟨k1, k2, k3⟩ := h2 y h
    have := hf.back l a (ψ y) k1 (by rw [k3]; exact hp)
    show (φ (f l ⟨a, none⟩).1, (f l ⟨a, none⟩).2) = _
    rw [this, k3]
    simp only [k2]
  is l a y a' hl h := by
    have h' : (φ (f l ⟨a, none⟩).1, (f l ⟨a, none⟩).2) = (y, ⟨a', none⟩) := h
    obtain ⟨k1, k2, k3⟩ := hf.is l a _ a' hl (pair_eta _ rfl (congrArg Prod.snd h'))
    have hy : φ (f l ⟨a, none⟩).1 = y := congrArg Prod.fst h'
    obtain ⟨j1, j2⟩ := h1 _ k1
    rw [hy] at j1 j2
    exact ⟨j1, by rw [j2]; exact k2, by rw [j2]; exact k3⟩
  cut l a y h ha hp hlt := by
    obtain ⟨k1, k2, k3⟩ := h2 y h
    exact hf.cut l a (ψ y) k1 ha (by rw [k3]; exact hp) (by rw [k3]; exact hlt)
/-- the same reader, the same bytes, said otherwise -/
theorem Rd.same {α : Type} {f f' : List Nat → RS → α × RS} {e e' : α → List Nat} {ok ok' : α → Prop} (hf : Rd f e ok) (h0 : ∀ l s, f' l s = f l s) (h1 : ∀ x, ok x ↔ ok' x) (h2 : ∀ x, ok x → e' x = e x) : Rd f' e' ok' := by
  have hff : f' = f := by funext l s; exact h0 l s
  subst hff
  have := hf.map (fun x => x) (fun x => x) (e' := e') (ok' := ok') (fun x hx => ⟨(h1 x).1 hx, h2 x hx⟩) (fun y hy => ⟨(h1 y).2 hy, rfl, (h2 y ((h1 y).2 hy)).symm⟩)
  exact this
theorem times_stay {α : Type} {f : List Nat → RS → α × RS} (hf : ∀ l s, s.err ≠ none → (f l s).2 = s) (l : List Nat) : ∀ (k : Nat) (s : RS), s.err ≠ none → (timesR (f l) k s).2 = s
  | 0, s, _ => rfl
  | k + 1, s, h => by
    show (f l (timesR (f l) k s).2).2 = s
    rw [times_stay hf l k s h, hf l s h]
theorem flat_snoc {α : Type} (e : α → List Nat) (xs : List α) (x : α) : (xs ++ [x]).flatMap e = xs.flatMap e ++ e x := by simp
theorem Rd.times {α : Type} {f : List Nat → RS → α × RS} {e : α → List Nat} {ok : α → Prop} (hf : Rd f e ok) : ∀ k : Nat, Rd (fun l s => timesR (f l) k s) (fun xs => xs.flatMap e) (fun xs => xs.length = k ∧ ∀ x ∈ xs, ok x)
  | 0 => by
    refine ⟨fun l s _ => rfl, ?_, ?_, ?_⟩
    · rintro l a x ⟨h, _⟩ _
      rw [List.length_eq_zero_iff] at h
      subst h
      rfl
    · intro l a x a' _ h
      have h1 : [] = x := congrArg Prod.fst h
      have h2 : (⟨a, none⟩ : RS) = ⟨a', none⟩ := congrArg Prod.snd h
      injection h2 with h2
      subst h1 h2
      exact ⟨⟨rfl, fun x hx => by cases hx⟩, List.nil_prefix, rfl⟩
    · rintro l a x ⟨h, _⟩ _ _ hlt
      rw [List.length_eq_zero_iff] at h
      subst h
      simp at hlt
  | k + 1 => by
    have ih := Rd.times hf k
    have := (Rd.bind ih (g := fun _ => f) (fun _ => hf.stay) (fun _ _ => hf)).map (fun p => p.1 ++ [p.2]) (fun xs => if h : xs = [] then ([], (f [] ⟨0, none⟩).1) else (xs.dropLast, xs.getLast h)) (e' := fun xs => xs.flatMap e) (ok' := fun xs => xs.length = k + 1 ∧ ∀ x ∈ xs, ok x)
      (by
        rintro ⟨xs, x⟩ ⟨⟨h1, h2⟩, h3⟩
        refine ⟨⟨by simp at h1 ⊢; exact h1, fun y hy => ?_⟩, flat_snoc e xs x⟩
        rcases List.mem_append.1 hy with hy | hy
        · exact h2 y hy
        · rw [List.mem_singleton] at hy; subst hy; exact h3)
      (by
        rintro xs ⟨h1, h2⟩
        have hne : xs ≠ [] := by intro h; subst h; cases h1
        rw [dif_neg hne]
        have hxs := List.dropLast_concat_getLast hne
        refine ⟨⟨⟨by simp; omega, fun y hy => h2 y (List.dropLast_subset xs hy)⟩, h2 _ (List.getLast_mem hne)⟩, hxs, ?_⟩
        show xs.dropLast.flatMap e ++ e (xs.getLast hne) = xs.flatMap e
        rw [← flat_snoc, hxs])
    exact this.same (fun l s => rfl) (fun x => Iff.rfl) (fun x _ => rfl)

/-! ### a byte, a number -/
theorem get_of_pre {c : Nat} {r l : List Nat} {a : Nat} (h : [c] ++ r <+: l.drop a) : l[a]? = some c := by
  obtain ⟨q, hq⟩ := h
  have : (l.drop a)[0]? = some c := by rw [← hq]; rfl
  simpa using this
theorem pre_of_get {c : Nat} {l : List Nat} {a : Nat} (h : l[a]? = some c) : [c] <+: l.drop a := by
  obtain ⟨hlt, hx⟩ := List.getElem?_eq_some_iff.1 h
  rw [List.drop_eq_getElem_cons hlt, hx]
  exact ⟨_, rfl⟩
theorem rd_byte (may : Nat → Bool) : Rd (fun l => byteR l may) (fun c => [c]) (fun c => may c = true ∧ c < 256) where
  stay l s h := by
    unfold byteR
    split
    · rfl
    · exact absurd (by assumption) h
  back l a c h hp := by
    have := get_of_pre (r := []) (by simpa using hp)
    simp [byteR, this, h.1]
  is l a c a' hl h := by
    unfold byteR at h
    simp only [] at h
    split at h
    · simp at h
    · rename_i x hx
      split at h
      · simp at h
        obtain ⟨rfl, rfl⟩ := h
        exact ⟨⟨by assumption, hl _ (List.mem_of_getElem? hx)⟩, pre_of_get hx, rfl⟩
      · simp at h
  cut l a c h ha hp hlt := by
    have h0 : (l.drop a).length = 0 := by simpa using hlt
    simp at h0
    have : l[a]? = none := List.getElem?_eq_none (by omega)
    simp [byteR, this]
theorem tk_pre {l : List Nat} {a u : Nat} (hu : U64 u) (h : enc u <+: l.drop a) : tk l (a : Int) = some (u, a + (enc u).length) := by
  have hp := enc_pos u
  have hl := h.length_le
  simp at hl
  obtain ⟨r, hr⟩ := h
  have := tk_enc (l.take a) r u hu
  rw [hr, List.take_append_drop, List.length_take, Nat.min_eq_left (by omega)] at this
  exact this
theorem rd_whole : Rd wholeR enc U64 where
  stay l s h := by
    unfold wholeR
    split
    · rfl
    · exact absurd (by assumption) h
  back l a u h hp := by simp [wholeR, tk_pre h hp]
  is l a u a' hl h := by
    unfold wholeR at h
    simp only [] at h
    split at h
    · rename_i p hp
      simp at h
      obtain ⟨rfl, rfl⟩ := h
      obtain ⟨k1, k2, k3, k4⟩ := tk_next hl (show tk l (a : Int) = some (p.1, p.2) from hp)
      have e : enc p.1 = (l.drop a).take (p.2 - a) := by
        have h5 : l.take p.2 = l.take a ++ (l.drop a).take (p.2 - a) := by rw [← List.take_add]; congr 1; omega
        rw [h5] at k4
        exact (List.append_cancel_left k4).symm
      refine ⟨k1, by rw [e]; exact List.take_prefix _ _, ?_⟩
      rw [e]
      simp
      omega
    · simp at h
  cut l a u h ha hp hlt := by
    obtain ⟨r, hr⟩ := hp
    have hk : tk (l ++ r) (a : Int) = some (u, a + (enc u).length) := tk_pre h (by rw [List.drop_append_of_le_length ha, hr]; exact List.prefix_rfl)
    rcases tk_cut ha hk with h1 | h1
    · have h2 := tk_le h1
      simp at hlt
      omega
    · simp [wholeR, h1.1, shortB_of ha h1]
theorem rd_number (least greatest : Nat) (hg : greatest ≤ 1048576) : Rd (fun l => numberR l least greatest) enc (fun u => least ≤ u ∧ u ≤ greatest) where
  stay l s h := by
    show (numberR l least greatest s).2 = s
    unfold numberR
    split
    · rw [rd_whole.stay l s h]
      unfold failR
      split
      · rfl
      · exact absurd (by assumption) h
    · exact rd_whole.stay l s h
  back l a u h hp := by
    have := rd_whole.back l a u (Nat.lt_of_le_of_lt (Nat.le_trans h.2 hg) (by decide)) hp
    show numberR l least greatest ⟨a, none⟩ = _
    unfold numberR
    rw [this, if_neg (by simp; omega)]
  is l a u a' hl h := by
    have h' : numberR l least greatest ⟨a, none⟩ = (u, ⟨a', none⟩) := h
    unfold numberR at h'
    split at h'
    · exfalso
      have h2 := congrArg Prod.snd h'
      simp only [] at h2
      unfold failR at h2
      split at h2
      · rename_i hx
        rw [h2] at hx
        cases hx
      · simp at h2
    · rename_i hn
      obtain ⟨k1, k2, k3⟩ := rd_whole.is l a u a' hl h'
      rw [h'] at hn
      simp at hn
      exact ⟨by omega, k2, k3⟩
  cut l a u h ha hp hlt := by
    have hc := rd_whole.cut l a u (Nat.lt_of_le_of_lt (Nat.le_trans h.2 hg) (by decide)) ha hp hlt
    show (numberR l least greatest ⟨a, none⟩).2.err = _
    unfold numberR
    split
    · unfold failR
      rw [hc]
      exact hc
    · exact hc
end Go.Proofs.YtnojejplckhifaaDoor
