/- BitsPlays, plain: what is carried through a round. -/
import Derived.Test.YtcaoeoggabbekaaDoorDos
namespace Go.Proofs.YtcaoeoggabbekaaDoor
open Go.RowKit Go.Shelf
set_option linter.unusedVariables false

theorem clamp_small (n : Nat) (h : n ≤ 1048576) : clampN (n : Int) = n := by unfold clampN; omega
def otF (M : Nat) (l : List Int) : List Int := l.filter fun x => decide (0 ≤ x ∧ x < (M : Int))
theorem otF_snoc (M : Nat) (l : List Int) (x : Int) : otF M (l ++ [x]) = if 0 ≤ x ∧ x < (M : Int) then otF M l ++ [x] else otF M l := by
  unfold otF
  rw [List.filter_append]
  by_cases h : 0 ≤ x ∧ x < (M : Int) <;> simp [List.filter_cons, h]
def OtRel (w : World) (M : Nat) (l : List Int) (s19 s20 : Value) (wr : World) : Prop :=
  ∃ q : Nat, q ≤ l.length ∧ s20 = .int .i64 (q : Int) ∧ wr.ownsRow w.heap.size 3 1 s19 (otF M (l.take q)).length ((otF M (l.take q)).map iv) ∧ Below w.heap.size w wr
theorem among_els (p : Nat → Bool) (N : Nat) (x : Int) (h : ∀ j, p j = true → j < N) : amongI (elsI p N) x = hasZ p x := by
  rw [Bool.eq_iff_iff, amongI, decide_eq_true_eq]
  constructor
  · intro hx
    have hx' := hx
    rw [elsI, List.mem_map] at hx'
    obtain ⟨j, _, rfl⟩ := hx'
    simp [hasZ, (mem_elsI.1 hx).2]
  · intro hx
    obtain ⟨h0, h1⟩ : 0 ≤ x ∧ p x.toNat = true := by simpa [hasZ] using hx
    obtain ⟨j, rfl⟩ : ∃ j : Nat, x = (j : Int) := ⟨x.toNat, by omega⟩
    have h2 : p j = true := by simpa using h1
    exact mem_elsI.2 ⟨h j h2, h2⟩
theorem set_grown {w w' : World} {b g n : Nat} {p : Nat → Bool} (h : SetAt w b g n p) {base m : Nat} {v : Value} {xs : List Value} (hrow : w.ownsRow base 3 1 v m xs) (hg : w.grownBy w' v.ownBlock) : SetAt w' b g n p := by
  obtain ⟨A, c, ws, h1, h2, h3⟩ := h
  exact ⟨A, c, ws, h1.grown hg (fun e => own_blk_ne hrow h1 (by decide) e.symm), ⟨by have := hg.size; have := h2.1; omega, fun e => by obtain ⟨rfl, cs, k1, k2⟩ := h2.2 e; exact ⟨rfl, cs, k1.grown hg (fun e => own_blk_ne hrow k1 (by decide) e.symm), k2⟩⟩, h3⟩
theorem set_far {w : World} {b g n : Nat} {p : Nat → Bool} (h : SetAt w b g n p) {q : Nat} {t : TypeId} {v : Value} (hq : Boxed w q t v) (h1 : t ≠ 47) (h2 : t ≠ 48) (u : Value) : SetAt (w.setCell ⟨q, 0, none⟩ u) b g n p := by
  obtain ⟨A, c, ws, k1, k2, h3⟩ := h
  exact ⟨A, c, ws, k1.far (fun e => Blk.ne_ (t := 47) (t' := t) k1 (show Blk w b t #[v] by rw [show b = q from e]; exact hq) (fun e => h1 e.symm) rfl) u, ⟨by simpa [World.setCell] using k2.1, fun e => by obtain ⟨rfl, cs, k3, k4⟩ := k2.2 e; exact ⟨rfl, cs, k3.far (fun e => Blk.ne_ (t := 48) (t' := t) k3 (show Blk w g t #[v] by rw [show g = q from e]; exact hq) (fun e => h2 e.symm) rfl) u, k4⟩⟩, h3⟩
theorem own_lt {w : World} {base e size n : Nat} {v : Value} {xs : List Value} (h : w.ownsRow base e size v n xs) {q : Nat} (hq : v.ownBlock = some q) : q < w.heap.size := by
  rcases h.2 with ⟨rfl, _⟩ | ⟨g, cap, cur, rfl, _, hh, _⟩
  · simp [Value.ownBlock] at hq
  · obtain rfl : g = q := by simpa [Value.ownBlock] using hq
    exact Blk.lt (t := e) (cs := cur) hh
/-- what is carried through a round: the set b and what it has; the list of its numbers in box B13; the other set and its numbers; the result's box; the box of 'stop' -/
structure PlSt (w : World) (b g N B13 bt gt M ob : Nat) (p q : Nat → Bool) (L lo : List Int) (A : Option Addr) (c : Nat) (Ao : Option Addr) (co : Nat) (stop : Int) (W : World) : Prop where
  set : SetAt W b g N p
  has : Boxed W B13 27 (.slice A L.length c)
  own : W.ownsRow B13 3 1 (.slice A L.length c) L.length (L.map iv)
  tset : SetAt W bt gt M q
  other : W.ownsRow ob 3 1 (.slice Ao lo.length co) lo.length (lo.map iv)
  apart : (Value.slice Ao lo.length co).ownBlock = none ∨ (Value.slice Ao lo.length co).ownBlock ≠ (Value.slice A L.length c).ownBlock
  res : Boxed W (w.heap.size + 1) 4 (.bool false)
  sto : Boxed W w.heap.size 3 (.int .i64 stop)
  below : Below w.heap.size w W
  b13 : w.heap.size + 2 ≤ B13
  gs : w.heap.size + 2 ≤ g ∧ g < B13
  ne1 : g ≠ bt ∧ g ≠ gt
  obl : B13 ≤ ob
section
variable {w W W' : World} {b g N B13 bt gt M ob : Nat} {p p' q : Nat → Bool} {L L' lo : List Int} {A A' : Option Addr} {c c' : Nat} {Ao : Option Addr} {co : Nat} {stop : Int}
theorem PlSt.to_below (h : PlSt w b g N B13 bt gt M ob p q L lo A c Ao co stop W) (hb : Below W.heap.size W W') : PlSt w b g N B13 bt gt M ob p q L lo A c Ao co stop W' :=
  ⟨h.set.belowW hb, (hb.block _ h.has.lt).trans h.has, own_below h.own hb, h.tset.belowW hb, own_below h.other hb, h.apart, (hb.block _ h.res.lt).trans h.res, (hb.block _ h.sto.lt).trans h.sto, h.below.trans (hb.mono h.below.size), h.b13, h.gs, h.ne1, h.obl⟩
theorem own_ne {W : World} {base e size n : Nat} {v : Value} {xs : List Value} (h : W.ownsRow base e size v n xs) {k : Nat} (hk : k < base) : v.ownBlock ≠ some k := by
  intro e
  have := own_ge h e
  omega
theorem PlSt.to_but (h : PlSt w b g N B13 bt gt M ob p q L lo A c Ao co stop W) (hb : But g W W') (hS : SetAt W' b g N p') : PlSt w b g N B13 bt gt M ob p' q L lo A c Ao co stop W' := by
  have hgs := h.gs
  have hob := h.obl
  have h13 := h.b13
  refine ⟨hS, (hb.block _ h.has.lt (by omega)).trans h.has, hb.own h.own (by omega), h.tset.but hb (fun e => h.ne1.1 e.symm) (fun e => h.ne1.2 e.symm), hb.own h.other (by omega), h.apart, (hb.block _ h.res.lt (by omega)).trans h.res, (hb.block _ h.sto.lt (by omega)).trans h.sto, h.below.trans (hb.below (by omega) h.below.size), h.b13, h.gs, h.ne1, h.obl⟩
/-- a new list is stored in the box -/
theorem PlSt.to_new (h : PlSt w b g N B13 bt gt M ob p q L lo A c Ao co stop W) (hb : Below W.heap.size W W') (ho : W'.ownsRow W.heap.size 3 1 (.slice A' L'.length c') L'.length (L'.map iv)) :
    PlSt w b g N B13 bt gt M ob p q L' lo A' c' Ao co stop (W'.setCell ⟨B13, 0, none⟩ (.slice A' L'.length c')) := by
  have k := h.to_below hb
  have h13 := h.b13
  have hlt := h.has.lt
  have ho' : W'.ownsRow B13 3 1 (.slice A' L'.length c') L'.length (L'.map iv) := own_base ho (by omega)
  refine ⟨set_far k.set k.has (by decide) (by decide) _, k.has.set _, ?_, set_far k.tset k.has (by decide) (by decide) _, ?_, ?_, k.res.other (by omega) _, k.sto.other (by omega) _, k.below.setCell (p := ⟨B13, 0, none⟩) (by show w.heap.size ≤ B13; omega) _, h.b13, h.gs, h.ne1, h.obl⟩
  · exact ho'.kept (grownBy_setCell' W' B13 _) (.inr (own_blk_ne ho' (show Blk W' B13 27 #[_] from k.has) (by decide)))
  · exact k.other.kept (grownBy_setCell' W' B13 _) (.inr (own_blk_ne k.other (show Blk W' B13 27 #[_] from k.has) (by decide)))
  · rcases hoo : (Value.slice Ao lo.length co).ownBlock with _ | z
    · exact .inl rfl
    · refine .inr fun e => ?_
      have h1 := own_lt h.other hoo
      have h2 := own_ge ho e.symm
      omega
/-- a list that lies behind the other one is stored in the box -/
theorem PlSt.to_new2 (k : PlSt w b g N B13 bt gt M ob p q L lo A c Ao co stop W) {base : Nat} (ho : W.ownsRow base 3 1 (.slice A' L'.length c') L'.length (L'.map iv)) (hbase : B13 ≤ base) (hap : ∀ z, (Value.slice Ao lo.length co).ownBlock = some z → z < base) :
    PlSt w b g N B13 bt gt M ob p q L' lo A' c' Ao co stop (W.setCell ⟨B13, 0, none⟩ (.slice A' L'.length c')) := by
  have h13 := k.b13
  have ho' : W.ownsRow B13 3 1 (.slice A' L'.length c') L'.length (L'.map iv) := own_base ho hbase
  refine ⟨set_far k.set k.has (by decide) (by decide) _, k.has.set _, ?_, set_far k.tset k.has (by decide) (by decide) _, ?_, ?_, k.res.other (by omega) _, k.sto.other (by omega) _, k.below.setCell (p := ⟨B13, 0, none⟩) (by show w.heap.size ≤ B13; omega) _, k.b13, k.gs, k.ne1, k.obl⟩
  · exact ho'.kept (grownBy_setCell' W B13 _) (.inr (own_blk_ne ho' (show Blk W B13 27 #[_] from k.has) (by decide)))
  · exact k.other.kept (grownBy_setCell' W B13 _) (.inr (own_blk_ne k.other (show Blk W B13 27 #[_] from k.has) (by decide)))
  · rcases hoo : (Value.slice Ao lo.length co).ownBlock with _ | z
    · exact .inl rfl
    · refine .inr fun e => ?_
      have h1 := hap z hoo
      have h2 := own_ge ho e.symm
      omega
/-- the list in the box is appended to -/
theorem PlSt.to_app (h : PlSt w b g N B13 bt gt M ob p q L lo A c Ao co stop W) {tmp : Obj} (ho : W'.ownsRow B13 3 1 (.slice A' L'.length c') L'.length (L'.map iv))
    (hg : (W.alloc tmp).grownBy W' (Value.slice A L.length c).ownBlock) (hat : (Value.slice A' L'.length c').ownBlock = (Value.slice A L.length c).ownBlock ∨ (Value.slice A' L'.length c').ownBlock = some (W.alloc tmp).heap.size) :
    PlSt w b g N B13 bt gt M ob p q L' lo A' c' Ao co stop (W'.setCell ⟨B13, 0, none⟩ (.slice A' L'.length c')) := by
  have ha := h.to_below ((Below.refl _ _).alloc (Nat.le_refl _) tmp)
  have h13 := h.b13
  have hhas : Boxed W' B13 27 (.slice A L.length c) := ha.has.kept hg (fun e => own_blk_ne ha.own (show Blk _ B13 27 #[_] from ha.has) (by decide) e.symm)
  have hres : Boxed W' (w.heap.size + 1) 4 (.bool false) := ha.res.kept hg (fun e => own_ne ha.own (by omega) e.symm)
  have hsto : Boxed W' w.heap.size 3 (.int .i64 stop) := ha.sto.kept hg (fun e => own_ne ha.own (by omega) e.symm)
  have hoth : W'.ownsRow ob 3 1 (.slice Ao lo.length co) lo.length (lo.map iv) := ha.other.kept hg h.apart
  have hlow : Below w.heap.size w W' := ha.below.grown hg ha.below.size (fun k e => by have := own_ge ha.own e; omega)
  refine ⟨set_far (set_grown ha.set ha.own hg) hhas (by decide) (by decide) _, hhas.set _, ?_, set_far (set_grown ha.tset ha.own hg) hhas (by decide) (by decide) _, ?_, ?_, hres.other (by omega) _, hsto.other (by omega) _, hlow.setCell (p := ⟨B13, 0, none⟩) (by show w.heap.size ≤ B13; omega) _, h.b13, h.gs, h.ne1, h.obl⟩
  · exact ho.kept (grownBy_setCell' W' B13 _) (.inr (own_blk_ne ho (show Blk W' B13 27 #[_] from hhas) (by decide)))
  · exact hoth.kept (grownBy_setCell' W' B13 _) (.inr (own_blk_ne hoth (show Blk W' B13 27 #[_] from hhas) (by decide)))
  · rcases hoo : (Value.slice Ao lo.length co).ownBlock with _ | z
    · exact .inl rfl
    · refine .inr fun e => ?_
      rcases hat with hat | hat
      · rw [hat] at e
        rcases h.apart with h1 | h1
        · rw [hoo] at h1; cases h1
        · exact h1 (by rw [hoo]; exact e)
      · rw [hat] at e
        injection e with e
        have := own_lt h.other hoo
        simp at e
        omega
end
/-- the list has just the set's numbers -/
def Tells (N : Nat) (p : Nat → Bool) (L : List Int) : Prop := (∀ z ∈ L, 0 ≤ z ∧ z < (N : Int)) ∧ (∀ j, j < N → ((j : Int) ∈ L ↔ p j = true)) ∧ L.length ≤ 6000
theorem Tells.els {N : Nat} {p : Nat → Bool} (hN : N ≤ 5000) : Tells N p (elsI p N) := by
  refine ⟨fun z hz => ?_, fun j hj => ?_, by rw [elsI_len]; have := els_len p N; omega⟩
  · have hz' := hz
    rw [elsI, List.mem_map] at hz'
    obtain ⟨j, _, rfl⟩ := hz'
    have := (mem_elsI.1 hz).1
    omega
  · rw [mem_elsI]
    exact ⟨fun h => h.2, fun h => ⟨hj, h⟩⟩
theorem Tells.srt {N : Nat} {p : Nat → Bool} {L : List Int} (h : Tells N p L) : srt L = elsI p N := srt_is h.1 h.2.1
theorem Tells.add {N : Nat} {p : Nat → Bool} {x : Int} (hN : N ≤ 5000) (hx : 0 ≤ x ∧ x < (N : Int)) : Tells N (addP p N x) (elsI p N ++ [x]) := by
  have h := Tells.els (p := p) hN
  refine ⟨fun z hz => ?_, fun j hj => ?_, ?_⟩
  · rcases List.mem_append.1 hz with hz | hz
    · exact h.1 z hz
    · rw [List.mem_singleton.1 hz]; exact hx
  · rw [List.mem_append, List.mem_singleton, h.2.1 j hj, addP]
    simp [hj]
  · have h1 := els_len p N
    simp [elsI]
    omega
theorem addP_not {N : Nat} {p : Nat → Bool} {x : Int} (hx : ¬ (0 ≤ x ∧ x < (N : Int))) : addP p N x = p := by
  funext j
  have : ¬ ((j : Int) = x ∧ j < N) := by omega
  simp [addP, this]
theorem Tells.drop {N : Nat} {p : Nat → Bool} {x : Int} (hN : N ≤ 5000) : Tells N (dropP p x) (woF [x] (elsI p N)) := by
  have h := Tells.els (p := p) hN
  refine ⟨fun z hz => h.1 z (List.mem_filter.1 hz).1, fun j hj => ?_, ?_⟩
  · rw [woF, List.mem_filter, h.2.1 j hj, dropP]
    simp [amongI]
  · have h1 := List.length_filter_le (fun y => !amongI [x] y) (elsI p N)
    have h2 := h.2.2
    unfold woF
    omega
theorem otF_els {M : Nat} {l : List Int} : ∀ j, j < M → ((j : Int) ∈ otF M l ↔ memP M l j = true) := by
  intro j hj
  simp [otF, memP, hj]
theorem Tells.less {N M : Nat} {p : Nat → Bool} {l : List Int} (hN : N ≤ 5000) : Tells N (subP p (memP M l)) (woF (otF M l) (elsI p N)) := by
  have h := Tells.els (p := p) hN
  refine ⟨fun z hz => h.1 z (List.mem_filter.1 hz).1, fun j hj => ?_, ?_⟩
  · rw [woF, List.mem_filter, h.2.1 j hj, subP]
    simp [amongI, otF, memP]
  · have h1 := List.length_filter_le (fun y => !amongI (otF M l) y) (elsI p N)
    have h2 := h.2.2
    unfold woF
    omega
def belF (N : Nat) (l : List Int) : List Int := l.filter fun x => decide (x < (N : Int))
theorem belF_snoc (N : Nat) (l : List Int) (x : Int) : belF N (l ++ [x]) = if x < (N : Int) then belF N l ++ [x] else belF N l := by
  unfold belF
  rw [List.filter_append]
  by_cases h : x < (N : Int) <;> simp [List.filter_cons, h]
theorem Tells.join {N M : Nat} {p : Nat → Bool} {l : List Int} (hN : N ≤ 5000) (hl : l.length ≤ 40) : Tells N (joinP p N (elsI (memP M l) M)) (elsI p N ++ belF N (otF M l)) := by
  have h := Tells.els (p := p) hN
  refine ⟨fun z hz => ?_, fun j hj => ?_, ?_⟩
  · rcases List.mem_append.1 hz with hz | hz
    · exact h.1 z hz
    · have h1 := List.mem_filter.1 hz
      have h2 := List.mem_filter.1 h1.1
      simp at h1 h2
      omega
  · rw [List.mem_append, h.2.1 j hj, joinP, belF, List.mem_filter]
    by_cases hM : j < M
    · rw [otF_els j hM]
      simp [mem_elsI, hM, hj]
    · have e1 : (j : Int) ∉ otF M l := by simp [otF]; omega
      have e2 : (j : Int) ∉ elsI (memP M l) M := by rw [mem_elsI]; omega
      simp [e1, e2]
  · have h1 := List.length_filter_le (fun x => decide (x < (N : Int))) (otF M l)
    have h2 := List.length_filter_le (fun x => decide (0 ≤ x ∧ x < (M : Int))) l
    have h3 := els_len p N
    simp [elsI, belF]
    unfold otF at h1 ⊢
    omega
theorem filter_len_lt {α : Type} {p q : α → Bool} (h : ∀ x, p x = true → q x = true) : ∀ l : List α, (l.filter p).length < (l.filter q).length ↔ ∃ x ∈ l, q x = true ∧ p x = false
  | [] => by simp
  | x :: l => by
    have ih := filter_len_lt h l
    have hle := filter_mono_len h l
    cases hp : p x
    · cases hq : q x
      · simp [List.filter_cons, hp, hq, ih]
      · simp [List.filter_cons, hp, hq]
        omega
    · have hq := h x hp
      simp [List.filter_cons, hp, hq, ih]
/-- something new: the set has grown -/
theorem anP_grew {p q : Nat → Bool} {N M : Nat} (hq : ∀ j, q j = true → j < M) : anP p N (elsI q M) = decide ((els p N).length < (els (joinP p N (elsI q M)) N).length) := by
  rw [Bool.eq_iff_iff, decide_eq_true_eq, els, els, filter_len_lt (fun x hx => by simp [joinP, hx]), anP, List.any_eq_true]
  constructor
  · rintro ⟨x, hx, hc⟩
    have hx' := hx
    rw [elsI, List.mem_map] at hx'
    obtain ⟨j, _, rfl⟩ := hx'
    simp [hasZ] at hc
    exact ⟨j, List.mem_range.2 (by omega), by simp [joinP, hx]; omega, hc.2⟩
  · rintro ⟨j, hj, h1, h2⟩
    rw [List.mem_range] at hj
    simp [joinP, h2] at h1
    exact ⟨(j : Int), h1.1, by simp [hasZ, h2]; omega⟩
theorem grew_is {p q : Nat → Bool} {N M h l1 : Nat} (hq : ∀ j, q j = true → j < M) (hh : h = (elsI p N).length) (hl : l1 = (els (joinP p N (elsI q M)) N).length) : anP p N (elsI q M) = decide ((h : Int) < (l1 : Int)) := by
  subst hh hl
  rw [anP_grew hq, decide_eq_decide, elsI_len]
  omega
theorem srt_other {M : Nat} {l : List Int} : srt (otF M l) = elsI (memP M l) M := by
  refine srt_is (fun z hz => ?_) otF_els
  have := List.mem_filter.1 hz
  simp at this
  omega
/-- between two numbers that Each tells -/
def EIv (w : World) (b g N B13 B25 B26 : Nat) (p : Nat → Bool) (stop rd : Int) (L : List Int) (A : Option Addr) (c : Nat) (pre : List Int) (W : World) : Prop :=
  pre <+: L ∧ (Boxed W B25 3 (.int .i64 rd) ∧ Boxed W B26 3 (.int .i64 (pre.length : Int)) ∧ (∃ v, Boxed W B13 27 v ∧ W.ownsRow B13 3 1 v L.length (L.map iv) ∧ v = .slice A L.length c) ∧
    Boxed W (w.heap.size + 1) 4 (.bool false) ∧ Boxed W w.heap.size 3 (.int .i64 stop) ∧ SetAt W b g N p) ∧ Below w.heap.size w W
theorem EIv.own {w : World} {b g N B13 B25 B26 : Nat} {p : Nat → Bool} {stop rd : Int} {L : List Int} {A : Option Addr} {c B : Nat} (hB : w.heap.size ≤ B) : OwnFrom B (EIv w b g N B13 B25 B26 p stop rd L A c) := by
  intro s X Y row h hg hr
  obtain ⟨h0, ⟨h1, h2, h3, h4, h5, h6⟩, h7⟩ := h
  have hr' : ∀ r, row = some r → ∃ o : Obj, X.heap[r]? = some o ∧ o.isCells = false := fun r e => (hr r e).2
  have hn : ∀ {k : Nat} {t : TypeId} {v : Value}, Boxed X k t v → some k ≠ row := by
    intro k t v hk e
    obtain ⟨o, ho, hc⟩ := hr' k e.symm
    rw [show X.heap[k]? = _ from hk] at ho
    cases ho
    cases hc
  exact ⟨h0, ⟨h1.kept hg (hn h1), h2.kept hg (hn h2), holdsRow_own B13 B13 27 3 1 (fun _ : Unit => L.length) (fun _ => L.map iv) (fun _ v => v = .slice A L.length c) () X Y row h3 hg hr', h4.kept hg (hn h4), h5.kept hg (hn h5), setAt_own b g N (fun _ : Unit => p) () X Y row h6 hg hr'⟩,
    (ownFrom_below (β := Unit) (n₀ := w.heap.size) (w₀ := w) (Nat.le_refl _) hB) () X Y row h7 hg hr⟩
theorem EIv.step {w W : World} {b g N B13 B25 B26 : Nat} {p : Nat → Bool} {stop rd : Int} {L : List Int} {A : Option Addr} {c : Nat} {pre : List Int} {x : Int} {q : Nat} (h : EIv w b g N B13 B25 B26 p stop rd L A c pre W) (hq : q = pre.length) (hp : pre ++ [x] <+: L) (n1 : B25 ≠ B26) (n2 : B13 ≠ B26) (n3 : w.heap.size + 1 < B26)
    (hz : ∀ z, (Value.slice A L.length c).ownBlock = some z → z < B26) : EIv w b g N B13 B25 B26 p stop rd L A c (pre ++ [x]) (W.setCell ⟨B26, 0, none⟩ (.int .i64 ((q : Int) + 1))) := by
  obtain ⟨h0, ⟨h1, h2, ⟨v, h3, h4, rfl⟩, h5, h6, h7⟩, h8⟩ := h
  have e : (((pre ++ [x]).length : Nat) : Int) = (q : Int) + 1 := by rw [hq]; simp
  refine ⟨hp, ⟨h1.other n1 _, by rw [e]; exact h2.set _, ⟨_, h3.other n2 _, h4.kept (grownBy_setCell' W B26 _) (.inr (fun e => by have := hz _ e; omega)), rfl⟩, h5.other (by omega) _, h6.other (by omega) _, set_far h7 h2 (by decide) (by decide) _⟩, h8.setCell (p := ⟨B26, 0, none⟩) (by show w.heap.size ≤ B26; omega) _⟩
theorem ownFrom_obj {β : Type} {B D : Nat} {o : Obj} (hD : D < B) : OwnFrom B (fun (_ : β) W => W.heap[D]? = some o) := by
  intro s X Y row h hg hr
  exact (hg.block D (Array.getElem?_eq_some_iff.1 h).1 (fun e => by have := (hr D e.symm).1; omega)).trans h
theorem EIv.next {w W W' : World} {b g N B13 B25 B26 C25 C26 : Nat} {p : Nat → Bool} {stop rd rd' : Int} {L : List Int} {A : Option Addr} {c : Nat} {pre : List Int} (h : EIv w b g N B13 B25 B26 p stop rd L A c pre W) (hb : Below W.heap.size W W') (h1 : Boxed W' C25 3 (.int .i64 rd')) (h2 : Boxed W' C26 3 (.int .i64 0)) :
    EIv w b g N B13 C25 C26 p stop rd' L A c [] W' := by
  obtain ⟨h0, ⟨_, _, ⟨v, h3, h4, rfl⟩, h5, h6, h7⟩, h8⟩ := h
  exact ⟨List.nil_prefix, ⟨h1, h2, ⟨_, (hb.block _ h3.lt).trans h3, own_below h4 hb, rfl⟩, (hb.block _ h5.lt).trans h5, (hb.block _ h6.lt).trans h6, h7.belowW hb⟩, h8.trans (hb.mono h8.size)⟩
theorem fin_two {P : Program} {w V : World} {R D D2 : Nat} {x : Value} {o : Obj} (hres : Boxed V R 4 x) (hR : R < D) (hD : D < D2) (hK : V.heap[D]? = some (.deferred (some []))) (hK2 : V.heap[D2]? = some (.deferred (some []))) (hb : Below w.heap.size w V) (hw : w.heap.size ≤ R) :
    ∃ W2 W3, (Instr.takeDeferred D2).run P ((V.setCell ⟨R, 0, none⟩ (.bool true)).alloc o) = .ok [] W2 ∧ (Instr.takeDeferred D).run P W2 = .ok [] W3 ∧ W3.cell? ⟨R, 0, none⟩ = some (.bool true) ∧ Below w.heap.size w W3 := by
  have l1 : D < V.heap.size := (Array.getElem?_eq_some_iff.1 hK).1
  have l2 : D2 < V.heap.size := (Array.getElem?_eq_some_iff.1 hK2).1
  have k2 : ((V.setCell ⟨R, 0, none⟩ (.bool true)).alloc o).heap[D2]? = some (.deferred (some [])) := (Below.heap_alloc _ _ _ (by simpa [World.setCell] using l2)).trans ((Below.heap_setCell _ _ _ D2 (by simp; omega)).trans hK2)
  have k1 : ((V.setCell ⟨R, 0, none⟩ (.bool true)).alloc o).heap[D]? = some (.deferred (some [])) := (Below.heap_alloc _ _ _ (by simpa [World.setCell] using l1)).trans ((Below.heap_setCell _ _ _ D (by simp; omega)).trans hK)
  have k1' : (((V.setCell ⟨R, 0, none⟩ (.bool true)).alloc o).putObj D2 (.deferred none)).heap[D]? = some (.deferred (some [])) := (World.putObj_heap_other (by omega)).trans k1
  have hr := (hres.set (.bool true)).alloc o
  refine ⟨_, _, run_takeDeferred k2, run_takeDeferred k1', ?_, ?_⟩
  · exact cell_kept (cell_kept hr.cell (grownBy_putObj' _ D2 (.deferred none)) (fun r e => by cases e; exact ⟨_, k2, rfl⟩)) (grownBy_putObj' _ D (.deferred none)) (fun r e => by cases e; exact ⟨_, k1', rfl⟩)
  · have h1 : Below w.heap.size w ((V.setCell ⟨R, 0, none⟩ (.bool true)).alloc o) := (hb.setCell (p := ⟨R, 0, none⟩) hw _).alloc (by simpa [World.setCell] using hb.size) o
    exact (h1.grown (grownBy_putObj' _ D2 (.deferred none)) h1.size (fun k e => by cases e; omega)).grown (grownBy_putObj' _ D (.deferred none)) (by have := h1.size; simpa using this) (fun k e => by cases e; omega)
theorem pre_snoc {pre L : List Int} {x : Int} (h : pre <+: L) (hx : L[pre.length]? = some x) : pre ++ [x] <+: L := by
  obtain ⟨t, rfl⟩ := h
  rw [List.getElem?_append_right (Nat.le_refl _), Nat.sub_self] at hx
  cases t with
  | nil => simp at hx
  | cons y t =>
    obtain rfl : y = x := by simpa using hx
    exact ⟨t, by simp⟩
theorem pre_not {pre L : List Int} {x y : Int} (hx : L[pre.length]? = some y) (hne : y ≠ x) : ¬ pre ++ [x] <+: L := by
  rintro ⟨t, rfl⟩
  rw [List.append_assoc, List.getElem?_append_right (Nat.le_refl _), Nat.sub_self] at hx
  simp at hx
  exact hne hx.symm
end Go.Proofs.YtcaoeoggabbekaaDoor
