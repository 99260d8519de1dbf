/- A slice of Dos among the arguments. -/
import Derived.Test.YtcaoeoggabbekaaDoorSorted
import Derived.Test.YtcaoeoggabbekaaDoorLaw
import Derived.Deep.Slices
import Derived.Deep.Fields
import Derived.ChangeSame
import Derived.Deep.DeepCutAuto
import Derived.Deep.CutBlock
import Derived.Deep.CutRange
namespace Go.Proofs.YtcaoeoggabbekaaDoor
open Go.RowKit Go.ChangeShapes Go.WideShapes Go.Deep
set_option linter.unusedVariables false

theorem add_mk (a : Addr) (j : Nat) (hj : 0 < j) : (⟨a.block, a.off + j, none⟩ : Addr) = a.add j := by
  unfold Addr.add
  rw [if_neg (by omega)]
structure DoV where
  kind : Int
  num : Int
  A : Option Addr
  m : Nat
  c : Nat
  l : List Int
def DoAt (w : World) (B : Nat) (a : Addr) (k : Nat) (x : DoV) : Prop :=
  a.block < B ∧ w.cell? (a.add (k * 3)) = some (.int .i64 x.kind) ∧ w.cell? ⟨(a.add (k * 3)).block, (a.add (k * 3)).off + 1, none⟩ = some (.int .i64 x.num) ∧
    w.cell? ⟨(a.add (k * 3)).block, (a.add (k * 3)).off + 2, none⟩ = some (.slice x.A x.m x.c) ∧ Reads w B 1 x.A x.m (x.l.map iv) ∧ x.m ≤ x.c ∧ x.c ≤ maxLen ∧ x.l.length = x.m
def DosAt (w : World) (B : Nat) (A : Option Addr) (dl : List DoV) : Prop := ∀ k x, dl[k]? = some x → ∃ a, A = some a ∧ DoAt w B a k x
theorem DosAt.below {w w' : World} {B : Nat} {A : Option Addr} {dl : List DoV} (h : DosAt w B A dl) (hb : Below B w w') : DosAt w' B A dl := by
  intro k x hk
  obtain ⟨a, ha, h0, h1, h2, h3, h4, h5⟩ := h k x hk
  exact ⟨a, ha, h0, (hb.cell (p := a.add (k * 3)) (by rw [block_of_add]; exact h0)).trans h1, (hb.cell (p := ⟨(a.add (k * 3)).block, (a.add (k * 3)).off + 1, none⟩) (by simp only [block_of_add]; exact h0)).trans h2,
    (hb.cell (p := ⟨(a.add (k * 3)).block, (a.add (k * 3)).off + 2, none⟩) (by simp only [block_of_add]; exact h0)).trans h3, h4.below hb, h5⟩
theorem list_ofD {Q : Nat → DoV → Prop} : ∀ n, (∀ i, i < n → ∃ p, Q i p) → ∃ l : List DoV, l.length = n ∧ ∀ i p, l[i]? = some p → Q i p
  | 0, _ => ⟨[], rfl, by simp⟩
  | n + 1, h => by
    obtain ⟨l, hl, hq⟩ := list_ofD n (fun i hi => h i (by omega))
    obtain ⟨p, hp⟩ := h n (by omega)
    refine ⟨l ++ [p], by simp [hl], fun i q hi => ?_⟩
    rcases Nat.lt_or_ge i n with hlt | hge
    · rw [List.getElem?_append_left (by omega)] at hi
      exact hq i q hi
    · rw [List.getElem?_append_right (by omega)] at hi
      have : i - l.length = 0 := by
        rcases Nat.eq_zero_or_pos (i - l.length) with h0 | h0
        · exact h0
        · rw [List.getElem?_eq_none (by simp; omega)] at hi; cases hi
      rw [this] at hi
      obtain rfl : p = q := by simpa using hi
      have : i = n := by omega
      subst this
      exact hp
theorem open_dos {H : Type} {enc : TypeId × Value → H} {W : World} {v : Value} {d : DataW H} {ps : List MemPlace} {base : Nat}
    (hval : Value.okWide Tryd.prog W .any base 33 v) (h : DataW.Trod enc Tryd.prog W 0 (fun _ => true) true 33 v d ps) :
    ∃ (A : Option Addr) (n c : Nat) (dl : List DoV), v = .slice A n c ∧ n ≤ c ∧ c ≤ maxLen ∧ dl.length = n ∧ DosAt W W.heap.size A dl := by
  obtain ⟨a0, len, cap, rfl⟩ := okWide_slice Tryd.underlying33 hval
  obtain ⟨fuel, hf⟩ := h
  have hC : Tryd.prog.cellsOf 35 = 3 := by kernel_rfl
  have hI : Tryd.prog.cellsOf 3 = 1 := by kernel_rfl
  have hS : Tryd.prog.cellsOf 27 = 1 := by kernel_rfl
  rcases open_slice Tryd.underlying33 hf with ⟨hcs, _⟩ | ⟨a, len', cap', m, n, D, Pl, hcs, _, hl, hm, hmm, _, hi⟩
  · simp [Value.cells] at hcs
    obtain ⟨rfl, rfl, rfl⟩ := hcs
    exact ⟨none, 0, 0, [], rfl, Nat.le_refl _, by decide, rfl, fun k x hk => by simp at hk⟩
  · simp [Value.cells] at hcs
    obtain ⟨rfl, rfl, rfl⟩ := hcs
    have hall : ∀ i, i < len → ∃ p : DoV, DoAt W W.heap.size a i p := by
      intro i hi'
      obtain ⟨cs', hc, ht⟩ := hi i (by rw [hmm]; simp; omega)
      rw [hC] at hc
      obtain ⟨xs, n', _, _, hlen, hxl, hg⟩ := DataW.trod_struct Tryd.underlying35 ht
      obtain ⟨_, hcl, hat⟩ := World.cells?_some hc
      rw [hC] at hlen
      match cs', hlen with
      | [c0, c1, c2], _ =>
        have g : ∀ (j : Nat) (f : Field) (u : Value), (match Tryd.prog.underlying 35 with | some (.struct fs) => fs[j]? | _ => none) = some f → f.type = 3 → ([c0, c1, c2].drop f.offset).take 1 = [u] → ∃ z, u = .int .i64 z := by
          intro j f u hfj hty hu
          rw [Tryd.underlying35] at hfj
          have hgj := hg j f hfj
          rw [hty, hI, hu] at hgj
          have hjl : j < xs.length := by
            rw [hxl]
            exact (Array.getElem?_eq_some_iff.1 hfj).1
          rw [List.getElem?_eq_getElem hjl] at hgj
          obtain ⟨z, hz, _⟩ := DataW.trod_int Tryd.underlying3 hgj
          exact ⟨z, by simpa using hz⟩
        obtain ⟨z0, rfl⟩ := g 0 _ c0 (by rw [Tryd.underlying35]; rfl) rfl rfl
        obtain ⟨z1, rfl⟩ := g 1 _ c1 (by rw [Tryd.underlying35]; rfl) rfl rfl
        have hfl : ∃ f : Field, (match Tryd.prog.underlying 35 with | some (.struct fs) => fs[2]? | _ => none) = some f ∧ f.type = 27 ∧ f.offset = 2 := ⟨_, by rw [Tryd.underlying35]; rfl, rfl, rfl⟩
        obtain ⟨f, hf2, hty, hoff⟩ := hfl
        rw [Tryd.underlying35] at hf2
        have hgj := hg 2 f hf2
        rw [hty, hS, hoff] at hgj
        have hjl : 2 < xs.length := by
          rw [hxl]
          exact (Array.getElem?_eq_some_iff.1 hf2).1
        rw [List.getElem?_eq_getElem hjl] at hgj
        have hx3 : ∃ (A2 : Option Addr) (m2 k2 : Nat) (zs : List Int), c2 = .slice A2 m2 k2 ∧ m2 ≤ k2 ∧ k2 ≤ maxLen ∧ zs.length = m2 ∧ Reads W W.heap.size 1 A2 m2 (zs.map iv) := by
          rcases open_ints Tryd.underlying27 Tryd.underlying3 hI hgj with ⟨hcs, _⟩ | ⟨a2, l2, k2, zs, hcs, _, hl2, hm2, hz, _, hcell, _⟩
          · obtain rfl : c2 = .slice none 0 0 := by simpa using hcs
            exact ⟨none, 0, 0, [], rfl, Nat.le_refl _, by decide, rfl, Reads.none_⟩
          · obtain rfl : c2 = .slice (some a2) l2 k2 := by simpa using hcs
            simp at hz
            refine ⟨some a2, l2, k2, zs.take l2, rfl, hl2, hm2, by simp; omega, ⟨by simp; omega, fun hn => ⟨a2, rfl, ?_, fun j u hu => ?_⟩⟩⟩
            · have := hcell 0 (by omega)
              simpa [Addr.add] using World.block_lt_of_cell? W _ this
            · rw [List.getElem?_map, List.getElem?_take] at hu
              split at hu
              · rename_i hj
                have hj' : j < zs.length := by omega
                rw [List.getElem?_eq_getElem hj'] at hu
                have := hcell j hj'
                rw [this]
                simp [iv, List.getD, List.getElem?_eq_getElem hj'] at hu ⊢
                exact hu
              · simp at hu
        obtain ⟨A2, m2, k2, zs, rfl, h5, h6, h7, h8⟩ := hx3
        have k0 := hat 0 (by omega)
        have k1 := hat 1 (by omega)
        have k2' := hat 2 (by omega)
        refine ⟨⟨z0, z1, A2, m2, k2, zs⟩, ?_, ?_, ?_, ?_, h8, h5, h6, h7⟩
        · rw [← block_of_add a (i * 3)]
          have : W.cell? (a.add (i * 3)) = some (.int .i64 z0) := by simpa [Addr.add] using k0
          exact World.block_lt_of_cell? W _ this
        · simpa [Addr.add] using k0
        · rw [add_mk _ _ (by omega)]; exact k1
        · rw [add_mk _ _ (by omega)]; exact k2'
    obtain ⟨dl, hln, hq⟩ := list_ofD len hall
    exact ⟨some a, len, cap, dl, rfl, hl, hm, hln, fun k x hk => ⟨a, rfl, hq k x hk⟩⟩
end Go.Proofs.YtcaoeoggabbekaaDoor
