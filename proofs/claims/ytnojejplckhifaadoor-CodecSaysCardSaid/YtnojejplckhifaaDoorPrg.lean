/- Programs in memory; the contracts of prog.in, Kinds, uses, codec.hasA, hasB, slices.Index and Contains of ints. -/
import Derived.Test.YtnojejplckhifaaDoorTrim
import Derived.Test.YtnojejplckhifaaDoorPC
import Derived.Test.YtnojejplckhifaaDoorPB
namespace Go.Proofs.YtnojejplckhifaaDoor
open Go.RowKit
set_option linter.unusedVariables false

def insC (x : Ins) : List Value := [.int .i64 x.op, .int .i64 x.a, .int .i64 x.b, .int .i64 x.n]
def insL (l : List Ins) : List Value := l.flatMap insC
theorem four_len {α : Type} (f : α → List Value) (hf : ∀ x, (f x).length = 4) (l : List α) : (l.flatMap f).length = l.length * 4 := by
  induction l with
  | nil => rfl
  | cons p l ih => rw [List.flatMap_cons, List.length_append, hf, ih]; simp; omega
theorem four_at {α : Type} (f : α → List Value) (hf : ∀ x, (f x).length = 4) (l : List α) : ∀ (k j : Nat) (h : k < l.length), j < 4 → (l.flatMap f)[k * 4 + j]? = (f l[k])[j]? := by
  induction l with
  | nil => intro k j h; simp at h
  | cons p l ih =>
    intro k j h hj
    rw [List.flatMap_cons]
    have hp := hf p
    rcases k with _ | k
    · rw [List.getElem?_append_left (by omega)]; simp
    · rw [List.getElem?_append_right (by omega), hp]
      have := ih k j (by simpa using h) hj
      rw [show (k + 1) * 4 + j - 4 = k * 4 + j by omega]
      exact this
theorem add_mk (a : Addr) (j : Nat) (hj : 0 < j) : (⟨a.block, a.off + j, none⟩ : Addr) = a.add j := by
  unfold Addr.add; rw [if_neg (by omega)]
/-- the four cells of an element -/
theorem Reads.four {α : Type} {f : α → List Value} (hf : ∀ x, (f x).length = 4) {w : World} {B n k : Nat} {A : Option Addr} {l : List α} {x : α} {a b c d : Value} (h : Reads w B 4 A n (l.flatMap f)) (hk : l[k]? = some x) (hx : f x = [a, b, c, d]) : ∃ ad, A = some ad ∧ ad.block < B ∧
    w.cell? (ad.add (k * 4)) = some a ∧ w.cell? ⟨(ad.add (k * 4)).block, (ad.add (k * 4)).off + 1, none⟩ = some b ∧
    w.cell? ⟨(ad.add (k * 4)).block, (ad.add (k * 4)).off + 2, none⟩ = some c ∧ w.cell? ⟨(ad.add (k * 4)).block, (ad.add (k * 4)).off + 3, none⟩ = some d := by
  obtain ⟨hlt, rfl⟩ := List.getElem?_eq_some_iff.1 hk
  have hl : l.length * 4 = n * 4 := by rw [← four_len f hf l]; exact h.1
  obtain ⟨ad, e, hb, hc⟩ := h.2 (by omega)
  have hj : ∀ j, 0 < j → (⟨(ad.add (k * 4)).block, (ad.add (k * 4)).off + j, none⟩ : Addr) = ad.add (k * 4 + j) := by
    intro j hj
    rw [add_mk _ _ hj, add_of_add]
  refine ⟨ad, e, hb, ?_, ?_, ?_, ?_⟩
  · exact hc (k * 4 + 0) _ (by rw [four_at f hf l k 0 hlt (by omega), hx]; rfl)
  · rw [hj 1 (by omega)]; exact hc (k * 4 + 1) _ (by rw [four_at f hf l k 1 hlt (by omega), hx]; rfl)
  · rw [hj 2 (by omega)]; exact hc (k * 4 + 2) _ (by rw [four_at f hf l k 2 hlt (by omega), hx]; rfl)
  · rw [hj 3 (by omega)]; exact hc (k * 4 + 3) _ (by rw [four_at f hf l k 3 hlt (by omega), hx]; rfl)
theorem insC_len (x : Ins) : (insC x).length = 4 := rfl
/-- a method in memory: its data, where its instructions lie -/
structure MV where
  m : Met
  A : Option Addr
  c : Nat
def mvC (x : MV) : List Value := [strV x.m.par, strV x.m.loc, strV x.m.ret, .slice x.A x.m.code.length x.c]
theorem mvC_len (x : MV) : (mvC x).length = 4 := rfl
def metAgg (x : MV) : Value := .agg #[strV x.m.par, strV x.m.loc, strV x.m.ret, .slice x.A x.m.code.length x.c]
/-- a program in memory -/
structure PV where
  cls : List (List UInt8)
  A : Option Addr
  c : Nat
  ms : List MV
  B : Option Addr
  d : Nat
def PV.prg (p : PV) : Prg := ⟨p.cls, p.ms.map (·.m)⟩
def PV.val (p : PV) : Value := .agg #[.slice p.A p.cls.length p.c, .slice p.B p.ms.length p.d]
structure PAt (w : World) (L : Nat) (p : PV) : Prop where
  cls : Reads w L 1 p.A p.cls.length (p.cls.map strV)
  ms : Reads w L 4 p.B p.ms.length (p.ms.flatMap mvC)
  code : ∀ x ∈ p.ms, Reads w L 4 x.A x.m.code.length (insL x.m.code)
theorem PAt.keep {w w' : World} {L : Nat} {p : PV} (h : PAt w L p) (hk : ∀ q : Addr, q.block < L → w'.cell? q = w.cell? q) : PAt w' L p := ⟨h.cls.keep hk, h.ms.keep hk, fun x hx => (h.code x hx).keep hk⟩
theorem PAt.below {w w' : World} {L : Nat} {p : PV} (h : PAt w L p) (hb : Below L w w') : PAt w' L p := h.keep fun _ hp => hb.cell hp
theorem PAt.more {w : World} {L L' : Nat} {p : PV} (h : PAt w L p) (hb : L ≤ L') : PAt w L' p := ⟨h.cls.more hb, h.ms.more hb, fun x hx => (h.code x hx).more hb⟩
theorem PAt.next {w w' : World} {p : PV} (h : PAt w w.heap.size p) (hb : Below w.heap.size w w') : PAt w' w'.heap.size p := (h.below hb).more hb.size

theorem in_any (i n : Int) (w : World) : Calls Tryd.prog 73 #[.int .i64 i, .int .i64 n] w fun e w' => e = .returned (.bool (decide (0 ≤ i) && decide (i < n))) ∧ w = w' := by
  by_cases h0 : 0 ≤ i
  · have t0 : decide (i ≥ 0) = true := by simpa using h0
    have t1 : decide (0 ≤ i) = true := by simpa using h0
    rw [t1, Bool.true_and]
    go_enter Tryd.func73, Tryd.ntmps73
    go_wp2
    go_ret
    exact ⟨rfl, rfl⟩
  · have t0 : decide (i ≥ 0) = false := by simpa using h0
    have t1 : decide (0 ≤ i) = false := by simpa using h0
    rw [t1, Bool.false_and]
    go_enter Tryd.func73, Tryd.ntmps73
    go_wp2
    go_ret
    exact ⟨rfl, rfl⟩
set_option maxRecDepth 100000 in
theorem kinds_any (x : MV) (w : World) (h : x.m.par.length + x.m.loc.length ≤ maxLen) : Calls Tryd.prog 74 #[metAgg x] w fun e w' => e = .returned (strV (x.m.par ++ x.m.loc)) ∧ Below w.heap.size w w' := by
  unfold metAgg strV
  have hs : (⟨x.m.par.toArray⟩ : ByteArray).size + (⟨x.m.loc.toArray⟩ : ByteArray).size ≤ 9223372036854775807 := by simpa [ByteArray.size, maxLen] using h
  have hap : (⟨x.m.par.toArray⟩ : ByteArray) ++ (⟨x.m.loc.toArray⟩ : ByteArray) = ⟨(x.m.par ++ x.m.loc).toArray⟩ := by
    simp [ByteArray.mk_append_mk]
  go_enter Tryd.func74, Tryd.ntmps74
  go_wp2
  go_ret
  exact ⟨by simp , (Below.refl _ _).alloc (Nat.le_refl _) _⟩
set_option maxRecDepth 100000 in
theorem hasB_any (op : Int) (w : World) : Calls Tryd.prog 31 #[.int .i64 op] w fun e w' => e = .returned (.bool (hasB op)) ∧ w = w' := by
  unfold hasB
  cases h1 : op == 25
  · go_enter Tryd.func31, Tryd.ntmps31
    go_wp2
    go_ret
    exact ⟨rfl, rfl⟩
  · go_enter Tryd.func31, Tryd.ntmps31
    go_wp2
    go_ret
    exact ⟨rfl, rfl⟩
set_option maxRecDepth 100000 in
set_option maxHeartbeats 1000000 in
theorem hasA_any (op : Int) (w : World) : Calls Tryd.prog 30 #[.int .i64 op] w fun e w' => e = .returned (.bool (hasA op)) ∧ w = w' := by
  unfold hasA
  cases h1 : op == 3
  case true =>
    go_enter Tryd.func30, Tryd.ntmps30
    go_wp2
    go_ret
    exact ⟨rfl, rfl⟩
  go_enter Tryd.func30, Tryd.ntmps30
  go_wp2
  all_goals go_ret
  all_goals simp_all
end Go.Proofs.YtnojejplckhifaaDoor
