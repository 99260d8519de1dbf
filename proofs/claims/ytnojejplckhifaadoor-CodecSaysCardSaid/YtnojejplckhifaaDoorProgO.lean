/- A program among the arguments: its classes, its methods, their instructions, as plain data. -/
import Derived.Test.YtnojejplckhifaaDoorPrg
import Derived.Test.YtnojejplckhifaaDoorPB
import Derived.Deep.Slices
import Derived.Deep.Fields
import Derived.ChangeSame
import Derived.Lib.SmallJoins
namespace Go.Proofs.YtnojejplckhifaaDoor
open Go.RowKit Go.ChangeShapes Go.WideShapes Go.Deep Go.Joins
set_option linter.unusedVariables false

section
variable {H : Type} {enc : TypeId × Value → H} {P : Program} {w : World} {base : Nat} {spare : Nat → Bool} {held : Bool}
theorem open_slice_fields {t e : TypeId} {fs : Array Field} {fuel : Nat} {cs : List Value} {x : DataW H × List MemPlace} (ht : P.underlying t = some (.slice e)) (he : P.underlying e = some (.struct fs))
    (hone : oneCellFields P fs = true) (hC : P.cellsOf e = fs.size) (h : DataW.trod enc P w base spare held fuel t cs = some x) :
    (cs = [.slice none 0 0] ∧ x = (.nil, [])) ∨
    ∃ (a : Addr) (len cap m : Nat) (D : Nat → DataW H) (Pl : Nat → List MemPlace), cs = [.slice (some a) len cap] ∧ base ≤ a.block ∧ len ≤ cap ∧ cap ≤ maxLen ∧ m = (if spare a.block then cap else len) ∧
      x = (.slice ((List.range len).map D) ((List.range (m - len)).map fun j => D (len + j)), MemPlace.row a (m * fs.size) ++ (List.range m).flatMap Pl) ∧
      ∀ i, i < m → ∃ (ys : List (DataW H × List MemPlace)) (n : Nat), D i = .agg (ys.map (·.1)) ∧ Pl i = ys.flatMap (·.2) ∧ ys.length = fs.size ∧
        ∀ (j : Nat) (f : Field), fs[j]? = some f → ∃ (v : Value) (y : DataW H × List MemPlace), w.cell? (a.add (i * fs.size + j)) = some v ∧ ys[j]? = some y ∧ DataW.trod enc P w base spare held n f.type [v] = some y := by
  rcases open_slice ht h with h0 | ⟨a, len, cap, m, n, D, Pl, hcs, hb, hl, hm, hmm, hx, hi⟩
  · exact .inl h0
  · refine .inr ⟨a, len, cap, m, D, Pl, hcs, hb, hl, hm, hmm, by rw [hC] at hx; exact hx, fun i him => ?_⟩
    obtain ⟨cs', hc, ht'⟩ := hi i him
    rw [hC] at hc
    obtain ⟨ys, n', hn', hy, hlen, hyl, hf⟩ := DataW.trod_struct he ht'
    obtain ⟨_, hcl, hat⟩ := World.cells?_some hc
    simp only [Prod.mk.injEq] at hy
    refine ⟨ys, n', hy.1, hy.2, hyl, fun j f hj => ?_⟩
    obtain ⟨ho, hk⟩ := hone_of hone j f hj
    have hjl : j < fs.size := (Array.getElem?_eq_some_iff.1 hj).1
    have hcell := hat j hjl
    have hv : cs'[j]? = some (cs'[j]'(by omega)) := List.getElem?_eq_getElem (by omega)
    have h1 := hf j f hj
    rw [ho, hk] at h1
    have hone' : (cs'.drop j).take 1 = [cs'[j]'(by omega)] := by
      rw [List.drop_eq_getElem_cons (by omega)]
      rfl
    rw [hone'] at h1
    have hys : ys[j]? = some (ys[j]'(by omega)) := List.getElem?_eq_getElem (by omega)
    refine ⟨_, _, ?_, hys, h1.trans hys⟩
    rw [← Go.Deep.add_add, hcell, hv]
end

theorem list_of {α : Type} {Q : Nat → α → Prop} : ∀ n, (∀ i, i < n → ∃ p, Q i p) → ∃ l : List α, l.length = n ∧ ∀ i p, l[i]? = some p → Q i p
  | 0, _ => ⟨[], rfl, by simp⟩
  | n + 1, h => by
    obtain ⟨l, hl, hq⟩ := list_of n (fun i hi => h i (by omega))
    obtain ⟨p, hp⟩ := h n (by omega)
    refine ⟨l ++ [p], by simp [hl], fun i q hi => ?_⟩
    rcases Nat.lt_or_ge i n with hlt | hge
    · rw [List.getElem?_append_left (by omega)] at hi
      exact hq i q hi
    · rw [List.getElem?_append_right (by omega)] at hi
      have : i - l.length = 0 := by
        rcases Nat.eq_zero_or_pos (i - l.length) with h0 | h0
        · exact h0
        · rw [List.getElem?_eq_none (by simp; omega)] at hi; cases hi
      rw [this] at hi
      obtain rfl : p = q := by simpa using hi
      have : i = n := by omega
      subst this
      exact hp
theorem strV_mk (s : ByteArray) : strV s.data.toList = .string s := by
  unfold strV
  cases s
  simp
theorem size_toList (s : ByteArray) : s.data.toList.length = s.size := Array.length_toList
theorem i64_wfp {n : Int} (h : (Lit.int .i64 n).wf = true) : I64 n := by
  simp [Lit.wf, IntKind.min, IntKind.max, IntKind.signed, IntKind.bits] at h
  unfold I64; omega
/-- elements of four cells, each known, are a row that reads as a list -/
theorem reads_four {α : Type} {f : α → List Value} (hf : ∀ x, (f x).length = 4) {W : World} {a : Addr} {l : List α} {len : Nat} (hl : l.length = len) (h : ∀ i p, l[i]? = some p → ∀ j, j < 4 → W.cell? (a.add (i * 4 + j)) = (f p)[j]?) : Reads W W.heap.size 4 (some a) len (l.flatMap f) := by
  refine ⟨by rw [four_len f hf, hl], fun hn => ⟨a, rfl, ?_, fun j u hu => ?_⟩⟩
  · have h0 : 0 < l.length := by omega
    have := h 0 _ (List.getElem?_eq_getElem h0) 0 (by omega)
    have hlt : 0 < (f l[0]).length := by rw [hf]; decide
    rw [List.getElem?_eq_getElem hlt] at this
    simpa [Addr.add] using World.block_lt_of_cell? W _ this
  · have hj : j < (l.flatMap f).length := (List.getElem?_eq_some_iff.1 hu).1
    rw [four_len f hf] at hj
    have hk : j / 4 < l.length := by omega
    have e := four_at f hf l (j / 4) (j % 4) hk (by omega)
    rw [show j / 4 * 4 + j % 4 = j by omega, hu] at e
    have := h (j / 4) _ (List.getElem?_eq_getElem hk) (j % 4) (by omega)
    rw [show j / 4 * 4 + j % 4 = j by omega] at this
    rw [this, ← e]
section
variable {H : Type} {enc : TypeId × Value → H} {W : World}
set_option maxRecDepth 100000 in
theorem open_instrs {fuel : Nat} {cs : List Value} {x : DataW H × List MemPlace} (h : DataW.trod enc Tryd.prog W 0 (fun _ => true) true fuel 52 cs = some x) :
    ∃ (A : Option Addr) (n c : Nat) (l : List Ins), cs = [.slice A n c] ∧ n ≤ c ∧ c ≤ maxLen ∧ l.length = n ∧ Reads W W.heap.size 4 A n (insL l) ∧ ∀ y ∈ l, I64 y.op ∧ I64 y.a ∧ I64 y.b ∧ I64 y.n := by
  rcases open_slice_fields Tryd.underlying52 Tryd.underlying56 (by kernel_rfl) (by kernel_rfl) h with ⟨hcs, _⟩ | ⟨a, len, cap, m, D, Pl, hcs, _, hl, hm, hmm, _, hi⟩
  · exact ⟨none, 0, 0, [], hcs, Nat.le_refl _, by decide, rfl, Reads.none_, by simp⟩
  · have hall : ∀ i, i < len → ∃ p : Ins, (∀ j, j < 4 → W.cell? (a.add (i * 4 + j)) = (insC p)[j]?) ∧ I64 p.op ∧ I64 p.a ∧ I64 p.b ∧ I64 p.n := by
      intro i hi'
      obtain ⟨ys, n, _, _, _, hf⟩ := hi i (by rw [hmm]; simp; omega)
      obtain ⟨v0, y0, c0, _, t0⟩ := hf 0 _ rfl
      obtain ⟨v1, y1, c1, _, t1⟩ := hf 1 _ rfl
      obtain ⟨v2, y2, c2, _, t2⟩ := hf 2 _ rfl
      obtain ⟨v3, y3, c3, _, t3⟩ := hf 3 _ rfl
      obtain ⟨z0, e0, _, w0⟩ := DataW.trod_int Tryd.underlying3 t0
      obtain ⟨z1, e1, _, w1⟩ := DataW.trod_int Tryd.underlying3 t1
      obtain ⟨z2, e2, _, w2⟩ := DataW.trod_int Tryd.underlying3 t2
      obtain ⟨z3, e3, _, w3⟩ := DataW.trod_int Tryd.underlying2 t3
      obtain rfl : v0 = .int .i64 z0 := by simpa using e0
      obtain rfl : v1 = .int .i64 z1 := by simpa using e1
      obtain rfl : v2 = .int .i64 z2 := by simpa using e2
      obtain rfl : v3 = .int .i64 z3 := by simpa using e3
      refine ⟨⟨z0, z1, z2, z3⟩, fun j hj => ?_, i64_wfp w0, i64_wfp w1, i64_wfp w2, i64_wfp w3⟩
      match j, hj with
      | 0, _ => exact c0
      | 1, _ => exact c1
      | 2, _ => exact c2
      | 3, _ => exact c3
    obtain ⟨l, hln, hq⟩ := list_of len hall
    refine ⟨some a, len, cap, l, hcs, hl, hm, hln, reads_four insC_len hln (fun i p hp => (hq i p hp).1), fun y hy => ?_⟩
    obtain ⟨i, hi2⟩ := List.mem_iff_getElem?.1 hy
    exact (hq i y hi2).2
set_option maxRecDepth 100000 in
theorem open_classes {fuel : Nat} {cs : List Value} {x : DataW H × List MemPlace} (h : DataW.trod enc Tryd.prog W 0 (fun _ => true) true fuel 22 cs = some x) :
    ∃ (A : Option Addr) (n c : Nat) (l : List (List UInt8)), cs = [.slice A n c] ∧ n ≤ c ∧ c ≤ maxLen ∧ l.length = n ∧ Reads W W.heap.size 1 A n (l.map strV) ∧ ∀ y ∈ l, y.length ≤ maxLen := by
  rcases open_slice_fields Tryd.underlying22 Tryd.underlying65 (by kernel_rfl) (by kernel_rfl) h with ⟨hcs, _⟩ | ⟨a, len, cap, m, D, Pl, hcs, _, hl, hm, hmm, _, hi⟩
  · exact ⟨none, 0, 0, [], hcs, Nat.le_refl _, by decide, rfl, Reads.none_, by simp⟩
  · have hall : ∀ i, i < len → ∃ p : List UInt8, W.cell? (a.add i) = some (strV p) ∧ p.length ≤ maxLen := by
      intro i hi'
      obtain ⟨ys, n, _, _, _, hf⟩ := hi i (by rw [hmm]; simp; omega)
      obtain ⟨v0, y0, c0, _, t0⟩ := hf 0 _ rfl
      obtain ⟨s0, e0, _, w0⟩ := DataW.trod_string Tryd.underlying9 t0
      obtain rfl : v0 = .string s0 := by simpa using e0
      refine ⟨s0.data.toList, ?_, by rw [size_toList]; exact w0⟩
      rw [strV_mk]
      simpa using c0
    obtain ⟨l, hln, hq⟩ := list_of len hall
    refine ⟨some a, len, cap, l, hcs, hl, hm, hln, ⟨by simp [hln], fun hn => ⟨a, rfl, ?_, fun j u hu => ?_⟩⟩, fun y hy => ?_⟩
    · have h0 : 0 < l.length := by omega
      have := (hq 0 _ (List.getElem?_eq_getElem h0)).1
      simpa [Addr.add] using World.block_lt_of_cell? W _ this
    · rw [List.getElem?_map] at hu
      obtain ⟨p, hp, rfl⟩ := Option.map_eq_some_iff.1 hu
      exact (hq j p hp).1
    · obtain ⟨i, hi2⟩ := List.mem_iff_getElem?.1 hy
      exact (hq i y hi2).2
/-- what is known of a method among the arguments -/
structure MArg (w : World) (x : MV) : Prop where
  par : x.m.par.length ≤ maxLen
  loc : x.m.loc.length ≤ maxLen
  ret : x.m.ret.length ≤ maxLen
  code : x.m.code.length ≤ x.c ∧ x.c ≤ maxLen
  rd : Reads w w.heap.size 4 x.A x.m.code.length (insL x.m.code)
  num : ∀ y ∈ x.m.code, I64 y.op ∧ I64 y.a ∧ I64 y.b ∧ I64 y.n
set_option maxRecDepth 100000 in
theorem open_methods {fuel : Nat} {cs : List Value} {x : DataW H × List MemPlace} (h : DataW.trod enc Tryd.prog W 0 (fun _ => true) true fuel 23 cs = some x) :
    ∃ (A : Option Addr) (n c : Nat) (l : List MV), cs = [.slice A n c] ∧ n ≤ c ∧ c ≤ maxLen ∧ l.length = n ∧ Reads W W.heap.size 4 A n (l.flatMap mvC) ∧ ∀ y ∈ l, MArg W y := by
  rcases open_slice_fields Tryd.underlying23 Tryd.underlying54 (by kernel_rfl) (by kernel_rfl) h with ⟨hcs, _⟩ | ⟨a, len, cap, m, D, Pl, hcs, _, hl, hm, hmm, _, hi⟩
  · exact ⟨none, 0, 0, [], hcs, Nat.le_refl _, by decide, rfl, Reads.none_, by simp⟩
  · have hall : ∀ i, i < len → ∃ p : MV, (∀ j, j < 4 → W.cell? (a.add (i * 4 + j)) = (mvC p)[j]?) ∧ MArg W p := by
      intro i hi'
      obtain ⟨ys, n, _, _, _, hf⟩ := hi i (by rw [hmm]; simp; omega)
      obtain ⟨v0, y0, c0, _, t0⟩ := hf 0 _ rfl
      obtain ⟨v1, y1, c1, _, t1⟩ := hf 1 _ rfl
      obtain ⟨v2, y2, c2, _, t2⟩ := hf 2 _ rfl
      obtain ⟨v3, y3, c3, _, t3⟩ := hf 3 _ rfl
      obtain ⟨s0, e0, _, w0⟩ := DataW.trod_string Tryd.underlying9 t0
      obtain ⟨s1, e1, _, w1⟩ := DataW.trod_string Tryd.underlying9 t1
      obtain ⟨s2, e2, _, w2⟩ := DataW.trod_string Tryd.underlying9 t2
      obtain ⟨A', n', c', l', e3, h1, h2, h3, h4, h5⟩ := open_instrs t3
      obtain rfl : v0 = .string s0 := by simpa using e0
      obtain rfl : v1 = .string s1 := by simpa using e1
      obtain rfl : v2 = .string s2 := by simpa using e2
      obtain rfl : v3 = .slice A' n' c' := by simpa using e3
      subst h3
      refine ⟨⟨⟨s0.data.toList, s1.data.toList, s2.data.toList, l'⟩, A', c'⟩, fun j hj => ?_, ⟨by rw [size_toList]; exact w0, by rw [size_toList]; exact w1, by rw [size_toList]; exact w2, ⟨h1, h2⟩, h4, h5⟩⟩
      unfold mvC
      rw [strV_mk, strV_mk, strV_mk]
      match j, hj with
      | 0, _ => exact c0
      | 1, _ => exact c1
      | 2, _ => exact c2
      | 3, _ => exact c3
    obtain ⟨l, hln, hq⟩ := list_of len hall
    refine ⟨some a, len, cap, l, hcs, hl, hm, hln, reads_four mvC_len hln (fun i p hp => (hq i p hp).1), fun y hy => ?_⟩
    obtain ⟨i, hi2⟩ := List.mem_iff_getElem?.1 hy
    exact (hq i y hi2).2
end
/-- what is known of a program among the arguments -/
structure PArg (w : World) (p : PV) : Prop where
  pat : PAt w w.heap.size p
  cn : p.cls.length ≤ p.c ∧ p.c ≤ maxLen
  mn : p.ms.length ≤ p.d ∧ p.d ≤ maxLen
  cl : ∀ c ∈ p.cls, c.length ≤ maxLen
  ml : ∀ x ∈ p.ms, MArg w x
set_option maxRecDepth 100000 in
theorem open_prog {H : Type} {enc : TypeId × Value → H} {W : World} {v : Value} {d : DataW H} {ps : List MemPlace} {base : Nat}
    (hval : Value.okWide Tryd.prog W .any base 25 v) (h : DataW.Trod enc Tryd.prog W 0 (fun _ => true) true 25 v d ps) :
    ∃ p : PV, v = p.val ∧ PArg W p := by
  obtain ⟨v0, v1, y0, y1, n, rfl, _, _, t0, t1⟩ := open_agg2 Tryd.underlying25 (by kernel_rfl) (by kernel_rfl) hval h
  obtain ⟨A, n1, c, cls, e0, h1, h2, h3, h4, h5⟩ := open_classes t0
  obtain ⟨B, n2, d', ms, e1, g1, g2, g3, g4, g5⟩ := open_methods t1
  obtain rfl : v0 = .slice A n1 c := by simpa using e0
  obtain rfl : v1 = .slice B n2 d' := by simpa using e1
  subst h3 g3
  exact ⟨⟨cls, A, c, ms, B, d'⟩, rfl, ⟨⟨h4, g4, fun x hx => (g5 x hx).rd⟩, ⟨h1, h2⟩, ⟨g1, g2⟩, h5, g5⟩⟩
theorem PArg.num {w : World} {p : PV} (h : PArg w p) : ∀ m ∈ p.prg.mets, ∀ x ∈ m.code, I64 x.n := by
  intro m hm x hx
  obtain ⟨y, hy, rfl⟩ := List.mem_map.1 hm
  exact ((h.ml y hy).num x hx).2.2.2
end Go.Proofs.YtnojejplckhifaaDoor
