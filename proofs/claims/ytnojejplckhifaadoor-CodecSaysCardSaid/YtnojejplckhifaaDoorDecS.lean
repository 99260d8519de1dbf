/- Words for the walk of codec.Decode: where it stands; what it answers. -/
import Derived.Test.YtnojejplckhifaaDoorRd7
import Derived.Test.YtnojejplckhifaaDoorRd8
import Derived.Test.YtnojejplckhifaaDoorPMay
namespace Go.Proofs.YtnojejplckhifaaDoor
open Go.RowKit
set_option linter.unusedVariables false

theorem own_base {w : World} {b b' : Nat} {e : TypeId} {size n : Nat} {v : Value} {xs : List Value} (h : w.ownsRow b' e size v n xs) (hb : b ≤ b') : w.ownsRow b e size v n xs := by
  refine ⟨h.1, ?_⟩
  rcases h.2 with hv | ⟨k, cap, cur, hv, hk, hh⟩
  · exact .inl hv
  · exact .inr ⟨k, cap, cur, hv, by omega, hh⟩
/-- two rows of unlike types lie apart -/
theorem own_apart {w w' : World} {b b' : Nat} {t t' : TypeId} {s s' n n' : Nat} {v v' : Value} {xs xs' : List Value} (h : w.ownsRow b t s v n xs) (h' : w.ownsRow b' t' s' v' n' xs') (ht : t ≠ t') (hg : w.grownBy w' v'.ownBlock) : w'.ownsRow b t s v n xs := by
  refine ⟨h.1, ?_⟩
  rcases h.2 with hv | ⟨k, cap, cur, hv, hk, hh, h1⟩
  · exact .inl hv
  · refine .inr ⟨k, cap, cur, hv, hk, ?_, h1⟩
    have hne : some k ≠ v'.ownBlock := fun e => own_blk_ne h' hh (fun e => ht e.symm) e.symm
    exact (hg.block k (Blk.lt (t := t) (cs := cur) hh) hne).trans hh
theorem own_far {w : World} {b : Nat} {t t' : TypeId} {s n g i : Nat} {v : Value} {xs : List Value} {cs : Array Value} (h : w.ownsRow b t s v n xs) (hb : Blk w g t' cs) (ht : t ≠ t') (u : Value) : (w.setCell ⟨g, i, none⟩ u).ownsRow b t s v n xs := ownsRow_setCell_other h (own_blk_ne h hb ht) u
def codeOwn (W : World) (base : Nat) (x : MV) : Prop := W.ownsRow base 56 4 (.slice x.A x.m.code.length x.c) x.m.code.length (insL x.m.code)
/-- where the walk of Decode stands: the reader (block g), p (block gp), the result (block gr); W1: the world with the reader just made -/
structure DS (W1 W : World) (g : Nat) (B : Option Addr) (n c : Nat) (ad : Nat → Addr) (st : RS) (gp gr : Nat) (v1 v2 : Value) (cls : List (List UInt8)) (ms : List MV) : Prop where
  rd : RdAt W g B n c ad st
  bt : But g W1 W
  bp : Blk W gp 25 #[v1, v2]
  br : Blk W gr 25 #[.slice none 0 0, .slice none 0 0]
  o1 : W.ownsRow W1.heap.size 65 1 v1 cls.length (cls.map strV)
  o2 : W.ownsRow W1.heap.size 54 4 v2 ms.length (ms.flatMap mvC)
  oc : ∀ x ∈ ms, codeOwn W W1.heap.size x
  hp : W1.heap.size ≤ gp
  hr : gr ≠ g
  hrl : gr < W1.heap.size
  hg : g < W1.heap.size
theorem DS.call {W1 W W' : World} {g : Nat} {B : Option Addr} {n c : Nat} {ad : Nat → Addr} {st st' : RS} {gp gr : Nat} {v1 v2 : Value} {cls : List (List UInt8)} {ms : List MV} (h : DS W1 W g B n c ad st gp gr v1 v2 cls ms) (hr : RdAt W' g B n c ad st') (hb : But g W W') : DS W1 W' g B n c ad st' gp gr v1 v2 cls ms :=
  ⟨hr, h.bt.trans hb, hb.blk h.bp (by have := h.hp; have := h.hg; omega), hb.blk h.br h.hr, hb.own h.o1 h.hg, hb.own h.o2 h.hg, fun x hx => hb.own (h.oc x hx) h.hg, h.hp, h.hr, h.hrl, h.hg⟩
theorem DS.app1 {W1 W W2 W3 : World} {g : Nat} {B : Option Addr} {n c : Nat} {ad : Nat → Addr} {st : RS} {gp gr : Nat} {v1 v2 v' : Value} {cls : List (List UInt8)} {ms : List MV} (h : DS W1 W g B n c ad st gp gr v1 v2 cls ms) (o : Obj) (s : List UInt8)
    (ho : W2.ownsRow W1.heap.size 65 1 v' (cls.length + 1) (cls.map strV ++ [strV s])) (hg : (W.alloc o).grownBy W2 v1.ownBlock) (hw3 : W3 = W2.setCell ⟨gp, 0, none⟩ v') : DS W1 W3 g B n c ad st gp gr v' v2 (cls ++ [s]) ms := by
  have d := h.call (h.rd.but ((Below.refl _ _).alloc (Nat.le_refl _) o)) (But.refl.alloc o)
  have b2 : But g W1 W2 := But.grown d.bt hg (fun k hk => own_ge h.o1 hk) (Nat.le_refl _)
  have r2 := d.rd.grown d.o1 hg (by decide) (by decide)
  have p2 := d.bp.grown hg (fun e => own_blk_ne d.o1 d.bp (by decide) e.symm)
  have q2 := d.br.grown hg (fun e => own_blk_ne d.o1 d.br (by decide) e.symm)
  have m2 := own_apart d.o2 d.o1 (by decide) hg
  subst hw3
  have hne : gp ≠ gr := by have := h.hp; have := h.hrl; omega
  refine ⟨r2.far p2 (by decide) (by decide) _ _, b2.setNew h.hp _, p2.set_ 0 v', q2.far (p := ⟨gp, 0, none⟩) (fun e => hne e.symm) _, ?_, own_far m2 p2 (by decide) _, fun x hx => own_far (own_apart (d.oc x hx) d.o1 (by decide) hg) p2 (by decide) _, h.hp, h.hr, h.hrl, h.hg⟩
  have := own_far (i := 0) ho p2 (by decide) v'
  simpa using this
theorem DS.app2 {W1 W W2 W3 : World} {g : Nat} {B : Option Addr} {n c : Nat} {ad : Nat → Addr} {st : RS} {gp gr : Nat} {v1 v2 v' : Value} {cls : List (List UInt8)} {ms : List MV} (h : DS W1 W g B n c ad st gp gr v1 v2 cls ms) (o : Obj) (x : MV) (hx : codeOwn W W1.heap.size x)
    (ho : W2.ownsRow W1.heap.size 54 4 v' (ms.length + 1) (ms.flatMap mvC ++ mvC x)) (hg : (W.alloc o).grownBy W2 v2.ownBlock) (hw3 : W3 = W2.setCell ⟨gp, 1, none⟩ v') : DS W1 W3 g B n c ad st gp gr v1 v' cls (ms ++ [x]) := by
  have d := h.call (h.rd.but ((Below.refl _ _).alloc (Nat.le_refl _) o)) (But.refl.alloc o)
  have hx1 : codeOwn (W.alloc o) W1.heap.size x := own_below hx ((Below.refl _ _).alloc (Nat.le_refl _) o)
  have b2 : But g W1 W2 := But.grown d.bt hg (fun k hk => own_ge h.o2 hk) (Nat.le_refl _)
  have r2 := d.rd.grown d.o2 hg (by decide) (by decide)
  have p2 := d.bp.grown hg (fun e => own_blk_ne d.o2 d.bp (by decide) e.symm)
  have q2 := d.br.grown hg (fun e => own_blk_ne d.o2 d.br (by decide) e.symm)
  have m2 := own_apart d.o1 d.o2 (by decide) hg
  subst hw3
  have hne : gp ≠ gr := by have := h.hp; have := h.hrl; omega
  refine ⟨r2.far p2 (by decide) (by decide) _ _, b2.setNew h.hp _, p2.set_ 1 v', q2.far (p := ⟨gp, 1, none⟩) (fun e => hne e.symm) _, own_far m2 p2 (by decide) _, ?_, fun y hy => ?_, h.hp, h.hr, h.hrl, h.hg⟩
  · have := own_far (i := 1) ho p2 (by decide) v'
    simpa using this
  · rcases List.mem_append.1 hy with hy | hy
    · exact own_far (own_apart (d.oc y hy) d.o2 (by decide) hg) p2 (by decide) _
    · rw [List.mem_singleton] at hy
      subst hy
      exact own_far (own_apart hx1 d.o2 (by decide) hg) p2 (by decide) _
/-- what lies there is a program -/
theorem DS.pat {W1 W : World} {g : Nat} {B : Option Addr} {n c : Nat} {ad : Nat → Addr} {st : RS} {gp gr : Nat} {v1 v2 : Value} {cls : List (List UInt8)} {ms : List MV} (h : DS W1 W g B n c ad st gp gr v1 v2 cls ms) : ∃ p : PV, v1 = .slice p.A cls.length p.c ∧ v2 = .slice p.B ms.length p.d ∧ p.cls = cls ∧ p.ms = ms ∧ PAt W W.heap.size p := by
  obtain ⟨A, cc, h1, r1⟩ := own_reads h.o1
  obtain ⟨A2, d, h2, r2⟩ := own_reads h.o2
  exact ⟨⟨cls, A, cc, ms, A2, d⟩, h1, h2, rfl, rfl, ⟨r1, r2, fun x hx => Reads.of_own (h.oc x hx)⟩⟩
/-- a program's memory begins there -/
def PFar (lo : Nat) (p : PV) : Prop := (∀ a, p.A = some a → lo ≤ a.block) ∧ (∀ a, p.B = some a → lo ≤ a.block) ∧ ∀ x ∈ p.ms, ∀ a, x.A = some a → lo ≤ a.block
theorem own_at {w : World} {base : Nat} {e : TypeId} {size n n' c : Nat} {A : Option Addr} {xs : List Value} (h : w.ownsRow base e size (.slice A n' c) n xs) : ∀ a, A = some a → base ≤ a.block := by
  rintro a rfl
  rcases h.2 with ⟨hv, _⟩ | ⟨g, cap, cur, hv, hk, _⟩
  · cases hv
  · injection hv with e1 _ _
    injection e1 with e1
    subst e1
    exact hk
theorem DS.fin {w W1 W : World} {g : Nat} {B : Option Addr} {n c : Nat} {ad : Nat → Addr} {st : RS} {gp gr : Nat} {v1 v2 : Value} {cls : List (List UInt8)} {ms : List MV} (h : DS W1 W g B n c ad st gp gr v1 v2 cls ms) (hb : Below w.heap.size w W1) (hg : w.heap.size ≤ g) (hr : w.heap.size ≤ gr) (u0 u1 : Value) :
    Below w.heap.size w ((W.setCell ⟨gr, 0, none⟩ u0).setCell ⟨gr, 1, none⟩ u1) ∧ (∃ p : PV, v1 = .slice p.A cls.length p.c ∧ v2 = .slice p.B ms.length p.d ∧ p.cls = cls ∧ p.ms = ms ∧ PAt ((W.setCell ⟨gr, 0, none⟩ u0).setCell ⟨gr, 1, none⟩ u1) ((W.setCell ⟨gr, 0, none⟩ u0).setCell ⟨gr, 1, none⟩ u1).heap.size p ∧ PFar w.heap.size p) ∧
    (∀ v f, FltV W ad v (some f) → FltV ((W.setCell ⟨gr, 0, none⟩ u0).setCell ⟨gr, 1, none⟩ u1) ad v (some f)) := by
  have e1 := h.br.set_ 0 u0
  have a1 := own_far (i := 1) (own_far (i := 0) h.o1 h.br (by decide) u0) e1 (by decide) u1
  have a2 := own_far (i := 1) (own_far (i := 0) h.o2 h.br (by decide) u0) e1 (by decide) u1
  have a3 : ∀ x ∈ ms, codeOwn ((W.setCell ⟨gr, 0, none⟩ u0).setCell ⟨gr, 1, none⟩ u1) W1.heap.size x := fun x hx => own_far (i := 1) (own_far (i := 0) (h.oc x hx) h.br (by decide) u0) e1 (by decide) u1
  refine ⟨((hb.trans (h.bt.below hg hb.size)).setCell (p := ⟨gr, 0, none⟩) hr u0).setCell (p := ⟨gr, 1, none⟩) hr u1, ?_, ?_⟩
  · obtain ⟨A, cc, h1, r1⟩ := own_reads a1
    obtain ⟨A2, d, h2, r2⟩ := own_reads a2
    exact ⟨⟨cls, A, cc, ms, A2, d⟩, h1, h2, rfl, rfl, ⟨r1, r2, fun x hx => Reads.of_own (a3 x hx)⟩, fun a ha => Nat.le_trans hb.size (own_at (h1 ▸ a1) a ha), fun a ha => Nat.le_trans hb.size (own_at (h2 ▸ a2) a ha), fun x hx a ha => Nat.le_trans hb.size (own_at (a3 x hx) a ha)⟩
  · rintro v ⟨k, q⟩ hf
    match q, hf with
    | [], hf => exact hf
    | [a], ⟨p, h1, h2⟩ => exact ⟨p, h1, (h2.far (p := ⟨gr, 0, none⟩) (Blk.ne_ h2 h.br (by decide)) u0).far (p := ⟨gr, 1, none⟩) (Blk.ne_ h2 h.br (by decide)) u1⟩
    | [a, b], ⟨p, h1, h2⟩ => exact ⟨p, h1, (h2.far (p := ⟨gr, 0, none⟩) (Blk.ne_ h2 h.br (by decide)) u0).far (p := ⟨gr, 1, none⟩) (Blk.ne_ h2 h.br (by decide)) u1⟩
theorem keeps_but {g : Nat} {W1 W : World} {ad : Nat → Addr} (h : KeepsE W1 ad) (hb : But g W1 W) (hg : 14 ≤ g) (hW : 14 ≤ W1.heap.size) : KeepsE W ad := fun w' h' => by
  have h0 := h W1 (Below.refl _ _)
  have e : ∀ k, k < 14 → w'.cell? ⟨k, 0, none⟩ = W1.cell? ⟨k, 0, none⟩ := fun k hk => (h'.cell (p := ⟨k, 0, none⟩) (by have := hb.size; show k < W.heap.size; omega)).trans (hb.cell (p := ⟨k, 0, none⟩) (by show k < W1.heap.size; omega) (by show k ≠ g; omega))
  exact ⟨⟨(e _ (by decide)).trans h0.1.1, (e _ (by decide)).trans h0.1.2⟩, ⟨(e _ (by decide)).trans h0.2.1, (e _ (by decide)).trans h0.2.2⟩⟩
theorem flt_iface {w : World} {ad : Nat → Addr} {v : Value} {f : Nat × List Int} (h : FltV w ad v (some f)) : ∃ t u, v = .iface t u := by
  obtain ⟨k, q⟩ := f
  match q, h with
  | [], h => exact ⟨_, _, h⟩
  | [a], ⟨p, h1, h2⟩ => exact ⟨_, _, h1⟩
  | [a, b], ⟨p, h1, h2⟩ => exact ⟨_, _, h1⟩
theorem times_all {α : Type} {P : α → Prop} (f : RS → α × RS) (h : ∀ s, P (f s).1) (k : Nat) (s : RS) : ∀ x ∈ (timesR f k s).1, P x := by
  induction k with
  | zero => intro x hx; cases hx
  | succ k ih =>
    intro x hx
    have hx' : x ∈ (timesR f k s).1 ++ [(f (timesR f k s).2).1] := hx
    rcases List.mem_append.1 hx' with hx | hx
    · exact ih x hx
    · rw [List.mem_singleton] at hx
      subst hx
      exact h _
theorem class_len (l : List Nat) (s : RS) : (classR l s).1.length ≤ 10 := by
  show (strB (lettersR l 10 s).1).length ≤ 10
  have := letters_le l 10 s
  simpa [strB] using this
theorem method_len (l : List Nat) (s : RS) : (methodR l s).1.par.length ≤ 12 ∧ (methodR l s).1.loc.length ≤ 12 ∧ (methodR l s).1.code.length ≤ 120 := by
  refine ⟨?_, ?_, ?_⟩
  · have := letters_le l 12 s
    show (strB _).length ≤ 12
    simpa [strB] using this
  · show (strB (lettersR l (12 - (lettersR l 12 s).1.length) (lettersR l 12 s).2).1).length ≤ 12
    have := letters_le l (12 - (lettersR l 12 s).1.length) (lettersR l 12 s).2
    simp [strB]
    omega
  · show (timesR (instrR l) _ _).1.length ≤ 120
    rw [times_len]
    unfold numberR
    split
    · exact Nat.zero_le _
    · rename_i h; omega
/-- what Decode answers -/
def DPost (w : World) (ad : Nat → Addr) (o : Option Prg × Option (Nat × List Int)) (e : Ending) (w' : World) : Prop :=
  Below w.heap.size w w' ∧ ((∃ p : PV, o = (some p.prg, none) ∧ e = .returned (.tuple #[p.val, .nilIface]) ∧ PAt w' w'.heap.size p ∧ PFar w.heap.size p) ∨
    (∃ f v, o = (none, some f) ∧ e = .returned (.tuple #[.agg #[.slice none 0 0, .slice none 0 0], v]) ∧ FltV w' ad v (some f)))
theorem cls_info : (Tryd.prog.info? 65).map (fun i => (i.zero, i.size, i.bytes)) = some (some (.agg #[.string ⟨#[]⟩]), 1, 16) := by kernel_rfl
theorem met_info : (Tryd.prog.info? 54).map (fun i => (i.zero, i.size, i.bytes)) = some (some (.agg #[.string ⟨#[]⟩, .string ⟨#[]⟩, .string ⟨#[]⟩, .slice none 0 0]), 4, 72) := by kernel_rfl
theorem mvC_one (x : MV) : ∀ u ∈ mvC x, u.oneCell' = true := by
  intro u hu
  simp [mvC, strV] at hu
  rcases hu with rfl | rfl | rfl | rfl <;> rfl
/-- the reader behind so many bytes of the head -/
def hdR (l : List Nat) : Nat → RS
  | 0 => ⟨0, none⟩
  | k + 1 => (byteR l (mIs (hk k)) (hdR l k)).2
theorem hdR3 (l : List Nat) : hdR l 3 = headR l := rfl
end Go.Proofs.YtnojejplckhifaaDoor
