/- The contract of the reader's method. -/
import Derived.Test.YtnojejplckhifaaDoorRd5
namespace Go.Proofs.YtnojejplckhifaaDoor
open Go.RowKit
set_option linter.unusedVariables false

theorem instr_is (x : Ins) (st : RS) (g : Nat) (B : Option Addr) (n c : Nat) (l : List Nat) (ad : Nat → Addr) (s : RS) (w : World) (hq : (x, st) = instrR l s) (h : RdAt w g B n c ad s) (hE : Env w g B n c l ad) :
    Calls Tryd.prog 66 #[.pointer (some ⟨g, 0, none⟩)] w (RPost w g B n c ad (.agg #[.int .i64 x.op, .int .i64 x.a, .int .i64 x.b, .int .i64 x.n]) st) := by
  have := instrR_any g B n c l ad s w h hE
  rw [← hq] at this
  exact this
theorem ins_info : (Tryd.prog.info? 56).map (fun i => (i.zero, i.size, i.bytes)) = some (some (.agg #[.int .i64 0, .int .i64 0, .int .i64 0, .int .i64 0]), 4, 32) := by kernel_rfl
theorem insC_one (x : Ins) : ∀ u ∈ insC x, u.oneCell' = true := by
  intro u hu
  simp [insC] at hu
  rcases hu with rfl | rfl | rfl | rfl <;> rfl
theorem insL_len (l : List Ins) : (insL l).length = l.length * 4 := four_len insC insC_len l
theorem insL_snoc (l : List Ins) (x : Ins) : insL (l ++ [x]) = insL l ++ insC x := by simp [insL]
theorem reads_newS (w : World) (t : TypeId) (cs : Array Value) (s n : Nat) (xs : List Value) (hx : cs.toList = xs) (hn : xs.length = n * s) :
    Reads (w.alloc (.cells cs t)) (w.alloc (.cells cs t)).heap.size s (some ⟨w.heap.size, 0, none⟩) n xs := by
  subst hx
  exact ⟨hn, fun _ => ⟨_, rfl, by simp, World.news_of_block (Blk.new w t cs)⟩⟩
theorem own_lt {w : World} {base : Nat} {e : TypeId} {size n : Nat} {v : Value} {xs : List Value} (h : w.ownsRow base e size v n xs) {k : Nat} (hk : v.ownBlock = some k) : k < w.heap.size := by
  rcases h.2 with ⟨rfl, _⟩ | ⟨g, cap, cur, rfl, hb, hh, _⟩
  · simp [Value.ownBlock] at hk
  · simp [Value.ownBlock] at hk
    subst hk
    exact Blk.lt (t := e) (cs := cur) hh
theorem But.grown {g base : Nat} {w W W' : World} {v : Value} (h : But g w W) (hg : W.grownBy W' v.ownBlock) (hb : ∀ k, v.ownBlock = some k → base ≤ k) (hw : w.heap.size ≤ base) : But g w W' := by
  have hB : Below w.heap.size W W' := (Below.refl w.heap.size W).grown hg h.size (fun k hk => Nat.le_trans hw (hb k hk))
  exact ⟨hB.os.trans h.os, hB.tape.trans h.tape, hB.output.trans h.output, Nat.le_trans h.size hB.size, fun k hk hn => (hB.block k hk).trans (h.block k hk hn)⟩
/-- the reader when a row of the walk's own grows -/
theorem RdAt.grown {w w' : World} {g : Nat} {B : Option Addr} {n c : Nat} {ad : Nat → Addr} {s : RS} (h : RdAt w g B n c ad s) {base : Nat} {t : TypeId} {size m : Nat} {v : Value} {xs : List Value} (ho : w.ownsRow base t size v m xs) (hg : w.grownBy w' v.ownBlock) (h1 : t ≠ 78) (h2 : t ≠ 106) : RdAt w' g B n c ad s := by
  obtain ⟨ev, hk, he⟩ := h.blk
  refine ⟨⟨ev, hk.grown hg (fun e => own_blk_ne ho hk h1 e.symm), ?_⟩, h.le⟩
  revert he
  cases s.err with
  | none => exact fun he => he
  | some kp =>
    rintro ⟨p, e1, e2, e3⟩
    exact ⟨p, e1, e2, e3.grown hg (fun e => own_blk_ne ho e3 h2 e.symm)⟩
/-- where the walk of method stands in its loop -/
structure MS (w W : World) (g : Nat) (B : Option Addr) (n c : Nat) (ad : Nat → Addr) (st : RS) (gm gr : Nat) (p q r : List UInt8) (v : Value) (k : Nat) (xs : List Ins) : Prop where
  rd : RdAt W g B n c ad st
  bt : But g w W
  bx : Blk W gm 54 #[strV p, strV q, strV r, v]
  br : Blk W gr 54 #[strV [], strV [], strV [], .slice none 0 0]
  own : W.ownsRow w.heap.size 56 4 v k (insL xs)
  hx : w.heap.size ≤ gm
  hr : w.heap.size ≤ gr
  ne : gm ≠ gr
  hg : g < w.heap.size
theorem MS.set {w W : World} {g : Nat} {B : Option Addr} {n c : Nat} {ad : Nat → Addr} {st : RS} {gm gr : Nat} {p q r : List UInt8} {v : Value} {k : Nat} {xs : List Ins} (h : MS w W g B n c ad st gm gr p q r v k xs) (i : Nat) (u : Value) :
    RdAt (W.setCell ⟨gm, i, none⟩ u) g B n c ad st ∧ But g w (W.setCell ⟨gm, i, none⟩ u) ∧ Blk (W.setCell ⟨gm, i, none⟩ u) gm 54 (#[strV p, strV q, strV r, v].setIfInBounds i u) ∧ Blk (W.setCell ⟨gm, i, none⟩ u) gr 54 #[strV [], strV [], strV [], .slice none 0 0] ∧ (W.setCell ⟨gm, i, none⟩ u).ownsRow w.heap.size 56 4 v k (insL xs) :=
  ⟨h.rd.far h.bx (by decide) (by decide) _ _, h.bt.setNew h.hx _, h.bx.set_ i u, h.br.far (p := ⟨gm, i, none⟩) (fun e => h.ne e.symm) u, ownsRow_setCell_other h.own (own_blk_ne h.own h.bx (by decide)) u⟩
theorem MS.call {w W W' : World} {g : Nat} {B : Option Addr} {n c : Nat} {ad : Nat → Addr} {st st' : RS} {gm gr : Nat} {p q r : List UInt8} {v : Value} {k : Nat} {xs : List Ins} (h : MS w W g B n c ad st gm gr p q r v k xs) (hr : RdAt W' g B n c ad st') (hb : But g W W') : MS w W' g B n c ad st' gm gr p q r v k xs :=
  ⟨hr, h.bt.trans hb, hb.blk h.bx (by have := h.hx; have := h.hg; omega), hb.blk h.br (by have := h.hr; have := h.hg; omega), hb.own h.own h.hg, h.hx, h.hr, h.ne, h.hg⟩
def MRel (w : World) (g : Nat) (B : Option Addr) (n c : Nat) (l : List Nat) (ad : Nat → Addr) (s3 : RS) (m gm gr : Nat) (p q r : List UInt8) (si : Value) (wr : World) : Prop :=
  ∃ (k : Nat) (v : Value), k ≤ m ∧ si = .int .i64 (k : Int) ∧ MS w wr g B n c ad (timesR (instrR l) k s3).2 gm gr p q r v k (timesR (instrR l) k s3).1
/-- a round's append -/
theorem MS.app {w W W2 W3 : World} {g : Nat} {B : Option Addr} {n c : Nat} {ad : Nat → Addr} {st : RS} {gm gr : Nat} {p q r : List UInt8} {v v' : Value} {k : Nat} {xs : List Ins} {x : Ins} (h : MS w W g B n c ad st gm gr p q r v k xs) (o : Obj)
    (ho : W2.ownsRow w.heap.size 56 4 v' (k + 1) (insL xs ++ insC x)) (hg : (W.alloc o).grownBy W2 v.ownBlock) (hv : v'.ownBlock = v.ownBlock ∨ v'.ownBlock = some (W.alloc o).heap.size) (hw3 : W3 = W2.setCell ⟨gm, 3, none⟩ v') : MS w W3 g B n c ad st gm gr p q r v' (k + 1) (xs ++ [x]) := by
  have hwW := h.bt.size
  have b1 : But g w (W.alloc o) := h.bt.alloc o
  have b2 : But g w W2 := But.grown b1 hg (fun k hk => own_ge h.own hk) (Nat.le_refl _)
  have o1 : (W.alloc o).ownsRow w.heap.size 56 4 v k (insL xs) := own_below h.own ((Below.refl _ _).alloc (Nat.le_refl _) o)
  have r1 : RdAt (W.alloc o) g B n c ad st := h.rd.but ((Below.refl _ _).alloc (Nat.le_refl _) o)
  have r2 : RdAt W2 g B n c ad st := r1.grown o1 hg (by decide) (by decide)
  have x2 : Blk W2 gm 54 #[strV p, strV q, strV r, v] := (h.bx.alloc o).grown hg (fun e => own_blk_ne h.own h.bx (by decide) e.symm)
  have y2 : Blk W2 gr 54 #[strV [], strV [], strV [], .slice none 0 0] := (h.br.alloc o).grown hg (fun e => own_blk_ne h.own h.br (by decide) e.symm)
  subst hw3
  refine ⟨r2.far x2 (by decide) (by decide) _ _, b2.setNew h.hx _, x2.set_ 3 v', y2.far (p := ⟨gm, 3, none⟩) (fun e => h.ne e.symm) _, ?_, h.hx, h.hr, h.ne, h.hg⟩
  rw [insL_snoc]
  exact ownsRow_setCell_other ho (own_blk_ne ho x2 (by decide)) _
def MPost (w : World) (g : Nat) (B : Option Addr) (n c : Nat) (ad : Nat → Addr) (m : Met) (s : RS) (e : Ending) (w' : World) : Prop :=
  ∃ A cc, e = .returned (.agg #[strV m.par, strV m.loc, strV m.ret, .slice A m.code.length cc]) ∧ RdAt w' g B n c ad s ∧ But g w w' ∧ w'.ownsRow w.heap.size 56 4 (.slice A m.code.length cc) m.code.length (insL m.code)
/-- the end of the walk: the result's block is filled -/
theorem MS.fin {w W : World} {g : Nat} {B : Option Addr} {n c : Nat} {ad : Nat → Addr} {st : RS} {gm gr : Nat} {p q r : List UInt8} {v : Value} {k : Nat} {xs : List Ins} (h : MS w W g B n c ad st gm gr p q r v k xs) (hk : xs.length = k) (u0 u1 u2 u3 : Value) (m : Met) (hm : m = ⟨p, q, r, xs⟩) (h0 : u0 = strV p) (h1 : u1 = strV q) (h2 : u2 = strV r) (h3 : u3 = v) :
    MPost w g B n c ad m st (.returned (.agg #[u0, u1, u2, u3])) ((((W.setCell ⟨gr, 0, none⟩ u0).setCell ⟨gr, 1, none⟩ u1).setCell ⟨gr, 2, none⟩ u2).setCell ⟨gr, 3, none⟩ u3) := by
  have e1 := h.br.set_ 0 u0
  have e2 := e1.set_ 1 u1
  have e3 := e2.set_ 2 u2
  have o1 := ownsRow_setCell_other h.own (a := ⟨gr, 0, none⟩) (own_blk_ne h.own h.br (by decide)) u0
  have o2 := ownsRow_setCell_other o1 (a := ⟨gr, 1, none⟩) (own_blk_ne o1 e1 (by decide)) u1
  have o3 := ownsRow_setCell_other o2 (a := ⟨gr, 2, none⟩) (own_blk_ne o2 e2 (by decide)) u2
  have o4 := ownsRow_setCell_other o3 (a := ⟨gr, 3, none⟩) (own_blk_ne o3 e3 (by decide)) u3
  obtain ⟨A, cc, hv, _⟩ := own_reads h.own
  subst hk hm h0 h1 h2 h3
  subst hv
  exact ⟨A, cc, rfl, (((h.rd.far h.br (by decide) (by decide) 0 _).far e1 (by decide) (by decide) 1 _).far e2 (by decide) (by decide) 2 _).far e3 (by decide) (by decide) 3 _, (((h.bt.setNew h.hr _).setNew h.hr _).setNew h.hr _).setNew h.hr _, o4⟩
end Go.Proofs.YtnojejplckhifaaDoor
