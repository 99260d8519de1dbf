/- Words for the walk of overdriveref3.Decode: where it stands; what it answers. -/
import Derived.Test.YtnojejplckhifaaDoorQle
import Derived.Test.YtnojejplckhifaaDoorDecS
import Derived.Test.YtnojejplckhifaaDoorRm3
import Derived.Test.YtnojejplckhifaaDoorRZig
namespace Go.Proofs.YtnojejplckhifaaDoor
open Go.RowKit
set_option linter.unusedVariables false

theorem QAt.same {w : World} {g : Nat} {B : Option Addr} {n c : Nat} {s s' : RS} (h : QAt w g B n c s) (he : s.err = s'.err) (hn : s.err ≠ none) : QAt w g B n c s' := by
  cases hs : s.err with
  | none => exact absurd hs hn
  | some kp =>
    obtain ⟨a, b, hb, h1, h2⟩ := h.shut hs
    exact QAt.mk1 (he.symm.trans hs) h1 hb h2
theorem QAt.grown {w w' : World} {g : Nat} {B : Option Addr} {n c : Nat} {s : RS} (h : QAt w g B n c s) {base m sz : Nat} {t : TypeId} {v : Value} {xs : List Value} (ho : w.ownsRow base t sz v m xs) (hg : w.grownBy w' v.ownBlock) (ht : t ≠ 86) (ht2 : t ≠ 3) : QAt w' g B n c s := by
  obtain ⟨a, cd, sl, h1, h2, h3⟩ := h.blk
  exact ⟨⟨a, cd, sl, h1.grown hg (fun e => own_blk_ne ho h1 ht e.symm), h2, fun kp hq => by obtain ⟨e1, b, e2, e3, e4⟩ := h3 kp hq; exact ⟨e1, b, e2, e3, e4.grown hg (fun e => own_blk_ne ho e4 ht2 e.symm)⟩⟩, h.le⟩
theorem numberR_bad (l : List Nat) (lo hi : Nat) (s : RS) (h : s.err ≠ none) : numberR l lo hi s = (0, s) := by
  have hw : wholeR l s = (0, s) := by
    unfold wholeR
    split
    · rfl
    · rename_i h0; exact absurd h0 h
  have hf : failR s 6 s.at_ = s := by
    unfold failR
    split
    · rfl
    · rename_i h0; exact absurd h0 h
  unfold numberR
  rw [hw]
  split
  · rw [hf]
  · rfl
/-- the reader (block g), p (block gp); W1: the world with the reader just made -/
structure TS (W1 W : World) (g : Nat) (B : Option Addr) (n c : Nat) (st : RS) (gp : Nat) (v1 v2 : Value) (cls : List (List UInt8)) (ms : List MV) : Prop where
  rd : QAt W g B n c st
  bt : But g W1 W
  bp : Blk W gp 25 #[v1, v2]
  o1 : W.ownsRow W1.heap.size 65 1 v1 cls.length (cls.map strV)
  o2 : W.ownsRow W1.heap.size 54 4 v2 ms.length (ms.flatMap mvC)
  oc : ∀ x ∈ ms, codeOwn W W1.heap.size x
  hp : W1.heap.size ≤ gp
  hg : g < W1.heap.size
theorem TS.call {W1 W W' : World} {g : Nat} {B : Option Addr} {n c : Nat} {st st' : RS} {gp : Nat} {v1 v2 : Value} {cls : List (List UInt8)} {ms : List MV} (h : TS W1 W g B n c st gp v1 v2 cls ms) (hr : QAt W' g B n c st') (hb : But g W W') : TS W1 W' g B n c st' gp v1 v2 cls ms :=
  ⟨hr, h.bt.trans hb, hb.blk h.bp (by have := h.hp; have := h.hg; omega), hb.own h.o1 h.hg, hb.own h.o2 h.hg, fun x hx => hb.own (h.oc x hx) h.hg, h.hp, h.hg⟩
theorem TS.next {W1 W W' : World} {g : Nat} {B : Option Addr} {n c : Nat} {st : RS} {gp : Nat} {v1 v2 : Value} {cls : List (List UInt8)} {ms : List MV} (h : TS W1 W g B n c st gp v1 v2 cls ms) (hb : Below W.heap.size W W') : TS W1 W' g B n c st gp v1 v2 cls ms := h.call (h.rd.but hb) (But.of hb)
theorem TS.app1 {W1 W W2 W3 : World} {g : Nat} {B : Option Addr} {n c : Nat} {st : RS} {gp : Nat} {v1 v2 v' : Value} {cls : List (List UInt8)} {ms : List MV} (h : TS W1 W g B n c st gp v1 v2 cls ms) (o : Obj) (s : List UInt8)
    (ho : W2.ownsRow W1.heap.size 65 1 v' (cls.length + 1) (cls.map strV ++ [strV s])) (hg : (W.alloc o).grownBy W2 v1.ownBlock) (hw3 : W3 = W2.setCell ⟨gp, 0, none⟩ v') : TS W1 W3 g B n c st gp v' v2 (cls ++ [s]) ms := by
  have d := h.next ((Below.refl _ _).alloc (Nat.le_refl _) o)
  have b2 : But g W1 W2 := But.grown d.bt hg (fun k hk => own_ge h.o1 hk) (Nat.le_refl _)
  have r2 := d.rd.grown d.o1 hg (by decide) (by decide)
  have p2 := d.bp.grown hg (fun e => own_blk_ne d.o1 d.bp (by decide) e.symm)
  have m2 := own_apart d.o2 d.o1 (by decide) hg
  subst hw3
  refine ⟨r2.set p2 (by decide) (by decide) _, b2.setNew h.hp _, p2.set_ 0 v', ?_, own_far m2 p2 (by decide) _, fun x hx => own_far (own_apart (d.oc x hx) d.o1 (by decide) hg) p2 (by decide) _, h.hp, h.hg⟩
  have := own_far (i := 0) ho p2 (by decide) v'
  simpa using this
theorem TS.app2 {W1 W W2 W3 : World} {g : Nat} {B : Option Addr} {n c : Nat} {st : RS} {gp : Nat} {v1 v2 v' : Value} {cls : List (List UInt8)} {ms : List MV} (h : TS W1 W g B n c st gp v1 v2 cls ms) (o : Obj) (x : MV) (hx : codeOwn W W1.heap.size x)
    (ho : W2.ownsRow W1.heap.size 54 4 v' (ms.length + 1) (ms.flatMap mvC ++ mvC x)) (hg : (W.alloc o).grownBy W2 v2.ownBlock) (hw3 : W3 = W2.setCell ⟨gp, 1, none⟩ v') : TS W1 W3 g B n c st gp v1 v' cls (ms ++ [x]) := by
  have d := h.next ((Below.refl _ _).alloc (Nat.le_refl _) o)
  have hx1 : codeOwn (W.alloc o) W1.heap.size x := own_below hx ((Below.refl _ _).alloc (Nat.le_refl _) o)
  have b2 : But g W1 W2 := But.grown d.bt hg (fun k hk => own_ge h.o2 hk) (Nat.le_refl _)
  have r2 := d.rd.grown d.o2 hg (by decide) (by decide)
  have p2 := d.bp.grown hg (fun e => own_blk_ne d.o2 d.bp (by decide) e.symm)
  have m2 := own_apart d.o1 d.o2 (by decide) hg
  subst hw3
  refine ⟨r2.set p2 (by decide) (by decide) _, b2.setNew h.hp _, p2.set_ 1 v', own_far m2 p2 (by decide) _, ?_, fun y hy => ?_, h.hp, h.hg⟩
  · have := own_far (i := 1) ho p2 (by decide) v'
    simpa using this
  · rcases List.mem_append.1 hy with hy | hy
    · exact own_far (own_apart (d.oc y hy) d.o2 (by decide) hg) p2 (by decide) _
    · rw [List.mem_singleton] at hy
      subst hy
      exact own_far (own_apart hx1 d.o2 (by decide) hg) p2 (by decide) _
/-- a method in the making (block gm); W0: the world when it was begun -/
structure US (W0 W : World) (g : Nat) (B : Option Addr) (n c : Nat) (st : RS) (gm : Nat) (q0 q1 q2 : ByteArray) (vc : Value) (code : List Ins) : Prop where
  rd : QAt W g B n c st
  bt : But g W0 W
  bm : Blk W gm 54 #[.string q0, .string q1, .string q2, vc]
  oi : W.ownsRow W0.heap.size 56 4 vc code.length (insL code)
  hm : W0.heap.size ≤ gm
  hg : g < W0.heap.size
theorem US.call {W0 W W' : World} {g : Nat} {B : Option Addr} {n c : Nat} {st st' : RS} {gm : Nat} {q0 q1 q2 : ByteArray} {vc : Value} {code : List Ins} (h : US W0 W g B n c st gm q0 q1 q2 vc code) (hr : QAt W' g B n c st') (hb : But g W W') : US W0 W' g B n c st' gm q0 q1 q2 vc code :=
  ⟨hr, h.bt.trans hb, hb.blk h.bm (by have := h.hm; have := h.hg; omega), hb.own h.oi h.hg, h.hm, h.hg⟩
theorem US.next {W0 W W' : World} {g : Nat} {B : Option Addr} {n c : Nat} {st : RS} {gm : Nat} {q0 q1 q2 : ByteArray} {vc : Value} {code : List Ins} (h : US W0 W g B n c st gm q0 q1 q2 vc code) (hb : Below W.heap.size W W') : US W0 W' g B n c st gm q0 q1 q2 vc code := h.call (h.rd.but hb) (But.of hb)
theorem US.set0 {W0 W : World} {g : Nat} {B : Option Addr} {n c : Nat} {st : RS} {gm : Nat} {q0 q1 q2 : ByteArray} {vc : Value} {code : List Ins} (h : US W0 W g B n c st gm q0 q1 q2 vc code) (q : ByteArray) : US W0 (W.setCell ⟨gm, 0, none⟩ (.string q)) g B n c st gm q q1 q2 vc code :=
  ⟨h.rd.set h.bm (by decide) (by decide) _, h.bt.setNew h.hm _, by have := h.bm.set_ 0 (.string q); simpa using this, own_far h.oi h.bm (by decide) _, h.hm, h.hg⟩
theorem US.set1 {W0 W : World} {g : Nat} {B : Option Addr} {n c : Nat} {st : RS} {gm : Nat} {q0 q1 q2 : ByteArray} {vc : Value} {code : List Ins} (h : US W0 W g B n c st gm q0 q1 q2 vc code) (q : ByteArray) : US W0 (W.setCell ⟨gm, 1, none⟩ (.string q)) g B n c st gm q0 q q2 vc code :=
  ⟨h.rd.set h.bm (by decide) (by decide) _, h.bt.setNew h.hm _, by have := h.bm.set_ 1 (.string q); simpa using this, own_far h.oi h.bm (by decide) _, h.hm, h.hg⟩
theorem US.set2 {W0 W : World} {g : Nat} {B : Option Addr} {n c : Nat} {st : RS} {gm : Nat} {q0 q1 q2 : ByteArray} {vc : Value} {code : List Ins} (h : US W0 W g B n c st gm q0 q1 q2 vc code) (q : ByteArray) : US W0 (W.setCell ⟨gm, 2, none⟩ (.string q)) g B n c st gm q0 q1 q vc code :=
  ⟨h.rd.set h.bm (by decide) (by decide) _, h.bt.setNew h.hm _, by have := h.bm.set_ 2 (.string q); simpa using this, own_far h.oi h.bm (by decide) _, h.hm, h.hg⟩
theorem US.app {W0 W W2 W3 : World} {g : Nat} {B : Option Addr} {n c : Nat} {st : RS} {gm : Nat} {q0 q1 q2 : ByteArray} {vc v' : Value} {code : List Ins} (h : US W0 W g B n c st gm q0 q1 q2 vc code) (o : Obj) (x : Ins)
    (ho : W2.ownsRow W0.heap.size 56 4 v' (code.length + 1) (insL code ++ insC x)) (hg : (W.alloc o).grownBy W2 vc.ownBlock) (hw3 : W3 = W2.setCell ⟨gm, 3, none⟩ v') : US W0 W3 g B n c st gm q0 q1 q2 v' (code ++ [x]) := by
  have d := h.next ((Below.refl _ _).alloc (Nat.le_refl _) o)
  have b2 : But g W0 W2 := But.grown d.bt hg (fun k hk => own_ge h.oi hk) (Nat.le_refl _)
  have r2 := d.rd.grown d.oi hg (by decide) (by decide)
  have p2 := d.bm.grown hg (fun e => own_blk_ne d.oi d.bm (by decide) e.symm)
  subst hw3
  refine ⟨r2.set p2 (by decide) (by decide) _, b2.setNew h.hm _, by have := p2.set_ 3 v'; simpa using this, ?_, h.hm, h.hg⟩
  have := own_far (i := 3) ho p2 (by decide) v'
  simpa [insL] using this
/-- an instruction in the making (block gi); WX: the world when it was begun -/
structure VS (WX W : World) (g : Nat) (B : Option Addr) (n c : Nat) (st : RS) (gi : Nat) (cs : Array Value) : Prop where
  rd : QAt W g B n c st
  bt : But g WX W
  bx : Blk W gi 56 cs
  hx : WX.heap.size ≤ gi
  hg : g < WX.heap.size
theorem VS.call {WX W W' : World} {g : Nat} {B : Option Addr} {n c : Nat} {st st' : RS} {gi : Nat} {cs : Array Value} (h : VS WX W g B n c st gi cs) (hr : QAt W' g B n c st') (hb : But g W W') : VS WX W' g B n c st' gi cs :=
  ⟨hr, h.bt.trans hb, hb.blk h.bx (by have := h.hx; have := h.hg; omega), h.hx, h.hg⟩
theorem VS.set {WX W : World} {g : Nat} {B : Option Addr} {n c : Nat} {st : RS} {gi : Nat} {cs : Array Value} (h : VS WX W g B n c st gi cs) (i : Nat) (u : Value) : VS WX (W.setCell ⟨gi, i, none⟩ u) g B n c st gi (cs.setIfInBounds i u) :=
  ⟨h.rd.set h.bx (by decide) (by decide) _, h.bt.setNew h.hx _, h.bx.set_ i u, h.hx, h.hg⟩
/-- what the document's Decode answers -/
def RDPost (w : World) (o : Option Prg × Option (Nat × List Int)) (e : Ending) (w' : World) : Prop :=
  Below w.heap.size w w' ∧ ∃ (p : PV) (A : Option Addr) (d : Nat), p.prg = o.1.getD ⟨[], []⟩ ∧ e = .returned (.tuple #[p.val, fV (fltC o.2) (.slice A (fltL o.2).length d)]) ∧ PAt w' w'.heap.size p ∧ Reads w' w'.heap.size 1 A (fltL o.2).length ((fltL o.2).map (Value.int .i64))
def TCRel (W1 : World) (g : Nat) (B : Option Addr) (n c : Nat) (l : List Nat) (s1 : RS) (m gp : Nat) (si : Value) (wr : World) : Prop :=
  ∃ (k : Nat) (v : Value) (cls : List (List UInt8)), k ≤ m ∧ si = .int .i64 (k : Int) ∧ TS W1 wr g B n c (timesR (classR l) k s1).2 gp v (.slice none 0 0) cls [] ∧ cls.length = k ∧ (∀ y ∈ cls, y.length ≤ 10) ∧ ((timesR (classR l) k s1).2.err = none → cls = (timesR (classR l) k s1).1)
def TMRel (W1 : World) (g : Nat) (B : Option Addr) (n c : Nat) (l : List Nat) (s3 : RS) (m gp : Nat) (cls : List (List UInt8)) (v1 : Value) (si : Value) (wr : World) : Prop :=
  ∃ (k : Nat) (v : Value) (ms : List MV), k ≤ m ∧ si = .int .i64 (k : Int) ∧ TS W1 wr g B n c (timesR (methodR l) k s3).2 gp v1 v cls ms ∧ ms.length = k ∧ (∀ x ∈ ms, x.m.par.length ≤ 12 ∧ x.m.loc.length ≤ 12 ∧ x.m.code.length ≤ 120) ∧ ((timesR (methodR l) k s3).2.err = none → ms.map (·.m) = (timesR (methodR l) k s3).1)
def TIRel (W0 : World) (g : Nat) (B : Option Addr) (n c : Nat) (l : List Nat) (s : RS) (m gm : Nat) (q0 q1 q2 : ByteArray) (si : Value) (wr : World) : Prop :=
  ∃ (k : Nat) (v : Value) (code : List Ins), k ≤ m ∧ si = .int .i64 (k : Int) ∧ US W0 wr g B n c (timesR (instrR l) k s).2 gm q0 q1 q2 v code ∧ code.length = k ∧ ((timesR (instrR l) k s).2.err = none → code = (timesR (instrR l) k s).1)
theorem instr_stay : ∀ l s, s.err ≠ none → (instrR l s).2 = s := rd_instr.stay
theorem method_stay : ∀ l s, s.err ≠ none → (methodR l s).2 = s := rd_method.stay
theorem class_stay : ∀ l s, s.err ≠ none → (classR l s).2 = s := rd_class.stay
theorem strV_toList (q : ByteArray) : strV q.toList = .string q := by
  unfold strV
  rw [ByteArray.toList_eq]
end Go.Proofs.YtnojejplckhifaaDoor
