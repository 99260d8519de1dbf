/- Programs as plain data, their bytes, what is amiss with one, and the reading of bytes, error and place and all: no program here. -/
import Derived.Test.YtnojejplckhifaaDoorPutTake
import Derived.Test.YtnojejplckhifaaDoorZig
namespace Go.Proofs.YtnojejplckhifaaDoor
open Go.RowKit
set_option linter.unusedVariables false

/-- an instruction -/
structure Ins where
  op : Int
  a : Int
  b : Int
  n : Int
/-- a method -/
structure Met where
  par : List UInt8
  loc : List UInt8
  ret : List UInt8
  code : List Ins
/-- a program -/
structure Prg where
  cls : List (List UInt8)
  mets : List Met

def hasA (op : Int) : Bool := op == 3 || op == 4 || op == 22 || op == 23 || op == 24 || op == 25 || op == 26 || op == 27 || op == 28 || op == 29 || op == 30 || op == 32
def hasB (op : Int) : Bool := op == 25 || op == 26
def isIR (c : UInt8) : Bool := c == 73 || c == 82
def lettersB (s : List UInt8) : Bool := s.all isIR

/-! ### what is amiss with a program -/
/-- is A, B a place that there is? -/
def thereI (P : Prg) (m : Met) (x : Ins) : Bool :=
  if x.op = 3 ∨ x.op = 4 then decide (0 ≤ x.a ∧ x.a < (m.par.length + m.loc.length : Nat))
  else if x.op = 24 ∨ x.op = 27 then decide (0 ≤ x.a ∧ x.a < P.cls.length)
  else if x.op = 25 ∨ x.op = 26 then decide (0 ≤ x.a ∧ x.a < P.cls.length ∧ 0 ≤ x.b ∧ x.b < (P.cls.getD x.a.toNat []).length)
  else if x.op = 28 ∨ x.op = 29 ∨ x.op = 30 then decide (0 ≤ x.a ∧ x.a < 2)
  else if x.op = 32 then decide (0 < x.a ∧ x.a < P.mets.length)
  else true
def idleI (x : Ins) : Bool := (hasA x.op || x.a == 0) && (hasB x.op || x.b == 0) && (x.op == 1 || x.n == 0)
/-- the number of the error (0 too many, 1 kind, 2 index, 3 target), or none -/
def mayI (P : Prg) (m : Met) (x : Ins) : Option Nat :=
  if x.op < 1 ∨ 35 < x.op then some 1
  else if (x.op = 22 ∨ x.op = 23) ∧ ¬ (0 ≤ x.a ∧ x.a < m.code.length) then some 3
  else if thereI P m x && idleI x then none else some 2
def retB (r : List UInt8) : Bool := r == [] || r == [73] || r == [82]
def mayH (m : Met) (first : Bool) : Option Nat :=
  if 12 < m.par.length ∨ 12 < m.par.length + m.loc.length ∨ m.code.length = 0 ∨ 120 < m.code.length then some 0
  else if lettersB m.par && lettersB m.loc && retB m.ret && !(first && (m.par != [] || m.ret == [82])) then none else some 1
def mayC (c : List UInt8) : Option Nat := if 10 < c.length then some 0 else if lettersB c then none else some 1
def mayCs : Nat → List (List UInt8) → Option (Nat × List Int)
  | _, [] => none
  | i, c :: r => match mayC c with
    | some k => some (k, [(i : Int), -1])
    | none => mayCs (i + 1) r
def mayIs (P : Prg) (m : Met) (i : Nat) : Nat → List Ins → Option (Nat × List Int)
  | _, [] => none
  | pc, x :: r => match mayI P m x with
    | some k => some (k, [(i : Int), (pc : Int)])
    | none => mayIs P m i (pc + 1) r
def mayM (P : Prg) (i : Nat) (m : Met) : Option (Nat × List Int) :=
  match mayH m (i == 0) with
  | some k => some (k, [(i : Int), -1])
  | none => mayIs P m i 0 m.code
def mayMs (P : Prg) : Nat → List Met → Option (Nat × List Int)
  | _, [] => none
  | i, m :: r => match mayM P i m with
    | some f => some f
    | none => mayMs P (i + 1) r
/-- what is amiss with a program: the error's number, and its places -/
def mayP (P : Prg) : Option (Nat × List Int) :=
  if 12 < P.cls.length ∨ P.mets.length = 0 ∨ 12 < P.mets.length then some (0, [])
  else match mayCs 0 P.cls with
    | some f => some f
    | none => mayMs P 0 P.mets

/-! ### its bytes -/
def nats (s : List UInt8) : List Nat := s.map UInt8.toNat
def encS (s : List UInt8) : List Nat := enc s.length ++ nats s
def encI (x : Ins) : List Nat :=
  x.op.toNat :: ((if hasA x.op then enc x.a.toNat else []) ++ ((if hasB x.op then enc x.b.toNat else []) ++ (if x.op = 1 then enc (zig x.n).toNat else [])))
def encR (r : List UInt8) : List Nat := if r = [] then [0] else nats r
def encM (m : Met) : List Nat := encS m.par ++ (encS m.loc ++ (encR m.ret ++ (enc m.code.length ++ m.code.flatMap encI)))
def encP (P : Prg) : List Nat := [79, 68, 1] ++ (enc P.cls.length ++ (P.cls.flatMap encS ++ (enc P.mets.length ++ P.mets.flatMap encM)))

/-! ### reading -/
/-- where a reader stands, and the first error: its number (5 the end, 6 a byte) and its place -/
structure RS where
  at_ : Nat
  err : Option (Nat × Nat)
def failR (s : RS) (k p : Nat) : RS := match s.err with
  | some _ => s
  | none => ⟨s.at_, some (k, p)⟩
def byteR (l : List Nat) (may : Nat → Bool) (s : RS) : Nat × RS :=
  match s.err with
  | some _ => (0, s)
  | none => match l[s.at_]? with
    | none => (0, ⟨s.at_, some (5, l.length)⟩)
    | some c => if may c = true then (c, ⟨s.at_ + 1, none⟩) else (0, ⟨s.at_, some (6, s.at_)⟩)
/-- do the bytes end before a number does? -/
def shortB (l : List Nat) (a : Nat) : Bool := decide (l.length < a + 10) && (l.drop a).all (fun x => decide (128 ≤ x))
def wholeR (l : List Nat) (s : RS) : Nat × RS :=
  match s.err with
  | some _ => (0, s)
  | none => match tk l (s.at_ : Int) with
    | some p => (p.1, ⟨p.2, none⟩)
    | none => (0, ⟨s.at_, some (if shortB l s.at_ = true then (5, l.length) else (6, s.at_))⟩)
def numberR (l : List Nat) (least greatest : Nat) (s : RS) : Nat × RS :=
  if greatest < (wholeR l s).1 ∨ (wholeR l s).1 < least then (0, failR (wholeR l s).2 6 s.at_) else wholeR l s
def timesR {α : Type} (f : RS → α × RS) : Nat → RS → List α × RS
  | 0, s => ([], s)
  | k + 1, s => ((timesR f k s).1 ++ [(f (timesR f k s).2).1], (f (timesR f k s).2).2)
def mIR (c : Nat) : Bool := c == 73 || c == 82
def mOp (c : Nat) : Bool := decide (1 ≤ c) && decide (c ≤ 35)
def mRet (c : Nat) : Bool := c == 0 || (c == 73 || c == 82)
def mIs (k c : Nat) : Bool := c == k
def lettersR (l : List Nat) (most : Nat) (s : RS) : List Nat × RS := timesR (byteR l mIR) (numberR l 0 most s).1 (numberR l 0 most s).2
def strB (l : List Nat) : List UInt8 := l.map UInt8.ofNat
def insA (l : List Nat) (op : Nat) (s : RS) : Nat × RS := if hasA op = true then numberR l 0 1048576 s else (0, s)
def insB (l : List Nat) (op : Nat) (s : RS) : Nat × RS := if hasB op = true then numberR l 0 1048576 s else (0, s)
def insN (l : List Nat) (op : Nat) (s : RS) : Nat × RS := if op = 1 then wholeR l s else (0, s)
def instrR (l : List Nat) (s : RS) : Ins × RS :=
  let r0 := byteR l mOp s
  let r1 := insA l r0.1 r0.2
  let r2 := insB l r0.1 r1.2
  let r3 := insN l r0.1 r2.2
  (⟨r0.1, r1.1, r2.1, if r0.1 = 1 then zag r3.1 else 0⟩, r3.2)
def retL (c : Nat) : List UInt8 := if c = 0 then [] else [UInt8.ofNat c]
def methodR (l : List Nat) (s : RS) : Met × RS :=
  let r0 := lettersR l 12 s
  let r1 := lettersR l (12 - r0.1.length) r0.2
  let r2 := byteR l mRet r1.2
  let r3 := numberR l 1 120 r2.2
  let r4 := timesR (instrR l) r3.1 r3.2
  (⟨strB r0.1, strB r1.1, retL r2.1, r4.1⟩, r4.2)
def headR (l : List Nat) : RS := (byteR l (mIs 1) (byteR l (mIs 68) (byteR l (mIs 79) ⟨0, none⟩).2).2).2
def classR (l : List Nat) (s : RS) : List UInt8 × RS := (strB (lettersR l 10 s).1, (lettersR l 10 s).2)
def progR (l : List Nat) : Prg × RS :=
  let r1 := numberR l 0 12 (headR l)
  let r2 := timesR (classR l) r1.1 r1.2
  let r3 := numberR l 1 12 r2.2
  let r4 := timesR (methodR l) r3.1 r3.2
  (⟨r2.1, r4.1⟩, if r4.2.at_ < l.length then failR r4.2 6 r4.2.at_ else r4.2)
/-- what Decode answers: the program, or the error and its places -/
def decP (l : List Nat) : Option Prg × Option (Nat × List Int) :=
  if 16384 < l.length then (none, some (0, []))
  else match (progR l).2.err with
    | some e => (none, some (e.1, [(e.2 : Int)]))
    | none => match mayP (progR l).1 with
      | some f => (none, some f)
      | none => (some (progR l).1, none)
end Go.Proofs.YtnojejplckhifaaDoor
