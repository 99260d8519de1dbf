/- The contract of prog.instr: what is amiss with an instruction (printed by mkinstr.py). -/
import Derived.Test.YtnojejplckhifaaDoorUses
import Derived.Deep.RegionHeld3
import Derived.Deep.QuietTactic
import Derived.BigQuiet
namespace Go.Proofs.YtnojejplckhifaaDoor
open Go.RowKit
set_option linter.unusedVariables false

/-- the three values of a call of instr, as they lie boxed -/
def IW (w : World) (p : PV) (x : MV) (op a b n : Int) : World := ((w.alloc (.cells #[.slice p.A p.cls.length p.c, .slice p.B p.ms.length p.d] 25)).alloc (.cells #[strV x.m.par, strV x.m.loc, strV x.m.ret, .slice x.A x.m.code.length x.c] 54)).alloc (.cells #[.int .i64 op, .int .i64 a, .int .i64 b, .int .i64 n] 56)
theorem IW.below (w : World) (p : PV) (x : MV) (op a b n : Int) : Below w.heap.size w (IW w p x op a b n) := (((Below.refl _ _).alloc (Nat.le_refl _) _).alloc (by simp) _).alloc (by simp; omega) _
/-- what is kept of them -/
structure IC (w w1 : World) (p : PV) (x : MV) (op a b n : Int) (ad : Nat → Addr) : Prop where
  p0 : w1.cell? ⟨w.heap.size, 0, none⟩ = some (.slice p.A p.cls.length p.c)
  p1 : w1.cell? ⟨w.heap.size, 1, none⟩ = some (.slice p.B p.ms.length p.d)
  m0 : w1.cell? ⟨w.heap.size + 1, 0, none⟩ = some (strV x.m.par)
  m1 : w1.cell? ⟨w.heap.size + 1, 1, none⟩ = some (strV x.m.loc)
  m2 : w1.cell? ⟨w.heap.size + 1, 2, none⟩ = some (strV x.m.ret)
  m3 : w1.cell? ⟨w.heap.size + 1, 3, none⟩ = some (.slice x.A x.m.code.length x.c)
  i0 : w1.cell? ⟨w.heap.size + 1 + 1, 0, none⟩ = some (.int .i64 op)
  i1 : w1.cell? ⟨w.heap.size + 1 + 1, 1, none⟩ = some (.int .i64 a)
  i2 : w1.cell? ⟨w.heap.size + 1 + 1, 2, none⟩ = some (.int .i64 b)
  i3 : w1.cell? ⟨w.heap.size + 1 + 1, 3, none⟩ = some (.int .i64 n)
  e1 : w1.cell? ⟨2, 0, none⟩ = some (eV (ad 1))
  e2 : w1.cell? ⟨5, 0, none⟩ = some (eV (ad 2))
  e3 : w1.cell? ⟨4, 0, none⟩ = some (eV (ad 3))
  below : Below w.heap.size w w1
  size : w.heap.size + 1 + 1 + 1 ≤ w1.heap.size
theorem IC.of {w : World} {p : PV} {x : MV} {op a b n : Int} {ad : Nat → Addr} (hE : KeepsE w ad) {w1 : World} (h : Below (IW w p x op a b n).heap.size (IW w p x op a b n) w1) : IC w w1 p x op a b n ad := by
  have hsz : (IW w p x op a b n).heap.size = w.heap.size + 1 + 1 + 1 := by simp [IW]
  have hb : Below w.heap.size w w1 := (IW.below w p x op a b n).trans (h.mono (by omega))
  have h1 : Blk w1 w.heap.size 25 #[.slice p.A p.cls.length p.c, .slice p.B p.ms.length p.d] := Blk.below (w := IW w p x op a b n) (((Blk.new w _ _).alloc _).alloc _) h (by omega)
  have h2 : Blk w1 (w.heap.size + 1) 54 #[strV x.m.par, strV x.m.loc, strV x.m.ret, .slice x.A x.m.code.length x.c] := by
    refine Blk.below (w := IW w p x op a b n) (Blk.alloc ?_ _) h (by omega)
    have := Blk.new (w.alloc (.cells #[.slice p.A p.cls.length p.c, .slice p.B p.ms.length p.d] 25)) 54 #[strV x.m.par, strV x.m.loc, strV x.m.ret, .slice x.A x.m.code.length x.c]
    simpa using this
  have h3 : Blk w1 (w.heap.size + 1 + 1) 56 #[.int .i64 op, .int .i64 a, .int .i64 b, .int .i64 n] := by
    refine Blk.below (w := IW w p x op a b n) ?_ h (by omega)
    have := Blk.new ((w.alloc (.cells #[.slice p.A p.cls.length p.c, .slice p.B p.ms.length p.d] 25)).alloc (.cells #[strV x.m.par, strV x.m.loc, strV x.m.ret, .slice x.A x.m.code.length x.c] 54)) 56 #[.int .i64 op, .int .i64 a, .int .i64 b, .int .i64 n]
    unfold IW
    simpa using this
  exact ⟨h1.cell 0, h1.cell 1, h2.cell 0, h2.cell 1, h2.cell 2, h2.cell 3, h3.cell 0, h3.cell 1, h3.cell 2, h3.cell 3, (hE _ hb).1.2, (hE _ hb).2.1, (hE _ hb).2.2, hb, by have := h.size; omega⟩
theorem IC.next {w : World} {p : PV} {x : MV} {op a b n : Int} {ad : Nat → Addr} (hE : KeepsE w ad) {w1 w2 : World} (hi : IC w w1 p x op a b n ad) (h : Below w1.heap.size w1 w2) : IC w w2 p x op a b n ad := by
  have hb : Below w.heap.size w w2 := hi.below.trans (h.mono hi.below.size)
  have hz := hi.size
  have g : ∀ (k j : Nat), k < w.heap.size + 1 + 1 + 1 → w2.cell? ⟨k, j, none⟩ = w1.cell? ⟨k, j, none⟩ := fun k j hk => h.cell (p := ⟨k, j, none⟩) (by show k < w1.heap.size; omega)
  exact ⟨(g _ _ (by omega)).trans hi.p0, (g _ _ (by omega)).trans hi.p1, (g _ _ (by omega)).trans hi.m0, (g _ _ (by omega)).trans hi.m1, (g _ _ (by omega)).trans hi.m2, (g _ _ (by omega)).trans hi.m3, (g _ _ (by omega)).trans hi.i0, (g _ _ (by omega)).trans hi.i1, (g _ _ (by omega)).trans hi.i2, (g _ _ (by omega)).trans hi.i3, (hE _ hb).1.2, (hE _ hb).2.1, (hE _ hb).2.2, hb, by have := h.size; omega⟩
theorem in_any2 (i n : Int) (w : World) : Calls Tryd.prog 73 #[.int .i64 i, .int .i64 n] w fun e w' => e = .returned (.bool (decide (0 ≤ i) && decide (i < n))) ∧ w' = w := by
  refine (in_any i n w).mono ?_
  rintro e w' ⟨rfl, rfl⟩
  exact ⟨rfl, rfl⟩
theorem in_no (i n : Int) (w : World) (h : (decide (0 ≤ i) && decide (i < n)) = false) : Calls Tryd.prog 73 #[.int .i64 i, .int .i64 n] w fun e w' => e = .returned (.bool false) ∧ w' = w := by
  refine (in_any2 i n w).mono ?_
  rintro e w' ⟨rfl, rfl⟩
  rw [h]
  exact ⟨rfl, rfl⟩
theorem ret_ite {v : Value} {t : Bool} {x y : Value} (hv : v = if t = true then x else y) {z : Value} (h : z = if t = true then x else y) : Ending.returned z = .returned v := by rw [hv, h]
set_option maxRecDepth 100000 in
set_option maxHeartbeats 4000000 in
theorem instr_kind (p : PV) (x : MV) (op a b n : Int) (ad : Nat → Addr) (w : World) (hE : KeepsE w ad) (h : op < 1 ∨ 35 < op) :
    Calls Tryd.prog 61 #[p.val, metAgg x, .agg #[.int .i64 op, .int .i64 a, .int .i64 b, .int .i64 n]] w (HPost w (eV (ad 1))) := by
  have k1 := (hE _ (IW.below w p x op a b n)).1.2
  have HB := Lib.hid (IW.below w p x op a b n)
  unfold IW at k1 HB
  unfold PV.val metAgg
  clear hE
  rcases h with h | h
  · have d1 : decide (op < 1) = true := by simpa using h
    go_enter Tryd.func61, Tryd.ntmps61
    go_wp2
    go_ret
    exact ⟨rfl, HB.out⟩
  · have d1 : decide (op < 1) = false := by simp; omega
    have d2 : decide (35 < op) = true := by simpa using h
    go_enter Tryd.func61, Tryd.ntmps61
    go_wp2
    go_ret
    exact ⟨rfl, HB.out⟩
set_option maxRecDepth 100000 in
set_option maxHeartbeats 4000000 in
theorem instr_rest (p : PV) (x : MV) (op a b n : Int) (ad : Nat → Addr) (w : World) (hE : KeepsE w ad) (v : Value) (hv : v = if (true && ((hasA op || a == 0) && (hasB op || b == 0) && (op == 1 || n == 0))) = true then .nilIface else eV (ad 2)) (o1 : decide (op < 1) = false) (o2 : decide (35 < op) = false) (h3 : (op == 3) = false) (h4 : (op == 4) = false) (h22 : (op == 22) = false) (h23 : (op == 23) = false) (h24 : (op == 24) = false) (h25 : (op == 25) = false) (h26 : (op == 26) = false) (h27 : (op == 27) = false) (h28 : (op == 28) = false) (h29 : (op == 29) = false) (h30 : (op == 30) = false) (h32 : (op == 32) = false) :
    Calls Tryd.prog 61 #[p.val, metAgg x, .agg #[.int .i64 op, .int .i64 a, .int .i64 b, .int .i64 n]] w (HPost w v) := by
  have HV := Lib.hid hv
  clear hv
  have HI : Hid (∀ w1, Below (IW w p x op a b n).heap.size (IW w p x op a b n) w1 → IC w w1 p x op a b n ad) := Lib.hid (fun w1 h => IC.of hE h)
  have hA : hasA op = false := by simp [hasA, *]
  have hB : hasB op = false := by simp [hasB, *]
  unfold IW at HI
  unfold PV.val metAgg
  go_enter Tryd.func61, Tryd.ntmps61
  go_wp2_with fail
  refine (uses_any op _).mono ?_
  rintro e w1 ⟨rfl, hb1⟩
  rw [hA, hB]
  obtain ⟨p0, p1, m0, m1, m2, m3, i0, i1, i2, i3, e1, e2, e3, hb, hz⟩ := HI.out w1 hb1
  have HB := Lib.hid hb
  clear hb hb1 p0 p1 m0 m1 m2 m3 hz e1 e3
  cases f1 : a == 0
  · have g1 : (a != 0) = true := by simp [bne, f1]
    go_wp2
    go_ret
    exact ⟨ret_ite HV.out (by simp_all), HB.out⟩
  have g1 : (a != 0) = false := by simp [bne, f1]
  cases f2 : b == 0
  · have g2 : (b != 0) = true := by simp [bne, f2]
    go_wp2
    go_ret
    exact ⟨ret_ite HV.out (by simp_all), HB.out⟩
  have g2 : (b != 0) = false := by simp [bne, f2]
  cases f3 : op == 1
  · cases f4 : n == 0
    · have g4 : (n != 0) = true := by simp [bne, f4]
      go_wp2
      go_ret
      exact ⟨ret_ite HV.out (by simp_all), HB.out⟩
    · have g4 : (n != 0) = false := by simp [bne, f4]
      go_wp2
      go_ret
      exact ⟨ret_ite HV.out (by simp_all), HB.out⟩
  · go_wp2
    go_ret
    exact ⟨ret_ite HV.out (by simp_all), HB.out⟩
set_option maxRecDepth 100000 in
set_option maxHeartbeats 4000000 in
theorem instr_28 (p : PV) (x : MV) (a b n : Int) (t : Bool) (ad : Nat → Addr) (w : World) (hE : KeepsE w ad) (v : Value) (hv : v = if (t && ((hasA 28 || a == 0) && (hasB 28 || b == 0) && (28 == 1 || n == 0))) = true then .nilIface else eV (ad 2)) (ht : t = (decide (0 ≤ a) && decide (a < 2))) :
    Calls Tryd.prog 61 #[p.val, metAgg x, .agg #[.int .i64 28, .int .i64 a, .int .i64 b, .int .i64 n]] w (HPost w v) := by
  have HV := Lib.hid hv
  clear hv
  have HI : Hid (∀ w1, Below (IW w p x 28 a b n).heap.size (IW w p x 28 a b n) w1 → IC w w1 p x 28 a b n ad) := Lib.hid (fun w1 h => IC.of hE h)
  have HT := Lib.hid ht
  clear ht
  have HX : Hid (∀ w1, Below (((w.alloc (.cells #[.slice p.A p.cls.length p.c, .slice p.B p.ms.length p.d] 25)).alloc (.cells #[strV x.m.par, strV x.m.loc, strV x.m.ret, .slice x.A x.m.code.length x.c] 54)).alloc (.cells #[.int .i64 28, .int .i64 a, .int .i64 b, .int .i64 n] 56)).heap.size (((w.alloc (.cells #[.slice p.A p.cls.length p.c, .slice p.B p.ms.length p.d] 25)).alloc (.cells #[strV x.m.par, strV x.m.loc, strV x.m.ret, .slice x.A x.m.code.length x.c] 54)).alloc (.cells #[.int .i64 28, .int .i64 a, .int .i64 b, .int .i64 n] 56)) w1 → IC w w1 p x 28 a b n ad) := HI
  clear HI
  unfold PV.val metAgg
  go_enter Tryd.func61, Tryd.ntmps61
  go_wp2_with fail
  refine (in_any a 2 _).mono ?_
  rintro e w2 ⟨rfl, rfl⟩
  rw [← HT.out]
  go_wp2_with fail
  refine (uses_any 28 _).mono ?_
  rintro e w9 ⟨rfl, hb9⟩
  rw [show hasA 28 = true by decide, show hasB 28 = false by decide, show ((28 : Int) == 1) = false by decide]
  obtain ⟨p0, p1, m0, m1, m2, m3, i0, i1, i2, i3, e1, e2, e3, hb, hz⟩ := HX.out w9 hb9
  have HB := Lib.hid hb
  clear hb hb9 p0 p1 m0 m1 m2 m3 hz e1 e3
  cases t
  · go_wp2
    go_ret
    exact ⟨ret_ite HV.out rfl, HB.out⟩
  cases f2 : b == 0
  · have g2 : (b != 0) = true := by simp [bne, f2]
    go_wp2
    go_ret
    exact ⟨ret_ite HV.out (by simp [hasA, hasB, f2]), HB.out⟩
  have g2 : (b != 0) = false := by simp [bne, f2]
  cases f4 : n == 0
  · have g4 : (n != 0) = true := by simp [bne, f4]
    go_wp2
    go_ret
    exact ⟨ret_ite HV.out (by simp [hasA, hasB, f2, f4]), HB.out⟩
  · have g4 : (n != 0) = false := by simp [bne, f4]
    go_wp2
    go_ret
    exact ⟨ret_ite HV.out (by simp [hasA, hasB, f2, f4]), HB.out⟩
set_option maxRecDepth 100000 in
set_option maxHeartbeats 4000000 in
theorem instr_29 (p : PV) (x : MV) (a b n : Int) (t : Bool) (ad : Nat → Addr) (w : World) (hE : KeepsE w ad) (v : Value) (hv : v = if (t && ((hasA 29 || a == 0) && (hasB 29 || b == 0) && (29 == 1 || n == 0))) = true then .nilIface else eV (ad 2)) (ht : t = (decide (0 ≤ a) && decide (a < 2))) :
    Calls Tryd.prog 61 #[p.val, metAgg x, .agg #[.int .i64 29, .int .i64 a, .int .i64 b, .int .i64 n]] w (HPost w v) := by
  have HV := Lib.hid hv
  clear hv
  have HI : Hid (∀ w1, Below (IW w p x 29 a b n).heap.size (IW w p x 29 a b n) w1 → IC w w1 p x 29 a b n ad) := Lib.hid (fun w1 h => IC.of hE h)
  have HT := Lib.hid ht
  clear ht
  have HX : Hid (∀ w1, Below (((w.alloc (.cells #[.slice p.A p.cls.length p.c, .slice p.B p.ms.length p.d] 25)).alloc (.cells #[strV x.m.par, strV x.m.loc, strV x.m.ret, .slice x.A x.m.code.length x.c] 54)).alloc (.cells #[.int .i64 29, .int .i64 a, .int .i64 b, .int .i64 n] 56)).heap.size (((w.alloc (.cells #[.slice p.A p.cls.length p.c, .slice p.B p.ms.length p.d] 25)).alloc (.cells #[strV x.m.par, strV x.m.loc, strV x.m.ret, .slice x.A x.m.code.length x.c] 54)).alloc (.cells #[.int .i64 29, .int .i64 a, .int .i64 b, .int .i64 n] 56)) w1 → IC w w1 p x 29 a b n ad) := HI
  clear HI
  unfold PV.val metAgg
  go_enter Tryd.func61, Tryd.ntmps61
  go_wp2_with fail
  refine (in_any a 2 _).mono ?_
  rintro e w2 ⟨rfl, rfl⟩
  rw [← HT.out]
  go_wp2_with fail
  refine (uses_any 29 _).mono ?_
  rintro e w9 ⟨rfl, hb9⟩
  rw [show hasA 29 = true by decide, show hasB 29 = false by decide, show ((29 : Int) == 1) = false by decide]
  obtain ⟨p0, p1, m0, m1, m2, m3, i0, i1, i2, i3, e1, e2, e3, hb, hz⟩ := HX.out w9 hb9
  have HB := Lib.hid hb
  clear hb hb9 p0 p1 m0 m1 m2 m3 hz e1 e3
  cases t
  · go_wp2
    go_ret
    exact ⟨ret_ite HV.out rfl, HB.out⟩
  cases f2 : b == 0
  · have g2 : (b != 0) = true := by simp [bne, f2]
    go_wp2
    go_ret
    exact ⟨ret_ite HV.out (by simp [hasA, hasB, f2]), HB.out⟩
  have g2 : (b != 0) = false := by simp [bne, f2]
  cases f4 : n == 0
  · have g4 : (n != 0) = true := by simp [bne, f4]
    go_wp2
    go_ret
    exact ⟨ret_ite HV.out (by simp [hasA, hasB, f2, f4]), HB.out⟩
  · have g4 : (n != 0) = false := by simp [bne, f4]
    go_wp2
    go_ret
    exact ⟨ret_ite HV.out (by simp [hasA, hasB, f2, f4]), HB.out⟩
set_option maxRecDepth 100000 in
set_option maxHeartbeats 4000000 in
theorem instr_30 (p : PV) (x : MV) (a b n : Int) (t : Bool) (ad : Nat → Addr) (w : World) (hE : KeepsE w ad) (v : Value) (hv : v = if (t && ((hasA 30 || a == 0) && (hasB 30 || b == 0) && (30 == 1 || n == 0))) = true then .nilIface else eV (ad 2)) (ht : t = (decide (0 ≤ a) && decide (a < 2))) :
    Calls Tryd.prog 61 #[p.val, metAgg x, .agg #[.int .i64 30, .int .i64 a, .int .i64 b, .int .i64 n]] w (HPost w v) := by
  have HV := Lib.hid hv
  clear hv
  have HI : Hid (∀ w1, Below (IW w p x 30 a b n).heap.size (IW w p x 30 a b n) w1 → IC w w1 p x 30 a b n ad) := Lib.hid (fun w1 h => IC.of hE h)
  have HT := Lib.hid ht
  clear ht
  have HX : Hid (∀ w1, Below (((w.alloc (.cells #[.slice p.A p.cls.length p.c, .slice p.B p.ms.length p.d] 25)).alloc (.cells #[strV x.m.par, strV x.m.loc, strV x.m.ret, .slice x.A x.m.code.length x.c] 54)).alloc (.cells #[.int .i64 30, .int .i64 a, .int .i64 b, .int .i64 n] 56)).heap.size (((w.alloc (.cells #[.slice p.A p.cls.length p.c, .slice p.B p.ms.length p.d] 25)).alloc (.cells #[strV x.m.par, strV x.m.loc, strV x.m.ret, .slice x.A x.m.code.length x.c] 54)).alloc (.cells #[.int .i64 30, .int .i64 a, .int .i64 b, .int .i64 n] 56)) w1 → IC w w1 p x 30 a b n ad) := HI
  clear HI
  unfold PV.val metAgg
  go_enter Tryd.func61, Tryd.ntmps61
  go_wp2_with fail
  refine (in_any a 2 _).mono ?_
  rintro e w2 ⟨rfl, rfl⟩
  rw [← HT.out]
  go_wp2_with fail
  refine (uses_any 30 _).mono ?_
  rintro e w9 ⟨rfl, hb9⟩
  rw [show hasA 30 = true by decide, show hasB 30 = false by decide, show ((30 : Int) == 1) = false by decide]
  obtain ⟨p0, p1, m0, m1, m2, m3, i0, i1, i2, i3, e1, e2, e3, hb, hz⟩ := HX.out w9 hb9
  have HB := Lib.hid hb
  clear hb hb9 p0 p1 m0 m1 m2 m3 hz e1 e3
  cases t
  · go_wp2
    go_ret
    exact ⟨ret_ite HV.out rfl, HB.out⟩
  cases f2 : b == 0
  · have g2 : (b != 0) = true := by simp [bne, f2]
    go_wp2
    go_ret
    exact ⟨ret_ite HV.out (by simp [hasA, hasB, f2]), HB.out⟩
  have g2 : (b != 0) = false := by simp [bne, f2]
  cases f4 : n == 0
  · have g4 : (n != 0) = true := by simp [bne, f4]
    go_wp2
    go_ret
    exact ⟨ret_ite HV.out (by simp [hasA, hasB, f2, f4]), HB.out⟩
  · have g4 : (n != 0) = false := by simp [bne, f4]
    go_wp2
    go_ret
    exact ⟨ret_ite HV.out (by simp [hasA, hasB, f2, f4]), HB.out⟩
set_option maxRecDepth 100000 in
set_option maxHeartbeats 4000000 in
theorem instr_32 (p : PV) (x : MV) (a b n : Int) (t : Bool) (ad : Nat → Addr) (w : World) (hE : KeepsE w ad) (v : Value) (hv : v = if (t && ((hasA 32 || a == 0) && (hasB 32 || b == 0) && (32 == 1 || n == 0))) = true then .nilIface else eV (ad 2)) (ht : t = (decide (0 < a) && decide (a < (p.ms.length : Int)))) :
    Calls Tryd.prog 61 #[p.val, metAgg x, .agg #[.int .i64 32, .int .i64 a, .int .i64 b, .int .i64 n]] w (HPost w v) := by
  have HV := Lib.hid hv
  clear hv
  have HI : Hid (∀ w1, Below (IW w p x 32 a b n).heap.size (IW w p x 32 a b n) w1 → IC w w1 p x 32 a b n ad) := Lib.hid (fun w1 h => IC.of hE h)
  have HT := Lib.hid ht
  clear ht
  have HX : Hid (∀ w1, Below (((w.alloc (.cells #[.slice p.A p.cls.length p.c, .slice p.B p.ms.length p.d] 25)).alloc (.cells #[strV x.m.par, strV x.m.loc, strV x.m.ret, .slice x.A x.m.code.length x.c] 54)).alloc (.cells #[.int .i64 32, .int .i64 a, .int .i64 b, .int .i64 n] 56)).heap.size (((w.alloc (.cells #[.slice p.A p.cls.length p.c, .slice p.B p.ms.length p.d] 25)).alloc (.cells #[strV x.m.par, strV x.m.loc, strV x.m.ret, .slice x.A x.m.code.length x.c] 54)).alloc (.cells #[.int .i64 32, .int .i64 a, .int .i64 b, .int .i64 n] 56)) w1 → IC w w1 p x 32 a b n ad) := HI
  clear HI
  unfold PV.val metAgg
  go_enter Tryd.func61, Tryd.ntmps61
  by_cases ha : 0 < a
  · have d0 : decide (0 < a) = true := by simpa using ha
    have HA : Hid ((decide (0 ≤ a) && decide (a < (p.ms.length : Int))) = t) := Lib.hid (by rw [HT.out, d0]; simp; omega)
    go_wp2_with fail
    refine (in_any a p.ms.length _).mono ?_
    rintro e w2 ⟨rfl, rfl⟩
    rw [HA.out]
    go_wp2_with fail
    refine (uses_any 32 _).mono ?_
    rintro e w9 ⟨rfl, hb9⟩
    rw [show hasA 32 = true by decide, show hasB 32 = false by decide, show ((32 : Int) == 1) = false by decide]
    obtain ⟨p0, p1, m0, m1, m2, m3, i0, i1, i2, i3, e1, e2, e3, hb, hz⟩ := HX.out w9 hb9
    have HB := Lib.hid hb
    clear hb hb9 p0 p1 m0 m1 m2 m3 hz e1 e3
    cases t
    · go_wp2
      go_ret
      exact ⟨ret_ite HV.out rfl, HB.out⟩
    cases f2 : b == 0
    · have g2 : (b != 0) = true := by simp [bne, f2]
      go_wp2
      go_ret
      exact ⟨ret_ite HV.out (by simp [hasA, hasB, f2]), HB.out⟩
    have g2 : (b != 0) = false := by simp [bne, f2]
    cases f4 : n == 0
    · have g4 : (n != 0) = true := by simp [bne, f4]
      go_wp2
      go_ret
      exact ⟨ret_ite HV.out (by simp [hasA, hasB, f2, f4]), HB.out⟩
    · have g4 : (n != 0) = false := by simp [bne, f4]
      go_wp2
      go_ret
      exact ⟨ret_ite HV.out (by simp [hasA, hasB, f2, f4]), HB.out⟩
  · have d0 : decide (0 < a) = false := by simpa using ha
    have HA : t = false := by rw [HT.out, d0]; rfl
    subst HA
    go_wp2_with fail
    refine (uses_any 32 _).mono ?_
    rintro e w9 ⟨rfl, hb9⟩
    rw [show hasA 32 = true by decide, show hasB 32 = false by decide, show ((32 : Int) == 1) = false by decide]
    have H9 := Lib.hid (HX.out w9 hb9)
    clear hb9
    have e2 := H9.out.e2
    go_wp2
    go_ret
    exact ⟨ret_ite HV.out rfl, H9.out.below⟩
set_option maxRecDepth 100000 in
set_option maxHeartbeats 4000000 in
theorem instr_24 (p : PV) (x : MV) (a b n : Int) (t : Bool) (ad : Nat → Addr) (w : World) (hE : KeepsE w ad) (v : Value) (hv : v = if (t && ((hasA 24 || a == 0) && (hasB 24 || b == 0) && (24 == 1 || n == 0))) = true then .nilIface else eV (ad 2)) (ht : t = (decide (0 ≤ a) && decide (a < (p.cls.length : Int)))) :
    Calls Tryd.prog 61 #[p.val, metAgg x, .agg #[.int .i64 24, .int .i64 a, .int .i64 b, .int .i64 n]] w (HPost w v) := by
  have HV := Lib.hid hv
  clear hv
  have HI : Hid (∀ w1, Below (IW w p x 24 a b n).heap.size (IW w p x 24 a b n) w1 → IC w w1 p x 24 a b n ad) := Lib.hid (fun w1 h => IC.of hE h)
  have HT := Lib.hid ht
  clear ht
  have HX : Hid (∀ w1, Below (((w.alloc (.cells #[.slice p.A p.cls.length p.c, .slice p.B p.ms.length p.d] 25)).alloc (.cells #[strV x.m.par, strV x.m.loc, strV x.m.ret, .slice x.A x.m.code.length x.c] 54)).alloc (.cells #[.int .i64 24, .int .i64 a, .int .i64 b, .int .i64 n] 56)).heap.size (((w.alloc (.cells #[.slice p.A p.cls.length p.c, .slice p.B p.ms.length p.d] 25)).alloc (.cells #[strV x.m.par, strV x.m.loc, strV x.m.ret, .slice x.A x.m.code.length x.c] 54)).alloc (.cells #[.int .i64 24, .int .i64 a, .int .i64 b, .int .i64 n] 56)) w1 → IC w w1 p x 24 a b n ad) := HI
  clear HI
  unfold PV.val metAgg
  go_enter Tryd.func61, Tryd.ntmps61
  go_wp2_with fail
  refine (in_any a p.cls.length _).mono ?_
  rintro e w2 ⟨rfl, rfl⟩
  rw [← HT.out]
  go_wp2_with fail
  refine (uses_any 24 _).mono ?_
  rintro e w9 ⟨rfl, hb9⟩
  rw [show hasA 24 = true by decide, show hasB 24 = false by decide, show ((24 : Int) == 1) = false by decide]
  obtain ⟨p0, p1, m0, m1, m2, m3, i0, i1, i2, i3, e1, e2, e3, hb, hz⟩ := HX.out w9 hb9
  have HB := Lib.hid hb
  clear hb hb9 p0 p1 m0 m1 m2 m3 hz e1 e3
  cases t
  · go_wp2
    go_ret
    exact ⟨ret_ite HV.out rfl, HB.out⟩
  cases f2 : b == 0
  · have g2 : (b != 0) = true := by simp [bne, f2]
    go_wp2
    go_ret
    exact ⟨ret_ite HV.out (by simp [hasA, hasB, f2]), HB.out⟩
  have g2 : (b != 0) = false := by simp [bne, f2]
  cases f4 : n == 0
  · have g4 : (n != 0) = true := by simp [bne, f4]
    go_wp2
    go_ret
    exact ⟨ret_ite HV.out (by simp [hasA, hasB, f2, f4]), HB.out⟩
  · have g4 : (n != 0) = false := by simp [bne, f4]
    go_wp2
    go_ret
    exact ⟨ret_ite HV.out (by simp [hasA, hasB, f2, f4]), HB.out⟩
set_option maxRecDepth 100000 in
set_option maxHeartbeats 4000000 in
theorem instr_27 (p : PV) (x : MV) (a b n : Int) (t : Bool) (ad : Nat → Addr) (w : World) (hE : KeepsE w ad) (v : Value) (hv : v = if (t && ((hasA 27 || a == 0) && (hasB 27 || b == 0) && (27 == 1 || n == 0))) = true then .nilIface else eV (ad 2)) (ht : t = (decide (0 ≤ a) && decide (a < (p.cls.length : Int)))) :
    Calls Tryd.prog 61 #[p.val, metAgg x, .agg #[.int .i64 27, .int .i64 a, .int .i64 b, .int .i64 n]] w (HPost w v) := by
  have HV := Lib.hid hv
  clear hv
  have HI : Hid (∀ w1, Below (IW w p x 27 a b n).heap.size (IW w p x 27 a b n) w1 → IC w w1 p x 27 a b n ad) := Lib.hid (fun w1 h => IC.of hE h)
  have HT := Lib.hid ht
  clear ht
  have HX : Hid (∀ w1, Below (((w.alloc (.cells #[.slice p.A p.cls.length p.c, .slice p.B p.ms.length p.d] 25)).alloc (.cells #[strV x.m.par, strV x.m.loc, strV x.m.ret, .slice x.A x.m.code.length x.c] 54)).alloc (.cells #[.int .i64 27, .int .i64 a, .int .i64 b, .int .i64 n] 56)).heap.size (((w.alloc (.cells #[.slice p.A p.cls.length p.c, .slice p.B p.ms.length p.d] 25)).alloc (.cells #[strV x.m.par, strV x.m.loc, strV x.m.ret, .slice x.A x.m.code.length x.c] 54)).alloc (.cells #[.int .i64 27, .int .i64 a, .int .i64 b, .int .i64 n] 56)) w1 → IC w w1 p x 27 a b n ad) := HI
  clear HI
  unfold PV.val metAgg
  go_enter Tryd.func61, Tryd.ntmps61
  go_wp2_with fail
  refine (in_any a p.cls.length _).mono ?_
  rintro e w2 ⟨rfl, rfl⟩
  rw [← HT.out]
  go_wp2_with fail
  refine (uses_any 27 _).mono ?_
  rintro e w9 ⟨rfl, hb9⟩
  rw [show hasA 27 = true by decide, show hasB 27 = false by decide, show ((27 : Int) == 1) = false by decide]
  obtain ⟨p0, p1, m0, m1, m2, m3, i0, i1, i2, i3, e1, e2, e3, hb, hz⟩ := HX.out w9 hb9
  have HB := Lib.hid hb
  clear hb hb9 p0 p1 m0 m1 m2 m3 hz e1 e3
  cases t
  · go_wp2
    go_ret
    exact ⟨ret_ite HV.out rfl, HB.out⟩
  cases f2 : b == 0
  · have g2 : (b != 0) = true := by simp [bne, f2]
    go_wp2
    go_ret
    exact ⟨ret_ite HV.out (by simp [hasA, hasB, f2]), HB.out⟩
  have g2 : (b != 0) = false := by simp [bne, f2]
  cases f4 : n == 0
  · have g4 : (n != 0) = true := by simp [bne, f4]
    go_wp2
    go_ret
    exact ⟨ret_ite HV.out (by simp [hasA, hasB, f2, f4]), HB.out⟩
  · have g4 : (n != 0) = false := by simp [bne, f4]
    go_wp2
    go_ret
    exact ⟨ret_ite HV.out (by simp [hasA, hasB, f2, f4]), HB.out⟩
set_option maxRecDepth 100000 in
set_option maxHeartbeats 4000000 in
theorem instr_22 (p : PV) (x : MV) (a b n : Int) (t : Bool) (ad : Nat → Addr) (w : World) (hE : KeepsE w ad) (v : Value) (hv : v = if (t && ((hasA 22 || a == 0) && (hasB 22 || b == 0) && (22 == 1 || n == 0))) = true then .nilIface else eV (ad (if t = true then 2 else 3))) (ht : t = (decide (0 ≤ a) && decide (a < (x.m.code.length : Int)))) :
    Calls Tryd.prog 61 #[p.val, metAgg x, .agg #[.int .i64 22, .int .i64 a, .int .i64 b, .int .i64 n]] w (HPost w v) := by
  have HV := Lib.hid hv
  clear hv
  have HI : Hid (∀ w1, Below (IW w p x 22 a b n).heap.size (IW w p x 22 a b n) w1 → IC w w1 p x 22 a b n ad) := Lib.hid (fun w1 h => IC.of hE h)
  have HT := Lib.hid ht
  clear ht
  have HX : Hid (∀ w1, Below (((w.alloc (.cells #[.slice p.A p.cls.length p.c, .slice p.B p.ms.length p.d] 25)).alloc (.cells #[strV x.m.par, strV x.m.loc, strV x.m.ret, .slice x.A x.m.code.length x.c] 54)).alloc (.cells #[.int .i64 22, .int .i64 a, .int .i64 b, .int .i64 n] 56)).heap.size (((w.alloc (.cells #[.slice p.A p.cls.length p.c, .slice p.B p.ms.length p.d] 25)).alloc (.cells #[strV x.m.par, strV x.m.loc, strV x.m.ret, .slice x.A x.m.code.length x.c] 54)).alloc (.cells #[.int .i64 22, .int .i64 a, .int .i64 b, .int .i64 n] 56)) w1 → IC w w1 p x 22 a b n ad) := HI
  clear HI
  unfold PV.val metAgg
  go_enter Tryd.func61, Tryd.ntmps61
  go_wp2_with fail
  refine (in_any a x.m.code.length _).mono ?_
  rintro e w2 ⟨rfl, rfl⟩
  rw [← HT.out]
  cases t
  · have hx := HX.out _ (Below.refl _ _)
    have e3 := hx.e3
    have HB := Lib.hid hx.below
    clear hx
    go_wp2
    go_ret
    exact ⟨ret_ite HV.out rfl, HB.out⟩
  go_wp2_with fail
  refine (uses_any 22 _).mono ?_
  rintro e w9 ⟨rfl, hb9⟩
  rw [show hasA 22 = true by decide, show hasB 22 = false by decide, show ((22 : Int) == 1) = false by decide]
  obtain ⟨p0, p1, m0, m1, m2, m3, i0, i1, i2, i3, e1, e2, e3, hb, hz⟩ := HX.out w9 hb9
  have HB := Lib.hid hb
  clear hb hb9 p0 p1 m0 m1 m2 m3 hz e1 e3
  cases f2 : b == 0
  · have g2 : (b != 0) = true := by simp [bne, f2]
    go_wp2
    go_ret
    exact ⟨ret_ite HV.out (by simp [hasA, hasB, f2]), HB.out⟩
  have g2 : (b != 0) = false := by simp [bne, f2]
  cases f4 : n == 0
  · have g4 : (n != 0) = true := by simp [bne, f4]
    go_wp2
    go_ret
    exact ⟨ret_ite HV.out (by simp [hasA, hasB, f2, f4]), HB.out⟩
  · have g4 : (n != 0) = false := by simp [bne, f4]
    go_wp2
    go_ret
    exact ⟨ret_ite HV.out (by simp [hasA, hasB, f2, f4]), HB.out⟩
set_option maxRecDepth 100000 in
set_option maxHeartbeats 4000000 in
theorem instr_23 (p : PV) (x : MV) (a b n : Int) (t : Bool) (ad : Nat → Addr) (w : World) (hE : KeepsE w ad) (v : Value) (hv : v = if (t && ((hasA 23 || a == 0) && (hasB 23 || b == 0) && (23 == 1 || n == 0))) = true then .nilIface else eV (ad (if t = true then 2 else 3))) (ht : t = (decide (0 ≤ a) && decide (a < (x.m.code.length : Int)))) :
    Calls Tryd.prog 61 #[p.val, metAgg x, .agg #[.int .i64 23, .int .i64 a, .int .i64 b, .int .i64 n]] w (HPost w v) := by
  have HV := Lib.hid hv
  clear hv
  have HI : Hid (∀ w1, Below (IW w p x 23 a b n).heap.size (IW w p x 23 a b n) w1 → IC w w1 p x 23 a b n ad) := Lib.hid (fun w1 h => IC.of hE h)
  have HT := Lib.hid ht
  clear ht
  have HX : Hid (∀ w1, Below (((w.alloc (.cells #[.slice p.A p.cls.length p.c, .slice p.B p.ms.length p.d] 25)).alloc (.cells #[strV x.m.par, strV x.m.loc, strV x.m.ret, .slice x.A x.m.code.length x.c] 54)).alloc (.cells #[.int .i64 23, .int .i64 a, .int .i64 b, .int .i64 n] 56)).heap.size (((w.alloc (.cells #[.slice p.A p.cls.length p.c, .slice p.B p.ms.length p.d] 25)).alloc (.cells #[strV x.m.par, strV x.m.loc, strV x.m.ret, .slice x.A x.m.code.length x.c] 54)).alloc (.cells #[.int .i64 23, .int .i64 a, .int .i64 b, .int .i64 n] 56)) w1 → IC w w1 p x 23 a b n ad) := HI
  clear HI
  unfold PV.val metAgg
  go_enter Tryd.func61, Tryd.ntmps61
  go_wp2_with fail
  refine (in_any a x.m.code.length _).mono ?_
  rintro e w2 ⟨rfl, rfl⟩
  rw [← HT.out]
  cases t
  · have hx := HX.out _ (Below.refl _ _)
    have e3 := hx.e3
    have HB := Lib.hid hx.below
    clear hx
    go_wp2
    go_ret
    exact ⟨ret_ite HV.out rfl, HB.out⟩
  go_wp2_with fail
  refine (uses_any 23 _).mono ?_
  rintro e w9 ⟨rfl, hb9⟩
  rw [show hasA 23 = true by decide, show hasB 23 = false by decide, show ((23 : Int) == 1) = false by decide]
  obtain ⟨p0, p1, m0, m1, m2, m3, i0, i1, i2, i3, e1, e2, e3, hb, hz⟩ := HX.out w9 hb9
  have HB := Lib.hid hb
  clear hb hb9 p0 p1 m0 m1 m2 m3 hz e1 e3
  cases f2 : b == 0
  · have g2 : (b != 0) = true := by simp [bne, f2]
    go_wp2
    go_ret
    exact ⟨ret_ite HV.out (by simp [hasA, hasB, f2]), HB.out⟩
  have g2 : (b != 0) = false := by simp [bne, f2]
  cases f4 : n == 0
  · have g4 : (n != 0) = true := by simp [bne, f4]
    go_wp2
    go_ret
    exact ⟨ret_ite HV.out (by simp [hasA, hasB, f2, f4]), HB.out⟩
  · have g4 : (n != 0) = false := by simp [bne, f4]
    go_wp2
    go_ret
    exact ⟨ret_ite HV.out (by simp [hasA, hasB, f2, f4]), HB.out⟩
end Go.Proofs.YtnojejplckhifaaDoor
