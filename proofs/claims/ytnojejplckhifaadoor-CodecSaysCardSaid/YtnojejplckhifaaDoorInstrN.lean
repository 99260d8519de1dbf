/- The contract of prog.instr, second part (printed by mkinstr.py). -/
import Derived.Test.YtnojejplckhifaaDoorInstrM
namespace Go.Proofs.YtnojejplckhifaaDoor
open Go.RowKit
set_option linter.unusedVariables false
set_option maxRecDepth 100000 in
set_option maxHeartbeats 4000000 in
theorem instr_3 (p : PV) (x : MV) (a b n : Int) (t : Bool) (ad : Nat → Addr) (w : World) (hE : KeepsE w ad) (v : Value) (hv : v = if (t && ((hasA 3 || a == 0) && (hasB 3 || b == 0) && (3 == 1 || n == 0))) = true then .nilIface else eV (ad 2)) (hk : x.m.par.length + x.m.loc.length ≤ maxLen) (ht : t = (decide (0 ≤ a) && decide (a < (x.m.par.length + x.m.loc.length : Nat)))) :
    Calls Tryd.prog 61 #[p.val, metAgg x, .agg #[.int .i64 3, .int .i64 a, .int .i64 b, .int .i64 n]] w (HPost w v) := by
  have HV := Lib.hid hv
  clear hv
  have HI : Hid (∀ w1, Below (IW w p x 3 a b n).heap.size (IW w p x 3 a b n) w1 → IC w w1 p x 3 a b n ad) := Lib.hid (fun w1 h => IC.of hE h)
  have HT := Lib.hid ht
  clear ht
  have HX : Hid (∀ w1, Below (((w.alloc (.cells #[.slice p.A p.cls.length p.c, .slice p.B p.ms.length p.d] 25)).alloc (.cells #[strV x.m.par, strV x.m.loc, strV x.m.ret, .slice x.A x.m.code.length x.c] 54)).alloc (.cells #[.int .i64 3, .int .i64 a, .int .i64 b, .int .i64 n] 56)).heap.size (((w.alloc (.cells #[.slice p.A p.cls.length p.c, .slice p.B p.ms.length p.d] 25)).alloc (.cells #[strV x.m.par, strV x.m.loc, strV x.m.ret, .slice x.A x.m.code.length x.c] 54)).alloc (.cells #[.int .i64 3, .int .i64 a, .int .i64 b, .int .i64 n] 56)) w1 → IC w w1 p x 3 a b n ad) := HI
  clear HI
  obtain ⟨q, hq⟩ : ∃ q, q = (⟨(x.m.par ++ x.m.loc).toArray⟩ : ByteArray) := ⟨_, rfl⟩
  obtain ⟨L, hL⟩ : ∃ L, L = x.m.par.length + x.m.loc.length := ⟨_, rfl⟩
  have hqs : q.size = L := by rw [hq, hL]; simp [ByteArray.size]
  have HQ := Lib.hid hq
  rw [← hL] at HT
  clear hq hL
  unfold PV.val metAgg
  go_enter Tryd.func61, Tryd.ntmps61
  go_wp2_with fail
  have HX2 := HX
  obtain ⟨W, hW⟩ : ∃ W, W = (((w.alloc (.cells #[.slice p.A p.cls.length p.c, .slice p.B p.ms.length p.d] 25)).alloc (.cells #[strV x.m.par, strV x.m.loc, strV x.m.ret, .slice x.A x.m.code.length x.c] 54)).alloc (.cells #[.int .i64 3, .int .i64 a, .int .i64 b, .int .i64 n] 56)) := ⟨_, rfl⟩
  rw [← hW] at HX ⊢
  have HIC := Lib.hid (HX.out W (Below.refl _ _))
  clear hW HX2
  have HICD : Hid (IC w W.drew p x 3 a b n ad) := Lib.hid (IC.next hE HIC.out ((Below.refl _ _).drew))
  have i1 := HIC.out.i1
  have m0 := HIC.out.m0
  have m1 := HIC.out.m1
  have m2 := HIC.out.m2
  have m3 := HIC.out.m3
  have hsz := HIC.out.size
  have hs1 : w.heap.size + 1 < W.heap.size := by omega
  have hs2 : w.heap.size + 1 + 1 < W.heap.size := by omega
  go_region_held3 (fun w' => w'.cell? ⟨w.heap.size + 1 + 1, 1, none⟩ = some (.int .i64 a) ∧ w'.cell? ⟨w.heap.size + 1, 0, none⟩ = some (strV x.m.par) ∧ w'.cell? ⟨w.heap.size + 1, 1, none⟩ = some (strV x.m.loc) ∧ w'.cell? ⟨w.heap.size + 1, 2, none⟩ = some (strV x.m.ret) ∧ w'.cell? ⟨w.heap.size + 1, 3, none⟩ = some (.slice x.A x.m.code.length x.c)) (go_keep) ((first
    | (have HRX := HK2.out; go_at_call 73; refine (in_any a L _).mono ?_; rintro e w3 ⟨rfl, rfl⟩; rw [← HT.out])
    | (go_at_call 74; refine (kinds_any x _ hk).mono ?_; rintro e w2 ⟨rfl, hb2⟩; unfold strV; rw [← HQ.out]; have HK2 := Lib.hid (IC.next hE HICD.out hb2); have i1' := HK2.out.i1; have m0' := HK2.out.m0; have m1' := HK2.out.m1; have m2' := HK2.out.m2; have m3' := HK2.out.m3)))
  have HX : Hid (∀ w9, Below w2.heap.size w2 w9 → IC w w9 p x 3 a b n ad) := Lib.hid (fun w9 h9 => IC.next hE HK2.out h9)
  have i0' := HK2.out.i0
  clear HK2 HICD HIC i1 m0 m1 m2 m3 hsz hs1 hs2
  go_wp2_with fail
  refine (uses_any 3 _).mono ?_
  rintro e w9 ⟨rfl, hb9⟩
  rw [show hasA 3 = true by decide, show hasB 3 = false by decide, show ((3 : Int) == 1) = false by decide]
  obtain ⟨p0, p1, m0, m1, m2, m3, i0, i1, i2, i3, e1, e2, e3, hb, hz⟩ := HX.out w9 hb9
  have HB := Lib.hid hb
  clear hb hb9 p0 p1 m0 m1 m2 m3 hz e1 e3
  cases t
  · go_wp2
    go_ret
    exact ⟨ret_ite HV.out rfl, HB.out⟩
  cases f2 : b == 0
  · have g2 : (b != 0) = true := by simp [bne, f2]
    go_wp2
    go_ret
    exact ⟨ret_ite HV.out (by simp [hasA, hasB, f2]), HB.out⟩
  have g2 : (b != 0) = false := by simp [bne, f2]
  cases f4 : n == 0
  · have g4 : (n != 0) = true := by simp [bne, f4]
    go_wp2
    go_ret
    exact ⟨ret_ite HV.out (by simp [hasA, hasB, f2, f4]), HB.out⟩
  · have g4 : (n != 0) = false := by simp [bne, f4]
    go_wp2
    go_ret
    exact ⟨ret_ite HV.out (by simp [hasA, hasB, f2, f4]), HB.out⟩
set_option maxRecDepth 100000 in
set_option maxHeartbeats 4000000 in
theorem instr_4 (p : PV) (x : MV) (a b n : Int) (t : Bool) (ad : Nat → Addr) (w : World) (hE : KeepsE w ad) (v : Value) (hv : v = if (t && ((hasA 4 || a == 0) && (hasB 4 || b == 0) && (4 == 1 || n == 0))) = true then .nilIface else eV (ad 2)) (hk : x.m.par.length + x.m.loc.length ≤ maxLen) (ht : t = (decide (0 ≤ a) && decide (a < (x.m.par.length + x.m.loc.length : Nat)))) :
    Calls Tryd.prog 61 #[p.val, metAgg x, .agg #[.int .i64 4, .int .i64 a, .int .i64 b, .int .i64 n]] w (HPost w v) := by
  have HV := Lib.hid hv
  clear hv
  have HI : Hid (∀ w1, Below (IW w p x 4 a b n).heap.size (IW w p x 4 a b n) w1 → IC w w1 p x 4 a b n ad) := Lib.hid (fun w1 h => IC.of hE h)
  have HT := Lib.hid ht
  clear ht
  have HX : Hid (∀ w1, Below (((w.alloc (.cells #[.slice p.A p.cls.length p.c, .slice p.B p.ms.length p.d] 25)).alloc (.cells #[strV x.m.par, strV x.m.loc, strV x.m.ret, .slice x.A x.m.code.length x.c] 54)).alloc (.cells #[.int .i64 4, .int .i64 a, .int .i64 b, .int .i64 n] 56)).heap.size (((w.alloc (.cells #[.slice p.A p.cls.length p.c, .slice p.B p.ms.length p.d] 25)).alloc (.cells #[strV x.m.par, strV x.m.loc, strV x.m.ret, .slice x.A x.m.code.length x.c] 54)).alloc (.cells #[.int .i64 4, .int .i64 a, .int .i64 b, .int .i64 n] 56)) w1 → IC w w1 p x 4 a b n ad) := HI
  clear HI
  obtain ⟨q, hq⟩ : ∃ q, q = (⟨(x.m.par ++ x.m.loc).toArray⟩ : ByteArray) := ⟨_, rfl⟩
  obtain ⟨L, hL⟩ : ∃ L, L = x.m.par.length + x.m.loc.length := ⟨_, rfl⟩
  have hqs : q.size = L := by rw [hq, hL]; simp [ByteArray.size]
  have HQ := Lib.hid hq
  rw [← hL] at HT
  clear hq hL
  unfold PV.val metAgg
  go_enter Tryd.func61, Tryd.ntmps61
  go_wp2_with fail
  have HX2 := HX
  obtain ⟨W, hW⟩ : ∃ W, W = (((w.alloc (.cells #[.slice p.A p.cls.length p.c, .slice p.B p.ms.length p.d] 25)).alloc (.cells #[strV x.m.par, strV x.m.loc, strV x.m.ret, .slice x.A x.m.code.length x.c] 54)).alloc (.cells #[.int .i64 4, .int .i64 a, .int .i64 b, .int .i64 n] 56)) := ⟨_, rfl⟩
  rw [← hW] at HX ⊢
  have HIC := Lib.hid (HX.out W (Below.refl _ _))
  clear hW HX2
  have HICD : Hid (IC w W.drew p x 4 a b n ad) := Lib.hid (IC.next hE HIC.out ((Below.refl _ _).drew))
  have i1 := HIC.out.i1
  have m0 := HIC.out.m0
  have m1 := HIC.out.m1
  have m2 := HIC.out.m2
  have m3 := HIC.out.m3
  have hsz := HIC.out.size
  have hs1 : w.heap.size + 1 < W.heap.size := by omega
  have hs2 : w.heap.size + 1 + 1 < W.heap.size := by omega
  go_region_held3 (fun w' => w'.cell? ⟨w.heap.size + 1 + 1, 1, none⟩ = some (.int .i64 a) ∧ w'.cell? ⟨w.heap.size + 1, 0, none⟩ = some (strV x.m.par) ∧ w'.cell? ⟨w.heap.size + 1, 1, none⟩ = some (strV x.m.loc) ∧ w'.cell? ⟨w.heap.size + 1, 2, none⟩ = some (strV x.m.ret) ∧ w'.cell? ⟨w.heap.size + 1, 3, none⟩ = some (.slice x.A x.m.code.length x.c)) (go_keep) ((first
    | (have HRX := HK2.out; go_at_call 73; refine (in_any a L _).mono ?_; rintro e w3 ⟨rfl, rfl⟩; rw [← HT.out])
    | (go_at_call 74; refine (kinds_any x _ hk).mono ?_; rintro e w2 ⟨rfl, hb2⟩; unfold strV; rw [← HQ.out]; have HK2 := Lib.hid (IC.next hE HICD.out hb2); have i1' := HK2.out.i1; have m0' := HK2.out.m0; have m1' := HK2.out.m1; have m2' := HK2.out.m2; have m3' := HK2.out.m3)))
  have HX : Hid (∀ w9, Below w2.heap.size w2 w9 → IC w w9 p x 4 a b n ad) := Lib.hid (fun w9 h9 => IC.next hE HK2.out h9)
  have i0' := HK2.out.i0
  clear HK2 HICD HIC i1 m0 m1 m2 m3 hsz hs1 hs2
  go_wp2_with fail
  refine (uses_any 4 _).mono ?_
  rintro e w9 ⟨rfl, hb9⟩
  rw [show hasA 4 = true by decide, show hasB 4 = false by decide, show ((4 : Int) == 1) = false by decide]
  obtain ⟨p0, p1, m0, m1, m2, m3, i0, i1, i2, i3, e1, e2, e3, hb, hz⟩ := HX.out w9 hb9
  have HB := Lib.hid hb
  clear hb hb9 p0 p1 m0 m1 m2 m3 hz e1 e3
  cases t
  · go_wp2
    go_ret
    exact ⟨ret_ite HV.out rfl, HB.out⟩
  cases f2 : b == 0
  · have g2 : (b != 0) = true := by simp [bne, f2]
    go_wp2
    go_ret
    exact ⟨ret_ite HV.out (by simp [hasA, hasB, f2]), HB.out⟩
  have g2 : (b != 0) = false := by simp [bne, f2]
  cases f4 : n == 0
  · have g4 : (n != 0) = true := by simp [bne, f4]
    go_wp2
    go_ret
    exact ⟨ret_ite HV.out (by simp [hasA, hasB, f2, f4]), HB.out⟩
  · have g4 : (n != 0) = false := by simp [bne, f4]
    go_wp2
    go_ret
    exact ⟨ret_ite HV.out (by simp [hasA, hasB, f2, f4]), HB.out⟩
set_option maxRecDepth 100000 in
set_option maxHeartbeats 4000000 in
theorem instr_25_in (p : PV) (x : MV) (a b n : Int) (t : Bool) (ad : Nat → Addr) (w : World) (hE : KeepsE w ad) (v : Value) (hv : v = if (t && ((hasA 25 || a == 0) && (hasB 25 || b == 0) && (25 == 1 || n == 0))) = true then .nilIface else eV (ad 2)) (k : Nat) (s : List UInt8) (hp : PAt w w.heap.size p) (hak : a = (k : Int)) (hk : p.cls[k]? = some s) (hs : s.length ≤ maxLen) (ht : t = (decide (0 ≤ b) && decide (b < (s.length : Int)))) :
    Calls Tryd.prog 61 #[p.val, metAgg x, .agg #[.int .i64 25, .int .i64 a, .int .i64 b, .int .i64 n]] w (HPost w v) := by
  have HV := Lib.hid hv
  clear hv
  have HI : Hid (∀ w1, Below (IW w p x 25 a b n).heap.size (IW w p x 25 a b n) w1 → IC w w1 p x 25 a b n ad) := Lib.hid (fun w1 h => IC.of hE h)
  have HT := Lib.hid ht
  clear ht
  have HX : Hid (∀ w1, Below (((w.alloc (.cells #[.slice p.A p.cls.length p.c, .slice p.B p.ms.length p.d] 25)).alloc (.cells #[strV x.m.par, strV x.m.loc, strV x.m.ret, .slice x.A x.m.code.length x.c] 54)).alloc (.cells #[.int .i64 25, .int .i64 a, .int .i64 b, .int .i64 n] 56)).heap.size (((w.alloc (.cells #[.slice p.A p.cls.length p.c, .slice p.B p.ms.length p.d] 25)).alloc (.cells #[strV x.m.par, strV x.m.loc, strV x.m.ret, .slice x.A x.m.code.length x.c] 54)).alloc (.cells #[.int .i64 25, .int .i64 a, .int .i64 b, .int .i64 n] 56)) w1 → IC w w1 p x 25 a b n ad) := HI
  clear HI
  obtain ⟨hkl, hks⟩ := List.getElem?_eq_some_iff.1 hk
  obtain ⟨A, u, hA, hAb, hu, hcell⟩ := hp.cls.at_ hkl
  rw [List.getElem?_map, hk] at hu
  obtain rfl : strV s = u := by simpa using hu
  have HCL : Hid (∀ w1, Below w.heap.size w w1 → w1.cell? (A.add k) = some (strV s)) := Lib.hid (fun w1 h1 => (h1.cell (p := A.add k) (by rw [block_of_add]; exact hAb)).trans hcell)
  have HA := Lib.hid hA
  obtain ⟨q, hq⟩ : ∃ q, q = (⟨s.toArray⟩ : ByteArray) := ⟨_, rfl⟩
  obtain ⟨L, hL⟩ : ∃ L, L = s.length := ⟨_, rfl⟩
  obtain ⟨N, hN⟩ : ∃ N, N = p.cls.length := ⟨_, rfl⟩
  have hqs : q.size = L := by rw [hq, hL]; simp [ByteArray.size]
  have HKL := Lib.hid hkl
  have HN := Lib.hid hN
  unfold strV at HCL
  rw [← hq] at HCL
  rw [← hL] at HT
  have HAK := Lib.hid hak
  clear hq hL hu hcell hAb hk hks hkl hp hs hA hak hN
  unfold PV.val metAgg
  go_enter Tryd.func61, Tryd.ntmps61
  go_wp2_with fail
  obtain ⟨W, hW⟩ : ∃ W, W = (((w.alloc (.cells #[.slice p.A p.cls.length p.c, .slice p.B p.ms.length p.d] 25)).alloc (.cells #[strV x.m.par, strV x.m.loc, strV x.m.ret, .slice x.A x.m.code.length x.c] 54)).alloc (.cells #[.int .i64 25, .int .i64 a, .int .i64 b, .int .i64 n] 56)) := ⟨_, rfl⟩
  rw [← hW] at HX ⊢
  have HIC := Lib.hid (HX.out W (Below.refl _ _))
  clear hW HX
  have hak := HAK.out
  subst hak
  have i0 := HIC.out.i0
  have i1 := HIC.out.i1
  have i2 := HIC.out.i2
  have p0 := HIC.out.p0
  rw [HA.out, ← HN.out] at p0
  have hcl := HCL.out _ HIC.out.below
  have hsz := HIC.out.size
  have hs0 : w.heap.size < W.heap.size := by omega
  have hs2 : w.heap.size + 1 + 1 < W.heap.size := by omega
  have hkN : k < N := by have := HKL.out; have := HN.out; omega
  have hkN' : (k : Int) < (N : Int) := by omega
  have hkN1 : decide ((k : Int) < (N : Int)) = true := by simpa using hkN
  have hkN2 : decide (k < N) = true := by simpa using hkN
  go_quiet ((refine Calls.quiet_of_same (in_any2 _ _ _)))
  obtain ⟨V, hV⟩ : ∃ V, V = W.drewN nq := ⟨_, rfl⟩
  rw [← hV]
  have HVC : Hid (IC w V p x 25 (k : Int) b n ad) := Lib.hid (by rw [hV]; exact IC.next hE HIC.out (below_drewN (Below.refl _ _) nq))
  have HX : Hid (∀ w9, Below V.heap.size V w9 → IC w w9 p x 25 (k : Int) b n ad) := Lib.hid (fun w9 h9 => IC.next hE HVC.out h9)
  clear hV i0 i1 i2 p0 hsz hs0 hs2 HIC hcl HCL
  have i0' := HVC.out.i0
  go_wp2_with fail
  rw [← HT.out]
  refine (uses_any 25 _).mono ?_
  rintro e w9 ⟨rfl, hb9⟩
  rw [show hasA 25 = true by decide, show hasB 25 = true by decide, show ((25 : Int) == 1) = false by decide]
  obtain ⟨p0, p1, m0, m1, m2, m3, i0, i1, i2, i3, e1, e2, e3, hb, hz⟩ := HX.out w9 hb9
  have HB := Lib.hid hb
  clear hb hb9 p0 p1 m0 m1 m2 m3 hz e1 e3
  cases t
  · go_wp2
    go_ret
    exact ⟨ret_ite HV.out rfl, HB.out⟩
  have f2 : True := trivial
  cases f4 : n == 0
  · have g4 : (n != 0) = true := by simp [bne, f4]
    go_wp2
    go_ret
    exact ⟨ret_ite HV.out (by simp [hasA, hasB, f4]), HB.out⟩
  · have g4 : (n != 0) = false := by simp [bne, f4]
    go_wp2
    go_ret
    exact ⟨ret_ite HV.out (by simp [hasA, hasB, f4]), HB.out⟩
set_option maxRecDepth 100000 in
set_option maxHeartbeats 4000000 in
theorem instr_26_in (p : PV) (x : MV) (a b n : Int) (t : Bool) (ad : Nat → Addr) (w : World) (hE : KeepsE w ad) (v : Value) (hv : v = if (t && ((hasA 26 || a == 0) && (hasB 26 || b == 0) && (26 == 1 || n == 0))) = true then .nilIface else eV (ad 2)) (k : Nat) (s : List UInt8) (hp : PAt w w.heap.size p) (hak : a = (k : Int)) (hk : p.cls[k]? = some s) (hs : s.length ≤ maxLen) (ht : t = (decide (0 ≤ b) && decide (b < (s.length : Int)))) :
    Calls Tryd.prog 61 #[p.val, metAgg x, .agg #[.int .i64 26, .int .i64 a, .int .i64 b, .int .i64 n]] w (HPost w v) := by
  have HV := Lib.hid hv
  clear hv
  have HI : Hid (∀ w1, Below (IW w p x 26 a b n).heap.size (IW w p x 26 a b n) w1 → IC w w1 p x 26 a b n ad) := Lib.hid (fun w1 h => IC.of hE h)
  have HT := Lib.hid ht
  clear ht
  have HX : Hid (∀ w1, Below (((w.alloc (.cells #[.slice p.A p.cls.length p.c, .slice p.B p.ms.length p.d] 25)).alloc (.cells #[strV x.m.par, strV x.m.loc, strV x.m.ret, .slice x.A x.m.code.length x.c] 54)).alloc (.cells #[.int .i64 26, .int .i64 a, .int .i64 b, .int .i64 n] 56)).heap.size (((w.alloc (.cells #[.slice p.A p.cls.length p.c, .slice p.B p.ms.length p.d] 25)).alloc (.cells #[strV x.m.par, strV x.m.loc, strV x.m.ret, .slice x.A x.m.code.length x.c] 54)).alloc (.cells #[.int .i64 26, .int .i64 a, .int .i64 b, .int .i64 n] 56)) w1 → IC w w1 p x 26 a b n ad) := HI
  clear HI
  obtain ⟨hkl, hks⟩ := List.getElem?_eq_some_iff.1 hk
  obtain ⟨A, u, hA, hAb, hu, hcell⟩ := hp.cls.at_ hkl
  rw [List.getElem?_map, hk] at hu
  obtain rfl : strV s = u := by simpa using hu
  have HCL : Hid (∀ w1, Below w.heap.size w w1 → w1.cell? (A.add k) = some (strV s)) := Lib.hid (fun w1 h1 => (h1.cell (p := A.add k) (by rw [block_of_add]; exact hAb)).trans hcell)
  have HA := Lib.hid hA
  obtain ⟨q, hq⟩ : ∃ q, q = (⟨s.toArray⟩ : ByteArray) := ⟨_, rfl⟩
  obtain ⟨L, hL⟩ : ∃ L, L = s.length := ⟨_, rfl⟩
  obtain ⟨N, hN⟩ : ∃ N, N = p.cls.length := ⟨_, rfl⟩
  have hqs : q.size = L := by rw [hq, hL]; simp [ByteArray.size]
  have HKL := Lib.hid hkl
  have HN := Lib.hid hN
  unfold strV at HCL
  rw [← hq] at HCL
  rw [← hL] at HT
  have HAK := Lib.hid hak
  clear hq hL hu hcell hAb hk hks hkl hp hs hA hak hN
  unfold PV.val metAgg
  go_enter Tryd.func61, Tryd.ntmps61
  go_wp2_with fail
  obtain ⟨W, hW⟩ : ∃ W, W = (((w.alloc (.cells #[.slice p.A p.cls.length p.c, .slice p.B p.ms.length p.d] 25)).alloc (.cells #[strV x.m.par, strV x.m.loc, strV x.m.ret, .slice x.A x.m.code.length x.c] 54)).alloc (.cells #[.int .i64 26, .int .i64 a, .int .i64 b, .int .i64 n] 56)) := ⟨_, rfl⟩
  rw [← hW] at HX ⊢
  have HIC := Lib.hid (HX.out W (Below.refl _ _))
  clear hW HX
  have hak := HAK.out
  subst hak
  have i0 := HIC.out.i0
  have i1 := HIC.out.i1
  have i2 := HIC.out.i2
  have p0 := HIC.out.p0
  rw [HA.out, ← HN.out] at p0
  have hcl := HCL.out _ HIC.out.below
  have hsz := HIC.out.size
  have hs0 : w.heap.size < W.heap.size := by omega
  have hs2 : w.heap.size + 1 + 1 < W.heap.size := by omega
  have hkN : k < N := by have := HKL.out; have := HN.out; omega
  have hkN' : (k : Int) < (N : Int) := by omega
  have hkN1 : decide ((k : Int) < (N : Int)) = true := by simpa using hkN
  have hkN2 : decide (k < N) = true := by simpa using hkN
  go_quiet ((refine Calls.quiet_of_same (in_any2 _ _ _)))
  obtain ⟨V, hV⟩ : ∃ V, V = W.drewN nq := ⟨_, rfl⟩
  rw [← hV]
  have HVC : Hid (IC w V p x 26 (k : Int) b n ad) := Lib.hid (by rw [hV]; exact IC.next hE HIC.out (below_drewN (Below.refl _ _) nq))
  have HX : Hid (∀ w9, Below V.heap.size V w9 → IC w w9 p x 26 (k : Int) b n ad) := Lib.hid (fun w9 h9 => IC.next hE HVC.out h9)
  clear hV i0 i1 i2 p0 hsz hs0 hs2 HIC hcl HCL
  have i0' := HVC.out.i0
  go_wp2_with fail
  rw [← HT.out]
  refine (uses_any 26 _).mono ?_
  rintro e w9 ⟨rfl, hb9⟩
  rw [show hasA 26 = true by decide, show hasB 26 = true by decide, show ((26 : Int) == 1) = false by decide]
  obtain ⟨p0, p1, m0, m1, m2, m3, i0, i1, i2, i3, e1, e2, e3, hb, hz⟩ := HX.out w9 hb9
  have HB := Lib.hid hb
  clear hb hb9 p0 p1 m0 m1 m2 m3 hz e1 e3
  cases t
  · go_wp2
    go_ret
    exact ⟨ret_ite HV.out rfl, HB.out⟩
  have f2 : True := trivial
  cases f4 : n == 0
  · have g4 : (n != 0) = true := by simp [bne, f4]
    go_wp2
    go_ret
    exact ⟨ret_ite HV.out (by simp [hasA, hasB, f4]), HB.out⟩
  · have g4 : (n != 0) = false := by simp [bne, f4]
    go_wp2
    go_ret
    exact ⟨ret_ite HV.out (by simp [hasA, hasB, f4]), HB.out⟩
set_option maxRecDepth 100000 in
set_option maxHeartbeats 4000000 in
theorem instr_25_out (p : PV) (x : MV) (a b n : Int) (t : Bool) (ad : Nat → Addr) (w : World) (hE : KeepsE w ad) (v : Value) (hv : v = if (t && ((hasA 25 || a == 0) && (hasB 25 || b == 0) && (25 == 1 || n == 0))) = true then .nilIface else eV (ad 2)) (hf : (decide (0 ≤ a) && decide (a < (p.cls.length : Int))) = false) (ht : t = (false)) :
    Calls Tryd.prog 61 #[p.val, metAgg x, .agg #[.int .i64 25, .int .i64 a, .int .i64 b, .int .i64 n]] w (HPost w v) := by
  have HV := Lib.hid hv
  clear hv
  have HI : Hid (∀ w1, Below (IW w p x 25 a b n).heap.size (IW w p x 25 a b n) w1 → IC w w1 p x 25 a b n ad) := Lib.hid (fun w1 h => IC.of hE h)
  have HT := Lib.hid ht
  clear ht
  have HX : Hid (∀ w1, Below (((w.alloc (.cells #[.slice p.A p.cls.length p.c, .slice p.B p.ms.length p.d] 25)).alloc (.cells #[strV x.m.par, strV x.m.loc, strV x.m.ret, .slice x.A x.m.code.length x.c] 54)).alloc (.cells #[.int .i64 25, .int .i64 a, .int .i64 b, .int .i64 n] 56)).heap.size (((w.alloc (.cells #[.slice p.A p.cls.length p.c, .slice p.B p.ms.length p.d] 25)).alloc (.cells #[strV x.m.par, strV x.m.loc, strV x.m.ret, .slice x.A x.m.code.length x.c] 54)).alloc (.cells #[.int .i64 25, .int .i64 a, .int .i64 b, .int .i64 n] 56)) w1 → IC w w1 p x 25 a b n ad) := HI
  clear HI
  obtain ⟨N, hN⟩ : ∃ N, N = p.cls.length := ⟨_, rfl⟩
  have HN := Lib.hid hN
  have HF := Lib.hid hf
  clear hf hN
  unfold PV.val metAgg
  go_enter Tryd.func61, Tryd.ntmps61
  go_wp2_with fail
  obtain ⟨W, hW⟩ : ∃ W, W = (((w.alloc (.cells #[.slice p.A p.cls.length p.c, .slice p.B p.ms.length p.d] 25)).alloc (.cells #[strV x.m.par, strV x.m.loc, strV x.m.ret, .slice x.A x.m.code.length x.c] 54)).alloc (.cells #[.int .i64 25, .int .i64 a, .int .i64 b, .int .i64 n] 56)) := ⟨_, rfl⟩
  rw [← hW] at HX ⊢
  have HIC := Lib.hid (HX.out W (Below.refl _ _))
  clear hW HX
  rw [← HN.out] at HF
  have i0 := HIC.out.i0
  have i1 := HIC.out.i1
  have i2 := HIC.out.i2
  have p0 := HIC.out.p0
  rw [← HN.out] at p0
  have hsz := HIC.out.size
  have hs0 : w.heap.size < W.heap.size := by omega
  have hs2 : w.heap.size + 1 + 1 < W.heap.size := by omega
  go_quiet ((refine Calls.quiet_of_same (in_no _ _ _ HF.out)))
  obtain ⟨V, hV⟩ : ∃ V, V = W.drewN nq := ⟨_, rfl⟩
  rw [← hV]
  have HVC : Hid (IC w V p x 25 a b n ad) := Lib.hid (by rw [hV]; exact IC.next hE HIC.out (below_drewN (Below.refl _ _) nq))
  have HX : Hid (∀ w9, Below V.heap.size V w9 → IC w w9 p x 25 a b n ad) := Lib.hid (fun w9 h9 => IC.next hE HVC.out h9)
  clear hV i0 i1 i2 p0 hsz hs0 hs2 HIC
  have i0' := HVC.out.i0
  have htf := HT.out
  subst htf
  go_wp2_with fail
  refine (uses_any 25 _).mono ?_
  rintro e w9 ⟨rfl, hb9⟩
  rw [show hasA 25 = true by decide, show hasB 25 = true by decide, show ((25 : Int) == 1) = false by decide]
  have H9 := Lib.hid (HX.out w9 hb9)
  clear hb9
  have e2 := H9.out.e2
  go_wp2
  go_ret
  exact ⟨ret_ite HV.out rfl, H9.out.below⟩
set_option maxRecDepth 100000 in
set_option maxHeartbeats 4000000 in
theorem instr_26_out (p : PV) (x : MV) (a b n : Int) (t : Bool) (ad : Nat → Addr) (w : World) (hE : KeepsE w ad) (v : Value) (hv : v = if (t && ((hasA 26 || a == 0) && (hasB 26 || b == 0) && (26 == 1 || n == 0))) = true then .nilIface else eV (ad 2)) (hf : (decide (0 ≤ a) && decide (a < (p.cls.length : Int))) = false) (ht : t = (false)) :
    Calls Tryd.prog 61 #[p.val, metAgg x, .agg #[.int .i64 26, .int .i64 a, .int .i64 b, .int .i64 n]] w (HPost w v) := by
  have HV := Lib.hid hv
  clear hv
  have HI : Hid (∀ w1, Below (IW w p x 26 a b n).heap.size (IW w p x 26 a b n) w1 → IC w w1 p x 26 a b n ad) := Lib.hid (fun w1 h => IC.of hE h)
  have HT := Lib.hid ht
  clear ht
  have HX : Hid (∀ w1, Below (((w.alloc (.cells #[.slice p.A p.cls.length p.c, .slice p.B p.ms.length p.d] 25)).alloc (.cells #[strV x.m.par, strV x.m.loc, strV x.m.ret, .slice x.A x.m.code.length x.c] 54)).alloc (.cells #[.int .i64 26, .int .i64 a, .int .i64 b, .int .i64 n] 56)).heap.size (((w.alloc (.cells #[.slice p.A p.cls.length p.c, .slice p.B p.ms.length p.d] 25)).alloc (.cells #[strV x.m.par, strV x.m.loc, strV x.m.ret, .slice x.A x.m.code.length x.c] 54)).alloc (.cells #[.int .i64 26, .int .i64 a, .int .i64 b, .int .i64 n] 56)) w1 → IC w w1 p x 26 a b n ad) := HI
  clear HI
  obtain ⟨N, hN⟩ : ∃ N, N = p.cls.length := ⟨_, rfl⟩
  have HN := Lib.hid hN
  have HF := Lib.hid hf
  clear hf hN
  unfold PV.val metAgg
  go_enter Tryd.func61, Tryd.ntmps61
  go_wp2_with fail
  obtain ⟨W, hW⟩ : ∃ W, W = (((w.alloc (.cells #[.slice p.A p.cls.length p.c, .slice p.B p.ms.length p.d] 25)).alloc (.cells #[strV x.m.par, strV x.m.loc, strV x.m.ret, .slice x.A x.m.code.length x.c] 54)).alloc (.cells #[.int .i64 26, .int .i64 a, .int .i64 b, .int .i64 n] 56)) := ⟨_, rfl⟩
  rw [← hW] at HX ⊢
  have HIC := Lib.hid (HX.out W (Below.refl _ _))
  clear hW HX
  rw [← HN.out] at HF
  have i0 := HIC.out.i0
  have i1 := HIC.out.i1
  have i2 := HIC.out.i2
  have p0 := HIC.out.p0
  rw [← HN.out] at p0
  have hsz := HIC.out.size
  have hs0 : w.heap.size < W.heap.size := by omega
  have hs2 : w.heap.size + 1 + 1 < W.heap.size := by omega
  go_quiet ((refine Calls.quiet_of_same (in_no _ _ _ HF.out)))
  obtain ⟨V, hV⟩ : ∃ V, V = W.drewN nq := ⟨_, rfl⟩
  rw [← hV]
  have HVC : Hid (IC w V p x 26 a b n ad) := Lib.hid (by rw [hV]; exact IC.next hE HIC.out (below_drewN (Below.refl _ _) nq))
  have HX : Hid (∀ w9, Below V.heap.size V w9 → IC w w9 p x 26 a b n ad) := Lib.hid (fun w9 h9 => IC.next hE HVC.out h9)
  clear hV i0 i1 i2 p0 hsz hs0 hs2 HIC
  have i0' := HVC.out.i0
  have htf := HT.out
  subst htf
  go_wp2_with fail
  refine (uses_any 26 _).mono ?_
  rintro e w9 ⟨rfl, hb9⟩
  rw [show hasA 26 = true by decide, show hasB 26 = true by decide, show ((26 : Int) == 1) = false by decide]
  have H9 := Lib.hid (HX.out w9 hb9)
  clear hb9
  have e2 := H9.out.e2
  go_wp2
  go_ret
  exact ⟨ret_ite HV.out rfl, H9.out.below⟩
theorem may_val (P : Prg) (m : Met) (op a b n : Int) (ad : Nat → Addr) (t : Bool) (hr : ¬ (op < 1 ∨ 35 < op)) (h22 : ¬ (op = 22 ∨ op = 23)) (ht : thereI P m ⟨op, a, b, n⟩ = t) :
    optV ad (mayI P m ⟨op, a, b, n⟩) = if (t && ((hasA op || a == 0) && (hasB op || b == 0) && (op == 1 || n == 0))) = true then .nilIface else eV (ad 2) := by
  unfold mayI
  simp only []
  rw [if_neg hr, if_neg (fun h => h22 h.1), ht]
  unfold idleI
  simp only []
  split <;> rfl
theorem may_22 (P : Prg) (m : Met) (op a b n : Int) (ad : Nat → Addr) (t : Bool) (h22 : op = 22 ∨ op = 23) (ht : t = (decide (0 ≤ a) && decide (a < (m.code.length : Int)))) :
    optV ad (mayI P m ⟨op, a, b, n⟩) = if (t && ((hasA op || a == 0) && (hasB op || b == 0) && (op == 1 || n == 0))) = true then .nilIface else eV (ad (if t = true then 2 else 3)) := by
  have hT : thereI P m ⟨op, a, b, n⟩ = true := by
    unfold thereI
    simp only []
    rw [if_neg (by omega), if_neg (by omega), if_neg (by omega), if_neg (by omega), if_neg (by omega)]
  unfold mayI
  simp only []
  rw [if_neg (by omega), hT]
  unfold idleI
  simp only []
  cases t
  · have hn : ¬ (0 ≤ a ∧ a < (m.code.length : Int)) := fun h => by simp [h.1, h.2] at ht
    rw [if_pos ⟨h22, hn⟩]
    rfl
  · have hn : 0 ≤ a ∧ a < (m.code.length : Int) := by simpa using ht.symm
    rw [if_neg (fun h => h.2 hn)]
    split <;> rfl
theorem there_a (P : Prg) (m : Met) (op a b n : Int) (h : op = 3 ∨ op = 4) : thereI P m ⟨op, a, b, n⟩ = (decide (0 ≤ a) && decide (a < (m.par.length + m.loc.length : Nat))) := by
  unfold thereI; simp only []; rw [if_pos h, Bool.decide_and]
theorem there_b (P : Prg) (m : Met) (op a b n : Int) (h : op = 24 ∨ op = 27) : thereI P m ⟨op, a, b, n⟩ = (decide (0 ≤ a) && decide (a < (P.cls.length : Int))) := by
  unfold thereI; simp only []; rw [if_neg (by omega), if_pos h, Bool.decide_and]
theorem there_d (P : Prg) (m : Met) (op a b n : Int) (h : op = 28 ∨ op = 29 ∨ op = 30) : thereI P m ⟨op, a, b, n⟩ = (decide (0 ≤ a) && decide (a < 2)) := by
  unfold thereI; simp only []; rw [if_neg (by omega), if_neg (by omega), if_neg (by omega), if_pos h, Bool.decide_and]
theorem there_e (P : Prg) (m : Met) (op a b n : Int) (h : op = 32) : thereI P m ⟨op, a, b, n⟩ = (decide (0 < a) && decide (a < (P.mets.length : Int))) := by
  unfold thereI; simp only []; rw [if_neg (by omega), if_neg (by omega), if_neg (by omega), if_neg (by omega), if_pos h, Bool.decide_and]
theorem there_c (P : Prg) (m : Met) (op a b n : Int) (k : Nat) (s : List UInt8) (h : op = 25 ∨ op = 26) (ha : a = (k : Int)) (hk : P.cls[k]? = some s) : thereI P m ⟨op, a, b, n⟩ = (decide (0 ≤ b) && decide (b < (s.length : Int))) := by
  have hkl := (List.getElem?_eq_some_iff.1 hk).1
  unfold thereI; simp only []; rw [if_neg (by omega), if_neg (by omega), if_pos h]
  subst ha
  have hs : P.cls.getD k [] = s := by rw [List.getD_eq_getElem?_getD, hk]; rfl
  simp only [Int.toNat_natCast, hs]
  rw [← Bool.decide_and, decide_eq_decide]
  omega
theorem there_c0 (P : Prg) (m : Met) (op a b n : Int) (h : op = 25 ∨ op = 26) (ha : (decide (0 ≤ a) && decide (a < (P.cls.length : Int))) = false) : thereI P m ⟨op, a, b, n⟩ = false := by
  unfold thereI; simp only []; rw [if_neg (by omega), if_neg (by omega), if_pos h]
  rw [decide_eq_false_iff_not]
  intro hh
  rw [← Bool.decide_and, decide_eq_false_iff_not] at ha
  exact ha ⟨hh.1, hh.2.1⟩
theorem instr_any (p : PV) (x : MV) (i : Ins) (ad : Nat → Addr) (w : World) (hE : KeepsE w ad) (hp : PAt w w.heap.size p) (hk : x.m.par.length + x.m.loc.length ≤ maxLen) (hc : ∀ c ∈ p.cls, c.length ≤ maxLen) :
    Calls Tryd.prog 61 #[p.val, metAgg x, .agg #[.int .i64 i.op, .int .i64 i.a, .int .i64 i.b, .int .i64 i.n]] w (HPost w (optV ad (mayI p.prg x.m i))) := by
  obtain ⟨op, a, b, n⟩ := i
  have hcl : p.prg.cls = p.cls := rfl
  have hml : p.prg.mets.length = p.ms.length := by simp [PV.prg]
  by_cases h0 : op < 1 ∨ 35 < op
  · have : mayI p.prg x.m ⟨op, a, b, n⟩ = some 1 := by unfold mayI; exact if_pos h0
    rw [this]
    exact instr_kind p x op a b n ad w hE h0
  have hA : ∀ k : Int, ¬ (k = 22 ∨ k = 23) → op = k → ¬ (op = 22 ∨ op = 23) := fun k h e => by rw [e]; exact h
  by_cases h3 : op = 3
  · subst h3; exact instr_3 p x a b n _ ad w hE _ (may_val _ _ _ _ _ _ _ _ h0 (by omega) (there_a _ _ _ _ _ _ (by omega))) hk rfl
  by_cases h4 : op = 4
  · subst h4; exact instr_4 p x a b n _ ad w hE _ (may_val _ _ _ _ _ _ _ _ h0 (by omega) (there_a _ _ _ _ _ _ (by omega))) hk rfl
  by_cases h22 : op = 22
  · subst h22; exact instr_22 p x a b n _ ad w hE _ (may_22 _ _ _ _ _ _ _ _ (by omega) rfl) rfl
  by_cases h23 : op = 23
  · subst h23; exact instr_23 p x a b n _ ad w hE _ (may_22 _ _ _ _ _ _ _ _ (by omega) rfl) rfl
  by_cases h24 : op = 24
  · subst h24; exact instr_24 p x a b n _ ad w hE _ (may_val _ _ _ _ _ _ _ _ h0 (by omega) (there_b _ _ _ _ _ _ (by omega))) rfl
  by_cases h27 : op = 27
  · subst h27; exact instr_27 p x a b n _ ad w hE _ (may_val _ _ _ _ _ _ _ _ h0 (by omega) (there_b _ _ _ _ _ _ (by omega))) rfl
  by_cases h28 : op = 28
  · subst h28; exact instr_28 p x a b n _ ad w hE _ (may_val _ _ _ _ _ _ _ _ h0 (by omega) (there_d _ _ _ _ _ _ (by omega))) rfl
  by_cases h29 : op = 29
  · subst h29; exact instr_29 p x a b n _ ad w hE _ (may_val _ _ _ _ _ _ _ _ h0 (by omega) (there_d _ _ _ _ _ _ (by omega))) rfl
  by_cases h30 : op = 30
  · subst h30; exact instr_30 p x a b n _ ad w hE _ (may_val _ _ _ _ _ _ _ _ h0 (by omega) (there_d _ _ _ _ _ _ (by omega))) rfl
  by_cases h32 : op = 32
  · subst h32; exact instr_32 p x a b n _ ad w hE _ (may_val _ _ _ _ _ _ _ _ h0 (by omega) (by rw [there_e _ _ _ _ _ _ rfl, hml])) rfl
  by_cases h25 : op = 25
  · subst h25
    cases hf : (decide (0 ≤ a) && decide (a < (p.cls.length : Int)))
    · exact instr_25_out p x a b n _ ad w hE _ (may_val _ _ _ _ _ _ _ _ h0 (by omega) (there_c0 _ _ _ _ _ _ (by omega) hf)) hf rfl
    · have hf' : 0 ≤ a ∧ a < (p.cls.length : Int) := by simpa using hf
      obtain ⟨k, rfl⟩ := Int.eq_ofNat_of_zero_le hf'.1
      have hk' : p.cls[k]? = some p.cls[k] := List.getElem?_eq_getElem (by omega)
      exact instr_25_in p x k b n _ ad w hE _ (may_val _ _ _ _ _ _ _ _ h0 (by omega) (there_c _ _ _ _ _ _ k _ (by omega) rfl hk')) k _ hp rfl hk' (hc _ (List.mem_of_getElem? hk')) rfl
  by_cases h26 : op = 26
  · subst h26
    cases hf : (decide (0 ≤ a) && decide (a < (p.cls.length : Int)))
    · exact instr_26_out p x a b n _ ad w hE _ (may_val _ _ _ _ _ _ _ _ h0 (by omega) (there_c0 _ _ _ _ _ _ (by omega) hf)) hf rfl
    · have hf' : 0 ≤ a ∧ a < (p.cls.length : Int) := by simpa using hf
      obtain ⟨k, rfl⟩ := Int.eq_ofNat_of_zero_le hf'.1
      have hk' : p.cls[k]? = some p.cls[k] := List.getElem?_eq_getElem (by omega)
      exact instr_26_in p x k b n _ ad w hE _ (may_val _ _ _ _ _ _ _ _ h0 (by omega) (there_c _ _ _ _ _ _ k _ (by omega) rfl hk')) k _ hp rfl hk' (hc _ (List.mem_of_getElem? hk')) rfl
  have hT : thereI p.prg x.m ⟨op, a, b, n⟩ = true := by
    unfold thereI
    simp only []
    rw [if_neg (by omega), if_neg (by omega), if_neg (by omega), if_neg (by omega), if_neg (by omega)]
  have ne : ∀ k : Int, op ≠ k → (op == k) = false := fun k h => by simpa using h
  exact instr_rest p x op a b n ad w hE _ (may_val _ _ _ _ _ _ _ _ h0 (by omega) hT) (by simp; omega) (by simp; omega) (ne 3 h3) (ne 4 h4) (ne 22 h22) (ne 23 h23) (ne 24 h24) (ne 25 h25) (ne 26 h26) (ne 27 h27) (ne 28 h28) (ne 29 h29) (ne 30 h30) (ne 32 h32)
end Go.Proofs.YtnojejplckhifaaDoor
