/- The contract of overdriveref3.instr (printed by mkrm2.py). -/
import Derived.Test.YtnojejplckhifaaDoorRm1
import Derived.Deep.QuietTactic
import Derived.BigQuiet
namespace Go.Proofs.YtnojejplckhifaaDoor
open Go.RowKit
set_option linter.unusedVariables false

def RI (w : World) (v : Int) (e : Ending) (w' : World) : Prop := e = .returned (.int .i64 v) ∧ Below w.heap.size w w'
theorem ri_of {w w' : World} {v r : Int} (h : v = r) (hb : Below w.heap.size w w') : RI w v (.returned (.int .i64 r)) w' := ⟨by rw [h], hb⟩
theorem rusesB_is (op : Int) (t : Bool) (h : hasB op = t) (w : World) : Calls Tryd.prog 40 #[.int .i64 op] w fun e w' => e = .returned (.bool t) ∧ w' = w := by
  subst h
  refine (rusesB_any op w).mono ?_
  rintro e w' ⟨rfl, rfl⟩
  exact ⟨rfl, rfl⟩
theorem rusesA_is (op : Int) (t : Bool) (h : hasA op = t) (w : World) : Calls Tryd.prog 39 #[.int .i64 op] w fun e w' => e = .returned (.bool t) ∧ w' = w := by
  subst h
  refine (rusesA_any op w).mono ?_
  rintro e w' ⟨rfl, rfl⟩
  exact ⟨rfl, rfl⟩
set_option maxRecDepth 100000 in
set_option maxHeartbeats 4000000 in
theorem ri_kind (pA pB mA : Option Addr) (N1 N2 M pc pd mc p l : Nat) (q0 q1 q2 : ByteArray) (op a b n : Int) (w : World) (h0 : q0.size = p) (h1 : q1.size = l) (hmax : p + l ≤ maxLen) (h : op < 1 ∨ 35 < op) :
    Calls Tryd.prog 36 #[.agg #[.slice pA N1 pc, .slice pB N2 pd], .agg #[.string q0, .string q1, .string q2, .slice mA M mc], .agg #[.int .i64 op, .int .i64 a, .int .i64 b, .int .i64 n]] w (RI w 102) := by
  have HB : Hid (Below w.heap.size w (((w.alloc (.cells #[.slice pA N1 pc, .slice pB N2 pd] 25)).alloc (.cells #[.string q0, .string q1, .string q2, .slice mA M mc] 54)).alloc (.cells #[.int .i64 op, .int .i64 a, .int .i64 b, .int .i64 n] 56))) := Lib.hid ((((Below.refl _ _).alloc (Nat.le_refl _) _).alloc (by simp) _).alloc (by simp; omega) _)
  have hpm : p ≤ 9223372036854775807 := by unfold maxLen at hmax; omega
  have hlm : l ≤ 9223372036854775807 := by unfold maxLen at hmax; omega
  have hplm : p + l ≤ 9223372036854775807 := by unfold maxLen at hmax; omega
  clear hmax
  rcases h with h | h
  · have d1 : decide (op < 1) = true := by simpa using h
    go_enter Tryd.func36, Tryd.ntmps36
    go_wp2
    go_ret
    exact ri_of rfl HB.out
  · have d1 : decide (op < 1) = false := by simp; omega
    have d2 : decide (35 < op) = true := by simpa using h
    go_enter Tryd.func36, Tryd.ntmps36
    go_wp2
    go_ret
    exact ri_of rfl HB.out
set_option maxRecDepth 100000 in
set_option maxHeartbeats 4000000 in
theorem ri_rest (pA pB mA : Option Addr) (N1 N2 M pc pd mc p l : Nat) (q0 q1 q2 : ByteArray) (op a b n : Int) (w : World) (h0 : q0.size = p) (h1 : q1.size = l) (hmax : p + l ≤ maxLen) (v : Int) (hv : v = if (true && ((hasA op || a == 0) && (hasB op || b == 0) && (op == 1 || n == 0))) = true then 0 else 103) (o1 : decide (op < 1) = false) (o2 : decide (35 < op) = false) (h3 : (op == 3) = false) (h4 : (op == 4) = false) (h22 : (op == 22) = false) (h23 : (op == 23) = false) (h24 : (op == 24) = false) (h25 : (op == 25) = false) (h26 : (op == 26) = false) (h27 : (op == 27) = false) (h28 : (op == 28) = false) (h29 : (op == 29) = false) (h30 : (op == 30) = false) (h32 : (op == 32) = false) :
    Calls Tryd.prog 36 #[.agg #[.slice pA N1 pc, .slice pB N2 pd], .agg #[.string q0, .string q1, .string q2, .slice mA M mc], .agg #[.int .i64 op, .int .i64 a, .int .i64 b, .int .i64 n]] w (RI w v) := by
  have HV := Lib.hid hv
  have HB : Hid (Below w.heap.size w (((w.alloc (.cells #[.slice pA N1 pc, .slice pB N2 pd] 25)).alloc (.cells #[.string q0, .string q1, .string q2, .slice mA M mc] 54)).alloc (.cells #[.int .i64 op, .int .i64 a, .int .i64 b, .int .i64 n] 56))) := Lib.hid ((((Below.refl _ _).alloc (Nat.le_refl _) _).alloc (by simp) _).alloc (by simp; omega) _)
  have hpm : p ≤ 9223372036854775807 := by unfold maxLen at hmax; omega
  have hlm : l ≤ 9223372036854775807 := by unfold maxLen at hmax; omega
  have hplm : p + l ≤ 9223372036854775807 := by unfold maxLen at hmax; omega
  clear hv hmax
  have hA : hasA op = false := by simp [hasA, *]
  have hB : hasB op = false := by simp [hasB, *]
  go_enter Tryd.func36, Tryd.ntmps36
  go_wp2_with fail
  refine (rusesA_is op false hA _).mono ?_
  rintro e w9 ⟨rfl, rfl⟩
  cases f1 : a == 0
  · have g1 : (a != 0) = true := by simp [bne, f1]
    go_wp2
    go_ret
    exact ri_of (by rw [HV.out]; simp_all) HB.out
  have g1 : (a != 0) = false := by simp [bne, f1]
  go_wp2_with fail
  refine (rusesB_is op false hB _).mono ?_
  rintro e w9 ⟨rfl, rfl⟩
  cases f2 : b == 0
  · have g2 : (b != 0) = true := by simp [bne, f2]
    go_wp2
    go_ret
    exact ri_of (by rw [HV.out]; simp_all) HB.out
  have g2 : (b != 0) = false := by simp [bne, f2]
  cases f3 : op == 1
  · have g3 : (op != 1) = true := by simp [bne, f3]
    cases f4 : n == 0
    · have g4 : (n != 0) = true := by simp [bne, f4]
      go_wp2
      go_ret
      exact ri_of (by rw [HV.out]; simp_all) HB.out
    · have g4 : (n != 0) = false := by simp [bne, f4]
      go_wp2
      go_ret
      exact ri_of (by rw [HV.out]; simp_all) HB.out
  · have g3 : (op != 1) = false := by simp [bne, f3]
    go_wp2
    go_ret
    exact ri_of (by rw [HV.out]; simp_all) HB.out
set_option maxRecDepth 100000 in
set_option maxHeartbeats 4000000 in
theorem ri_3 (pA pB mA : Option Addr) (N1 N2 M pc pd mc p l : Nat) (q0 q1 q2 : ByteArray) (a b n : Int) (t : Bool) (w : World) (h0 : q0.size = p) (h1 : q1.size = l) (hmax : p + l ≤ maxLen) (v : Int) (hv : v = if (t && ((hasA 3 || a == 0) && (hasB 3 || b == 0) && (3 == 1 || n == 0))) = true then 0 else 103) (ht : t = (decide (0 ≤ a) && decide (a < (p + l : Nat)))) :
    Calls Tryd.prog 36 #[.agg #[.slice pA N1 pc, .slice pB N2 pd], .agg #[.string q0, .string q1, .string q2, .slice mA M mc], .agg #[.int .i64 3, .int .i64 a, .int .i64 b, .int .i64 n]] w (RI w v) := by
  have HV := Lib.hid hv
  have HB : Hid (Below w.heap.size w (((w.alloc (.cells #[.slice pA N1 pc, .slice pB N2 pd] 25)).alloc (.cells #[.string q0, .string q1, .string q2, .slice mA M mc] 54)).alloc (.cells #[.int .i64 3, .int .i64 a, .int .i64 b, .int .i64 n] 56))) := Lib.hid ((((Below.refl _ _).alloc (Nat.le_refl _) _).alloc (by simp) _).alloc (by simp; omega) _)
  have hpm : p ≤ 9223372036854775807 := by unfold maxLen at hmax; omega
  have hlm : l ≤ 9223372036854775807 := by unfold maxLen at hmax; omega
  have hplm : p + l ≤ 9223372036854775807 := by unfold maxLen at hmax; omega
  clear hv hmax
  by_cases c0 : a < 0
  · have t1 : decide (a < 0) = true := by simpa using c0
    have htf : t = false := by rw [ht]; simp; omega
    subst htf
    clear ht
    go_enter Tryd.func36, Tryd.ntmps36
    go_wp2
    go_ret
    exact ri_of (by rw [HV.out]; rfl) HB.out
  have t1 : decide (a < 0) = false := by simpa using c0
  by_cases c1 : ((p : Int) + (l : Int)) ≤ a
  · have t2 : decide ((p : Int) + (l : Int) ≤ a) = true := by simpa using c1
    have t3 : decide (a ≥ (p : Int) + (l : Int)) = true := by simpa using c1
    have htf : t = false := by rw [ht]; simp; omega
    subst htf
    clear ht
    go_enter Tryd.func36, Tryd.ntmps36
    go_wp2
    go_ret
    exact ri_of (by rw [HV.out]; rfl) HB.out
  have t2 : decide ((p : Int) + (l : Int) ≤ a) = false := by simpa using c1
  have htt : t = true := by rw [ht]; simp; omega
  subst htt
  clear ht
  go_enter Tryd.func36, Tryd.ntmps36
  go_wp2_with fail
  refine (rusesA_is 3 true (by decide) _).mono ?_
  rintro e w9 ⟨rfl, rfl⟩
  go_wp2_with fail
  refine (rusesB_is 3 false (by decide) _).mono ?_
  rintro e w9 ⟨rfl, rfl⟩
  cases f2 : b == 0
  · have g2 : (b != 0) = true := by simp [bne, f2]
    go_wp2
    go_ret
    exact ri_of (by rw [HV.out]; simp [hasA, hasB, f2]) HB.out
  have g2 : (b != 0) = false := by simp [bne, f2]
  cases f4 : n == 0
  · have g4 : (n != 0) = true := by simp [bne, f4]
    go_wp2
    go_ret
    exact ri_of (by rw [HV.out]; simp [hasA, hasB, f2, f4]) HB.out
  · have g4 : (n != 0) = false := by simp [bne, f4]
    go_wp2
    go_ret
    exact ri_of (by rw [HV.out]; simp [hasA, hasB, f2, f4]) HB.out
set_option maxRecDepth 100000 in
set_option maxHeartbeats 4000000 in
theorem ri_4 (pA pB mA : Option Addr) (N1 N2 M pc pd mc p l : Nat) (q0 q1 q2 : ByteArray) (a b n : Int) (t : Bool) (w : World) (h0 : q0.size = p) (h1 : q1.size = l) (hmax : p + l ≤ maxLen) (v : Int) (hv : v = if (t && ((hasA 4 || a == 0) && (hasB 4 || b == 0) && (4 == 1 || n == 0))) = true then 0 else 103) (ht : t = (decide (0 ≤ a) && decide (a < (p + l : Nat)))) :
    Calls Tryd.prog 36 #[.agg #[.slice pA N1 pc, .slice pB N2 pd], .agg #[.string q0, .string q1, .string q2, .slice mA M mc], .agg #[.int .i64 4, .int .i64 a, .int .i64 b, .int .i64 n]] w (RI w v) := by
  have HV := Lib.hid hv
  have HB : Hid (Below w.heap.size w (((w.alloc (.cells #[.slice pA N1 pc, .slice pB N2 pd] 25)).alloc (.cells #[.string q0, .string q1, .string q2, .slice mA M mc] 54)).alloc (.cells #[.int .i64 4, .int .i64 a, .int .i64 b, .int .i64 n] 56))) := Lib.hid ((((Below.refl _ _).alloc (Nat.le_refl _) _).alloc (by simp) _).alloc (by simp; omega) _)
  have hpm : p ≤ 9223372036854775807 := by unfold maxLen at hmax; omega
  have hlm : l ≤ 9223372036854775807 := by unfold maxLen at hmax; omega
  have hplm : p + l ≤ 9223372036854775807 := by unfold maxLen at hmax; omega
  clear hv hmax
  by_cases c0 : a < 0
  · have t1 : decide (a < 0) = true := by simpa using c0
    have htf : t = false := by rw [ht]; simp; omega
    subst htf
    clear ht
    go_enter Tryd.func36, Tryd.ntmps36
    go_wp2
    go_ret
    exact ri_of (by rw [HV.out]; rfl) HB.out
  have t1 : decide (a < 0) = false := by simpa using c0
  by_cases c1 : ((p : Int) + (l : Int)) ≤ a
  · have t2 : decide ((p : Int) + (l : Int) ≤ a) = true := by simpa using c1
    have t3 : decide (a ≥ (p : Int) + (l : Int)) = true := by simpa using c1
    have htf : t = false := by rw [ht]; simp; omega
    subst htf
    clear ht
    go_enter Tryd.func36, Tryd.ntmps36
    go_wp2
    go_ret
    exact ri_of (by rw [HV.out]; rfl) HB.out
  have t2 : decide ((p : Int) + (l : Int) ≤ a) = false := by simpa using c1
  have htt : t = true := by rw [ht]; simp; omega
  subst htt
  clear ht
  go_enter Tryd.func36, Tryd.ntmps36
  go_wp2_with fail
  refine (rusesA_is 4 true (by decide) _).mono ?_
  rintro e w9 ⟨rfl, rfl⟩
  go_wp2_with fail
  refine (rusesB_is 4 false (by decide) _).mono ?_
  rintro e w9 ⟨rfl, rfl⟩
  cases f2 : b == 0
  · have g2 : (b != 0) = true := by simp [bne, f2]
    go_wp2
    go_ret
    exact ri_of (by rw [HV.out]; simp [hasA, hasB, f2]) HB.out
  have g2 : (b != 0) = false := by simp [bne, f2]
  cases f4 : n == 0
  · have g4 : (n != 0) = true := by simp [bne, f4]
    go_wp2
    go_ret
    exact ri_of (by rw [HV.out]; simp [hasA, hasB, f2, f4]) HB.out
  · have g4 : (n != 0) = false := by simp [bne, f4]
    go_wp2
    go_ret
    exact ri_of (by rw [HV.out]; simp [hasA, hasB, f2, f4]) HB.out
set_option maxRecDepth 100000 in
set_option maxHeartbeats 4000000 in
theorem ri_22 (pA pB mA : Option Addr) (N1 N2 M pc pd mc p l : Nat) (q0 q1 q2 : ByteArray) (a b n : Int) (t : Bool) (w : World) (h0 : q0.size = p) (h1 : q1.size = l) (hmax : p + l ≤ maxLen) (v : Int) (hv : v = if (t && ((hasA 22 || a == 0) && (hasB 22 || b == 0) && (22 == 1 || n == 0))) = true then 0 else (if t = true then 103 else 104)) (ht : t = (decide (0 ≤ a) && decide (a < (M : Int)))) :
    Calls Tryd.prog 36 #[.agg #[.slice pA N1 pc, .slice pB N2 pd], .agg #[.string q0, .string q1, .string q2, .slice mA M mc], .agg #[.int .i64 22, .int .i64 a, .int .i64 b, .int .i64 n]] w (RI w v) := by
  have HV := Lib.hid hv
  have HB : Hid (Below w.heap.size w (((w.alloc (.cells #[.slice pA N1 pc, .slice pB N2 pd] 25)).alloc (.cells #[.string q0, .string q1, .string q2, .slice mA M mc] 54)).alloc (.cells #[.int .i64 22, .int .i64 a, .int .i64 b, .int .i64 n] 56))) := Lib.hid ((((Below.refl _ _).alloc (Nat.le_refl _) _).alloc (by simp) _).alloc (by simp; omega) _)
  have hpm : p ≤ 9223372036854775807 := by unfold maxLen at hmax; omega
  have hlm : l ≤ 9223372036854775807 := by unfold maxLen at hmax; omega
  have hplm : p + l ≤ 9223372036854775807 := by unfold maxLen at hmax; omega
  clear hv hmax
  by_cases c0 : a < 0
  · have t1 : decide (a < 0) = true := by simpa using c0
    have htf : t = false := by rw [ht]; simp; omega
    subst htf
    clear ht
    go_enter Tryd.func36, Tryd.ntmps36
    go_wp2
    go_ret
    exact ri_of (by rw [HV.out]; rfl) HB.out
  have t1 : decide (a < 0) = false := by simpa using c0
  by_cases c1 : (M : Int) ≤ a
  · have t2 : decide ((M : Int) ≤ a) = true := by simpa using c1
    have htf : t = false := by rw [ht]; simp; omega
    subst htf
    clear ht
    go_enter Tryd.func36, Tryd.ntmps36
    go_wp2
    go_ret
    exact ri_of (by rw [HV.out]; rfl) HB.out
  have t2 : decide ((M : Int) ≤ a) = false := by simpa using c1
  have htt : t = true := by rw [ht]; simp; omega
  subst htt
  clear ht
  go_enter Tryd.func36, Tryd.ntmps36
  go_wp2_with fail
  refine (rusesA_is 22 true (by decide) _).mono ?_
  rintro e w9 ⟨rfl, rfl⟩
  go_wp2_with fail
  refine (rusesB_is 22 false (by decide) _).mono ?_
  rintro e w9 ⟨rfl, rfl⟩
  cases f2 : b == 0
  · have g2 : (b != 0) = true := by simp [bne, f2]
    go_wp2
    go_ret
    exact ri_of (by rw [HV.out]; simp [hasA, hasB, f2]) HB.out
  have g2 : (b != 0) = false := by simp [bne, f2]
  cases f4 : n == 0
  · have g4 : (n != 0) = true := by simp [bne, f4]
    go_wp2
    go_ret
    exact ri_of (by rw [HV.out]; simp [hasA, hasB, f2, f4]) HB.out
  · have g4 : (n != 0) = false := by simp [bne, f4]
    go_wp2
    go_ret
    exact ri_of (by rw [HV.out]; simp [hasA, hasB, f2, f4]) HB.out
set_option maxRecDepth 100000 in
set_option maxHeartbeats 4000000 in
theorem ri_23 (pA pB mA : Option Addr) (N1 N2 M pc pd mc p l : Nat) (q0 q1 q2 : ByteArray) (a b n : Int) (t : Bool) (w : World) (h0 : q0.size = p) (h1 : q1.size = l) (hmax : p + l ≤ maxLen) (v : Int) (hv : v = if (t && ((hasA 23 || a == 0) && (hasB 23 || b == 0) && (23 == 1 || n == 0))) = true then 0 else (if t = true then 103 else 104)) (ht : t = (decide (0 ≤ a) && decide (a < (M : Int)))) :
    Calls Tryd.prog 36 #[.agg #[.slice pA N1 pc, .slice pB N2 pd], .agg #[.string q0, .string q1, .string q2, .slice mA M mc], .agg #[.int .i64 23, .int .i64 a, .int .i64 b, .int .i64 n]] w (RI w v) := by
  have HV := Lib.hid hv
  have HB : Hid (Below w.heap.size w (((w.alloc (.cells #[.slice pA N1 pc, .slice pB N2 pd] 25)).alloc (.cells #[.string q0, .string q1, .string q2, .slice mA M mc] 54)).alloc (.cells #[.int .i64 23, .int .i64 a, .int .i64 b, .int .i64 n] 56))) := Lib.hid ((((Below.refl _ _).alloc (Nat.le_refl _) _).alloc (by simp) _).alloc (by simp; omega) _)
  have hpm : p ≤ 9223372036854775807 := by unfold maxLen at hmax; omega
  have hlm : l ≤ 9223372036854775807 := by unfold maxLen at hmax; omega
  have hplm : p + l ≤ 9223372036854775807 := by unfold maxLen at hmax; omega
  clear hv hmax
  by_cases c0 : a < 0
  · have t1 : decide (a < 0) = true := by simpa using c0
    have htf : t = false := by rw [ht]; simp; omega
    subst htf
    clear ht
    go_enter Tryd.func36, Tryd.ntmps36
    go_wp2
    go_ret
    exact ri_of (by rw [HV.out]; rfl) HB.out
  have t1 : decide (a < 0) = false := by simpa using c0
  by_cases c1 : (M : Int) ≤ a
  · have t2 : decide ((M : Int) ≤ a) = true := by simpa using c1
    have htf : t = false := by rw [ht]; simp; omega
    subst htf
    clear ht
    go_enter Tryd.func36, Tryd.ntmps36
    go_wp2
    go_ret
    exact ri_of (by rw [HV.out]; rfl) HB.out
  have t2 : decide ((M : Int) ≤ a) = false := by simpa using c1
  have htt : t = true := by rw [ht]; simp; omega
  subst htt
  clear ht
  go_enter Tryd.func36, Tryd.ntmps36
  go_wp2_with fail
  refine (rusesA_is 23 true (by decide) _).mono ?_
  rintro e w9 ⟨rfl, rfl⟩
  go_wp2_with fail
  refine (rusesB_is 23 false (by decide) _).mono ?_
  rintro e w9 ⟨rfl, rfl⟩
  cases f2 : b == 0
  · have g2 : (b != 0) = true := by simp [bne, f2]
    go_wp2
    go_ret
    exact ri_of (by rw [HV.out]; simp [hasA, hasB, f2]) HB.out
  have g2 : (b != 0) = false := by simp [bne, f2]
  cases f4 : n == 0
  · have g4 : (n != 0) = true := by simp [bne, f4]
    go_wp2
    go_ret
    exact ri_of (by rw [HV.out]; simp [hasA, hasB, f2, f4]) HB.out
  · have g4 : (n != 0) = false := by simp [bne, f4]
    go_wp2
    go_ret
    exact ri_of (by rw [HV.out]; simp [hasA, hasB, f2, f4]) HB.out
set_option maxRecDepth 100000 in
set_option maxHeartbeats 4000000 in
theorem ri_32 (pA pB mA : Option Addr) (N1 N2 M pc pd mc p l : Nat) (q0 q1 q2 : ByteArray) (a b n : Int) (t : Bool) (w : World) (h0 : q0.size = p) (h1 : q1.size = l) (hmax : p + l ≤ maxLen) (v : Int) (hv : v = if (t && ((hasA 32 || a == 0) && (hasB 32 || b == 0) && (32 == 1 || n == 0))) = true then 0 else 103) (ht : t = (decide (0 < a) && decide (a < (N2 : Int)))) :
    Calls Tryd.prog 36 #[.agg #[.slice pA N1 pc, .slice pB N2 pd], .agg #[.string q0, .string q1, .string q2, .slice mA M mc], .agg #[.int .i64 32, .int .i64 a, .int .i64 b, .int .i64 n]] w (RI w v) := by
  have HV := Lib.hid hv
  have HB : Hid (Below w.heap.size w (((w.alloc (.cells #[.slice pA N1 pc, .slice pB N2 pd] 25)).alloc (.cells #[.string q0, .string q1, .string q2, .slice mA M mc] 54)).alloc (.cells #[.int .i64 32, .int .i64 a, .int .i64 b, .int .i64 n] 56))) := Lib.hid ((((Below.refl _ _).alloc (Nat.le_refl _) _).alloc (by simp) _).alloc (by simp; omega) _)
  have hpm : p ≤ 9223372036854775807 := by unfold maxLen at hmax; omega
  have hlm : l ≤ 9223372036854775807 := by unfold maxLen at hmax; omega
  have hplm : p + l ≤ 9223372036854775807 := by unfold maxLen at hmax; omega
  clear hv hmax
  by_cases c0 : a < 1
  · have t1 : decide (a < 1) = true := by simpa using c0
    have htf : t = false := by rw [ht]; simp; omega
    subst htf
    clear ht
    go_enter Tryd.func36, Tryd.ntmps36
    go_wp2
    go_ret
    exact ri_of (by rw [HV.out]; rfl) HB.out
  have t1 : decide (a < 1) = false := by simpa using c0
  by_cases c1 : (N2 : Int) ≤ a
  · have t2 : decide ((N2 : Int) ≤ a) = true := by simpa using c1
    have htf : t = false := by rw [ht]; simp; omega
    subst htf
    clear ht
    go_enter Tryd.func36, Tryd.ntmps36
    go_wp2
    go_ret
    exact ri_of (by rw [HV.out]; rfl) HB.out
  have t2 : decide ((N2 : Int) ≤ a) = false := by simpa using c1
  have htt : t = true := by rw [ht]; simp; omega
  subst htt
  clear ht
  go_enter Tryd.func36, Tryd.ntmps36
  go_wp2_with fail
  refine (rusesA_is 32 true (by decide) _).mono ?_
  rintro e w9 ⟨rfl, rfl⟩
  go_wp2_with fail
  refine (rusesB_is 32 false (by decide) _).mono ?_
  rintro e w9 ⟨rfl, rfl⟩
  cases f2 : b == 0
  · have g2 : (b != 0) = true := by simp [bne, f2]
    go_wp2
    go_ret
    exact ri_of (by rw [HV.out]; simp [hasA, hasB, f2]) HB.out
  have g2 : (b != 0) = false := by simp [bne, f2]
  cases f4 : n == 0
  · have g4 : (n != 0) = true := by simp [bne, f4]
    go_wp2
    go_ret
    exact ri_of (by rw [HV.out]; simp [hasA, hasB, f2, f4]) HB.out
  · have g4 : (n != 0) = false := by simp [bne, f4]
    go_wp2
    go_ret
    exact ri_of (by rw [HV.out]; simp [hasA, hasB, f2, f4]) HB.out
set_option maxRecDepth 100000 in
set_option maxHeartbeats 4000000 in
theorem ri_28 (pA pB mA : Option Addr) (N1 N2 M pc pd mc p l : Nat) (q0 q1 q2 : ByteArray) (a b n : Int) (t : Bool) (w : World) (h0 : q0.size = p) (h1 : q1.size = l) (hmax : p + l ≤ maxLen) (v : Int) (hv : v = if (t && ((hasA 28 || a == 0) && (hasB 28 || b == 0) && (28 == 1 || n == 0))) = true then 0 else 103) (ht : t = (decide (0 ≤ a) && decide (a < 2))) :
    Calls Tryd.prog 36 #[.agg #[.slice pA N1 pc, .slice pB N2 pd], .agg #[.string q0, .string q1, .string q2, .slice mA M mc], .agg #[.int .i64 28, .int .i64 a, .int .i64 b, .int .i64 n]] w (RI w v) := by
  have HV := Lib.hid hv
  have HB : Hid (Below w.heap.size w (((w.alloc (.cells #[.slice pA N1 pc, .slice pB N2 pd] 25)).alloc (.cells #[.string q0, .string q1, .string q2, .slice mA M mc] 54)).alloc (.cells #[.int .i64 28, .int .i64 a, .int .i64 b, .int .i64 n] 56))) := Lib.hid ((((Below.refl _ _).alloc (Nat.le_refl _) _).alloc (by simp) _).alloc (by simp; omega) _)
  have hpm : p ≤ 9223372036854775807 := by unfold maxLen at hmax; omega
  have hlm : l ≤ 9223372036854775807 := by unfold maxLen at hmax; omega
  have hplm : p + l ≤ 9223372036854775807 := by unfold maxLen at hmax; omega
  clear hv hmax
  by_cases c0 : a = 0
  · subst c0
    have htt : t = true := by rw [ht]; decide
    subst htt
    clear ht
    go_enter Tryd.func36, Tryd.ntmps36
    go_wp2_with fail
    refine (rusesA_is 28 true (by decide) _).mono ?_
    rintro e w9 ⟨rfl, rfl⟩
    go_wp2_with fail
    refine (rusesB_is 28 false (by decide) _).mono ?_
    rintro e w9 ⟨rfl, rfl⟩
    cases f2 : b == 0
    · have g2 : (b != 0) = true := by simp [bne, f2]
      go_wp2
      go_ret
      exact ri_of (by rw [HV.out]; simp [hasA, hasB, f2]) HB.out
    have g2 : (b != 0) = false := by simp [bne, f2]
    cases f4 : n == 0
    · have g4 : (n != 0) = true := by simp [bne, f4]
      go_wp2
      go_ret
      exact ri_of (by rw [HV.out]; simp [hasA, hasB, f2, f4]) HB.out
    · have g4 : (n != 0) = false := by simp [bne, f4]
      go_wp2
      go_ret
      exact ri_of (by rw [HV.out]; simp [hasA, hasB, f2, f4]) HB.out
  by_cases c1 : a = 1
  · subst c1
    have htt : t = true := by rw [ht]; decide
    subst htt
    clear ht
    go_enter Tryd.func36, Tryd.ntmps36
    go_wp2_with fail
    refine (rusesA_is 28 true (by decide) _).mono ?_
    rintro e w9 ⟨rfl, rfl⟩
    go_wp2_with fail
    refine (rusesB_is 28 false (by decide) _).mono ?_
    rintro e w9 ⟨rfl, rfl⟩
    cases f2 : b == 0
    · have g2 : (b != 0) = true := by simp [bne, f2]
      go_wp2
      go_ret
      exact ri_of (by rw [HV.out]; simp [hasA, hasB, f2]) HB.out
    have g2 : (b != 0) = false := by simp [bne, f2]
    cases f4 : n == 0
    · have g4 : (n != 0) = true := by simp [bne, f4]
      go_wp2
      go_ret
      exact ri_of (by rw [HV.out]; simp [hasA, hasB, f2, f4]) HB.out
    · have g4 : (n != 0) = false := by simp [bne, f4]
      go_wp2
      go_ret
      exact ri_of (by rw [HV.out]; simp [hasA, hasB, f2, f4]) HB.out
  have t1 : (a != 0) = true := by simpa using c0
  have t2 : (a != 1) = true := by simpa using c1
  have htf : t = false := by rw [ht]; simp; omega
  subst htf
  clear ht
  go_enter Tryd.func36, Tryd.ntmps36
  go_wp2
  go_ret
  exact ri_of (by rw [HV.out]; rfl) HB.out
set_option maxRecDepth 100000 in
set_option maxHeartbeats 4000000 in
theorem ri_29 (pA pB mA : Option Addr) (N1 N2 M pc pd mc p l : Nat) (q0 q1 q2 : ByteArray) (a b n : Int) (t : Bool) (w : World) (h0 : q0.size = p) (h1 : q1.size = l) (hmax : p + l ≤ maxLen) (v : Int) (hv : v = if (t && ((hasA 29 || a == 0) && (hasB 29 || b == 0) && (29 == 1 || n == 0))) = true then 0 else 103) (ht : t = (decide (0 ≤ a) && decide (a < 2))) :
    Calls Tryd.prog 36 #[.agg #[.slice pA N1 pc, .slice pB N2 pd], .agg #[.string q0, .string q1, .string q2, .slice mA M mc], .agg #[.int .i64 29, .int .i64 a, .int .i64 b, .int .i64 n]] w (RI w v) := by
  have HV := Lib.hid hv
  have HB : Hid (Below w.heap.size w (((w.alloc (.cells #[.slice pA N1 pc, .slice pB N2 pd] 25)).alloc (.cells #[.string q0, .string q1, .string q2, .slice mA M mc] 54)).alloc (.cells #[.int .i64 29, .int .i64 a, .int .i64 b, .int .i64 n] 56))) := Lib.hid ((((Below.refl _ _).alloc (Nat.le_refl _) _).alloc (by simp) _).alloc (by simp; omega) _)
  have hpm : p ≤ 9223372036854775807 := by unfold maxLen at hmax; omega
  have hlm : l ≤ 9223372036854775807 := by unfold maxLen at hmax; omega
  have hplm : p + l ≤ 9223372036854775807 := by unfold maxLen at hmax; omega
  clear hv hmax
  by_cases c0 : a = 0
  · subst c0
    have htt : t = true := by rw [ht]; decide
    subst htt
    clear ht
    go_enter Tryd.func36, Tryd.ntmps36
    go_wp2_with fail
    refine (rusesA_is 29 true (by decide) _).mono ?_
    rintro e w9 ⟨rfl, rfl⟩
    go_wp2_with fail
    refine (rusesB_is 29 false (by decide) _).mono ?_
    rintro e w9 ⟨rfl, rfl⟩
    cases f2 : b == 0
    · have g2 : (b != 0) = true := by simp [bne, f2]
      go_wp2
      go_ret
      exact ri_of (by rw [HV.out]; simp [hasA, hasB, f2]) HB.out
    have g2 : (b != 0) = false := by simp [bne, f2]
    cases f4 : n == 0
    · have g4 : (n != 0) = true := by simp [bne, f4]
      go_wp2
      go_ret
      exact ri_of (by rw [HV.out]; simp [hasA, hasB, f2, f4]) HB.out
    · have g4 : (n != 0) = false := by simp [bne, f4]
      go_wp2
      go_ret
      exact ri_of (by rw [HV.out]; simp [hasA, hasB, f2, f4]) HB.out
  by_cases c1 : a = 1
  · subst c1
    have htt : t = true := by rw [ht]; decide
    subst htt
    clear ht
    go_enter Tryd.func36, Tryd.ntmps36
    go_wp2_with fail
    refine (rusesA_is 29 true (by decide) _).mono ?_
    rintro e w9 ⟨rfl, rfl⟩
    go_wp2_with fail
    refine (rusesB_is 29 false (by decide) _).mono ?_
    rintro e w9 ⟨rfl, rfl⟩
    cases f2 : b == 0
    · have g2 : (b != 0) = true := by simp [bne, f2]
      go_wp2
      go_ret
      exact ri_of (by rw [HV.out]; simp [hasA, hasB, f2]) HB.out
    have g2 : (b != 0) = false := by simp [bne, f2]
    cases f4 : n == 0
    · have g4 : (n != 0) = true := by simp [bne, f4]
      go_wp2
      go_ret
      exact ri_of (by rw [HV.out]; simp [hasA, hasB, f2, f4]) HB.out
    · have g4 : (n != 0) = false := by simp [bne, f4]
      go_wp2
      go_ret
      exact ri_of (by rw [HV.out]; simp [hasA, hasB, f2, f4]) HB.out
  have t1 : (a != 0) = true := by simpa using c0
  have t2 : (a != 1) = true := by simpa using c1
  have htf : t = false := by rw [ht]; simp; omega
  subst htf
  clear ht
  go_enter Tryd.func36, Tryd.ntmps36
  go_wp2
  go_ret
  exact ri_of (by rw [HV.out]; rfl) HB.out
set_option maxRecDepth 100000 in
set_option maxHeartbeats 4000000 in
theorem ri_30 (pA pB mA : Option Addr) (N1 N2 M pc pd mc p l : Nat) (q0 q1 q2 : ByteArray) (a b n : Int) (t : Bool) (w : World) (h0 : q0.size = p) (h1 : q1.size = l) (hmax : p + l ≤ maxLen) (v : Int) (hv : v = if (t && ((hasA 30 || a == 0) && (hasB 30 || b == 0) && (30 == 1 || n == 0))) = true then 0 else 103) (ht : t = (decide (0 ≤ a) && decide (a < 2))) :
    Calls Tryd.prog 36 #[.agg #[.slice pA N1 pc, .slice pB N2 pd], .agg #[.string q0, .string q1, .string q2, .slice mA M mc], .agg #[.int .i64 30, .int .i64 a, .int .i64 b, .int .i64 n]] w (RI w v) := by
  have HV := Lib.hid hv
  have HB : Hid (Below w.heap.size w (((w.alloc (.cells #[.slice pA N1 pc, .slice pB N2 pd] 25)).alloc (.cells #[.string q0, .string q1, .string q2, .slice mA M mc] 54)).alloc (.cells #[.int .i64 30, .int .i64 a, .int .i64 b, .int .i64 n] 56))) := Lib.hid ((((Below.refl _ _).alloc (Nat.le_refl _) _).alloc (by simp) _).alloc (by simp; omega) _)
  have hpm : p ≤ 9223372036854775807 := by unfold maxLen at hmax; omega
  have hlm : l ≤ 9223372036854775807 := by unfold maxLen at hmax; omega
  have hplm : p + l ≤ 9223372036854775807 := by unfold maxLen at hmax; omega
  clear hv hmax
  by_cases c0 : a = 0
  · subst c0
    have htt : t = true := by rw [ht]; decide
    subst htt
    clear ht
    go_enter Tryd.func36, Tryd.ntmps36
    go_wp2_with fail
    refine (rusesA_is 30 true (by decide) _).mono ?_
    rintro e w9 ⟨rfl, rfl⟩
    go_wp2_with fail
    refine (rusesB_is 30 false (by decide) _).mono ?_
    rintro e w9 ⟨rfl, rfl⟩
    cases f2 : b == 0
    · have g2 : (b != 0) = true := by simp [bne, f2]
      go_wp2
      go_ret
      exact ri_of (by rw [HV.out]; simp [hasA, hasB, f2]) HB.out
    have g2 : (b != 0) = false := by simp [bne, f2]
    cases f4 : n == 0
    · have g4 : (n != 0) = true := by simp [bne, f4]
      go_wp2
      go_ret
      exact ri_of (by rw [HV.out]; simp [hasA, hasB, f2, f4]) HB.out
    · have g4 : (n != 0) = false := by simp [bne, f4]
      go_wp2
      go_ret
      exact ri_of (by rw [HV.out]; simp [hasA, hasB, f2, f4]) HB.out
  by_cases c1 : a = 1
  · subst c1
    have htt : t = true := by rw [ht]; decide
    subst htt
    clear ht
    go_enter Tryd.func36, Tryd.ntmps36
    go_wp2_with fail
    refine (rusesA_is 30 true (by decide) _).mono ?_
    rintro e w9 ⟨rfl, rfl⟩
    go_wp2_with fail
    refine (rusesB_is 30 false (by decide) _).mono ?_
    rintro e w9 ⟨rfl, rfl⟩
    cases f2 : b == 0
    · have g2 : (b != 0) = true := by simp [bne, f2]
      go_wp2
      go_ret
      exact ri_of (by rw [HV.out]; simp [hasA, hasB, f2]) HB.out
    have g2 : (b != 0) = false := by simp [bne, f2]
    cases f4 : n == 0
    · have g4 : (n != 0) = true := by simp [bne, f4]
      go_wp2
      go_ret
      exact ri_of (by rw [HV.out]; simp [hasA, hasB, f2, f4]) HB.out
    · have g4 : (n != 0) = false := by simp [bne, f4]
      go_wp2
      go_ret
      exact ri_of (by rw [HV.out]; simp [hasA, hasB, f2, f4]) HB.out
  have t1 : (a != 0) = true := by simpa using c0
  have t2 : (a != 1) = true := by simpa using c1
  have htf : t = false := by rw [ht]; simp; omega
  subst htf
  clear ht
  go_enter Tryd.func36, Tryd.ntmps36
  go_wp2
  go_ret
  exact ri_of (by rw [HV.out]; rfl) HB.out
set_option maxRecDepth 100000 in
set_option maxHeartbeats 4000000 in
theorem ri_24 (pA pB mA : Option Addr) (N1 N2 M pc pd mc p l : Nat) (q0 q1 q2 : ByteArray) (a b n : Int) (t : Bool) (w : World) (h0 : q0.size = p) (h1 : q1.size = l) (hmax : p + l ≤ maxLen) (v : Int) (hv : v = if (t && ((hasA 24 || a == 0) && (hasB 24 || b == 0) && (24 == 1 || n == 0))) = true then 0 else 103) (ht : t = (decide (0 ≤ a) && decide (a < (N1 : Int)))) :
    Calls Tryd.prog 36 #[.agg #[.slice pA N1 pc, .slice pB N2 pd], .agg #[.string q0, .string q1, .string q2, .slice mA M mc], .agg #[.int .i64 24, .int .i64 a, .int .i64 b, .int .i64 n]] w (RI w v) := by
  have HV := Lib.hid hv
  have HB : Hid (Below w.heap.size w (((w.alloc (.cells #[.slice pA N1 pc, .slice pB N2 pd] 25)).alloc (.cells #[.string q0, .string q1, .string q2, .slice mA M mc] 54)).alloc (.cells #[.int .i64 24, .int .i64 a, .int .i64 b, .int .i64 n] 56))) := Lib.hid ((((Below.refl _ _).alloc (Nat.le_refl _) _).alloc (by simp) _).alloc (by simp; omega) _)
  have hpm : p ≤ 9223372036854775807 := by unfold maxLen at hmax; omega
  have hlm : l ≤ 9223372036854775807 := by unfold maxLen at hmax; omega
  have hplm : p + l ≤ 9223372036854775807 := by unfold maxLen at hmax; omega
  clear hv hmax
  obtain ⟨W, hW⟩ : ∃ W, W = (((w.alloc (.cells #[.slice pA N1 pc, .slice pB N2 pd] 25)).alloc (.cells #[.string q0, .string q1, .string q2, .slice mA M mc] 54)).alloc (.cells #[.int .i64 24, .int .i64 a, .int .i64 b, .int .i64 n] 56)) := ⟨_, rfl⟩
  rw [← hW] at HB
  have HP : Hid (Blk W w.heap.size 25 #[.slice pA N1 pc, .slice pB N2 pd]) := Lib.hid (by rw [hW]; exact ((Blk.new _ _ _).alloc _).alloc _)
  have HI : Hid (Blk W (w.heap.size + 1 + 1) 56 #[.int .i64 24, .int .i64 a, .int .i64 b, .int .i64 n]) := Lib.hid (by
    rw [hW]
    have := Blk.new ((w.alloc (.cells #[.slice pA N1 pc, .slice pB N2 pd] 25)).alloc (.cells #[.string q0, .string q1, .string q2, .slice mA M mc] 54)) 56 #[.int .i64 24, .int .i64 a, .int .i64 b, .int .i64 n]
    simpa using this)
  by_cases c0 : a < 0
  · have t1 : decide (a < 0) = true := by simpa using c0
    have htf : t = false := by rw [ht]; simp; omega
    subst htf
    clear ht
    go_enter Tryd.func36, Tryd.ntmps36
    go_wp2_with fail
    rw [← hW]
    clear hW
    have i0 := HI.out.cell 0
    have i0 : W.cell? ⟨w.heap.size + 1 + 1, 0, none⟩ = some (.int .i64 24) := i0
    have i1 : W.cell? ⟨w.heap.size + 1 + 1, 1, none⟩ = some (.int .i64 a) := HI.out.cell 1
    have p0 : W.cell? ⟨w.heap.size, 0, none⟩ = some (.slice pA N1 pc) := HP.out.cell 0
    have hs0 := HP.out.lt
    have hs2 := HI.out.lt
    go_quiet ((refine Calls.quiet_of_same (rusesB_is 24 false (by decide) _)))
    obtain ⟨V, hV⟩ : ∃ V, V = W.drewN nq := ⟨_, rfl⟩
    rw [← hV]
    have HBV : Hid (Below w.heap.size w V) := Lib.hid (by rw [hV]; exact below_drewN HB.out nq)
    have HIV : Hid (Blk V (w.heap.size + 1 + 1) 56 #[.int .i64 24, .int .i64 a, .int .i64 b, .int .i64 n]) := Lib.hid (by rw [hV]; exact HI.out.drewN nq)
    clear hV i0 i1 p0 hs0 hs2
    have j0 : V.cell? ⟨w.heap.size + 1 + 1, 0, none⟩ = some (.int .i64 24) := HIV.out.cell 0
    have j1 : V.cell? ⟨w.heap.size + 1 + 1, 1, none⟩ = some (.int .i64 a) := HIV.out.cell 1
    have j2 : V.cell? ⟨w.heap.size + 1 + 1, 2, none⟩ = some (.int .i64 b) := HIV.out.cell 2
    have j3 : V.cell? ⟨w.heap.size + 1 + 1, 3, none⟩ = some (.int .i64 n) := HIV.out.cell 3
    have hsV := HIV.out.lt
    go_wp2
    go_ret
    exact ri_of (by rw [HV.out]; rfl) HBV.out
  have t1 : decide (a < 0) = false := by simpa using c0
  by_cases c1 : (N1 : Int) ≤ a
  · have t2 : decide ((N1 : Int) ≤ a) = true := by simpa using c1
    have t3 : decide (a ≥ (N1 : Int)) = true := by simpa using c1
    have htf : t = false := by rw [ht]; simp; omega
    subst htf
    clear ht
    go_enter Tryd.func36, Tryd.ntmps36
    go_wp2_with fail
    rw [← hW]
    clear hW
    have i0 := HI.out.cell 0
    have i0 : W.cell? ⟨w.heap.size + 1 + 1, 0, none⟩ = some (.int .i64 24) := i0
    have i1 : W.cell? ⟨w.heap.size + 1 + 1, 1, none⟩ = some (.int .i64 a) := HI.out.cell 1
    have p0 : W.cell? ⟨w.heap.size, 0, none⟩ = some (.slice pA N1 pc) := HP.out.cell 0
    have hs0 := HP.out.lt
    have hs2 := HI.out.lt
    go_quiet ((refine Calls.quiet_of_same (rusesB_is 24 false (by decide) _)))
    obtain ⟨V, hV⟩ : ∃ V, V = W.drewN nq := ⟨_, rfl⟩
    rw [← hV]
    have HBV : Hid (Below w.heap.size w V) := Lib.hid (by rw [hV]; exact below_drewN HB.out nq)
    have HIV : Hid (Blk V (w.heap.size + 1 + 1) 56 #[.int .i64 24, .int .i64 a, .int .i64 b, .int .i64 n]) := Lib.hid (by rw [hV]; exact HI.out.drewN nq)
    clear hV i0 i1 p0 hs0 hs2
    have j0 : V.cell? ⟨w.heap.size + 1 + 1, 0, none⟩ = some (.int .i64 24) := HIV.out.cell 0
    have j1 : V.cell? ⟨w.heap.size + 1 + 1, 1, none⟩ = some (.int .i64 a) := HIV.out.cell 1
    have j2 : V.cell? ⟨w.heap.size + 1 + 1, 2, none⟩ = some (.int .i64 b) := HIV.out.cell 2
    have j3 : V.cell? ⟨w.heap.size + 1 + 1, 3, none⟩ = some (.int .i64 n) := HIV.out.cell 3
    have hsV := HIV.out.lt
    go_wp2
    go_ret
    exact ri_of (by rw [HV.out]; rfl) HBV.out
  have t2 : decide ((N1 : Int) ≤ a) = false := by simpa using c1
  have t3 : decide (a ≥ (N1 : Int)) = false := by simpa using c1
  have htt : t = true := by rw [ht]; simp; omega
  subst htt
  clear ht
  go_enter Tryd.func36, Tryd.ntmps36
  go_wp2_with fail
  rw [← hW]
  clear hW
  have i0 := HI.out.cell 0
  have i0 : W.cell? ⟨w.heap.size + 1 + 1, 0, none⟩ = some (.int .i64 24) := i0
  have i1 : W.cell? ⟨w.heap.size + 1 + 1, 1, none⟩ = some (.int .i64 a) := HI.out.cell 1
  have p0 : W.cell? ⟨w.heap.size, 0, none⟩ = some (.slice pA N1 pc) := HP.out.cell 0
  have hs0 := HP.out.lt
  have hs2 := HI.out.lt
  go_quiet ((refine Calls.quiet_of_same (rusesB_is 24 false (by decide) _)))
  obtain ⟨V, hV⟩ : ∃ V, V = W.drewN nq := ⟨_, rfl⟩
  rw [← hV]
  have HBV : Hid (Below w.heap.size w V) := Lib.hid (by rw [hV]; exact below_drewN HB.out nq)
  have HIV : Hid (Blk V (w.heap.size + 1 + 1) 56 #[.int .i64 24, .int .i64 a, .int .i64 b, .int .i64 n]) := Lib.hid (by rw [hV]; exact HI.out.drewN nq)
  clear hV i0 i1 p0 hs0 hs2
  have j0 : V.cell? ⟨w.heap.size + 1 + 1, 0, none⟩ = some (.int .i64 24) := HIV.out.cell 0
  have j1 : V.cell? ⟨w.heap.size + 1 + 1, 1, none⟩ = some (.int .i64 a) := HIV.out.cell 1
  have j2 : V.cell? ⟨w.heap.size + 1 + 1, 2, none⟩ = some (.int .i64 b) := HIV.out.cell 2
  have j3 : V.cell? ⟨w.heap.size + 1 + 1, 3, none⟩ = some (.int .i64 n) := HIV.out.cell 3
  have hsV := HIV.out.lt
  go_wp2_with fail
  refine (rusesA_is 24 true (by decide) _).mono ?_
  rintro e w9 ⟨rfl, rfl⟩
  go_wp2_with fail
  refine (rusesB_is 24 false (by decide) _).mono ?_
  rintro e w9 ⟨rfl, rfl⟩
  cases f2 : b == 0
  · have g2 : (b != 0) = true := by simp [bne, f2]
    go_wp2
    go_ret
    exact ri_of (by rw [HV.out]; simp [hasA, hasB, f2]) HBV.out
  have g2 : (b != 0) = false := by simp [bne, f2]
  cases f4 : n == 0
  · have g4 : (n != 0) = true := by simp [bne, f4]
    go_wp2
    go_ret
    exact ri_of (by rw [HV.out]; simp [hasA, hasB, f2, f4]) HBV.out
  · have g4 : (n != 0) = false := by simp [bne, f4]
    go_wp2
    go_ret
    exact ri_of (by rw [HV.out]; simp [hasA, hasB, f2, f4]) HBV.out
set_option maxRecDepth 100000 in
set_option maxHeartbeats 4000000 in
theorem ri_27 (pA pB mA : Option Addr) (N1 N2 M pc pd mc p l : Nat) (q0 q1 q2 : ByteArray) (a b n : Int) (t : Bool) (w : World) (h0 : q0.size = p) (h1 : q1.size = l) (hmax : p + l ≤ maxLen) (v : Int) (hv : v = if (t && ((hasA 27 || a == 0) && (hasB 27 || b == 0) && (27 == 1 || n == 0))) = true then 0 else 103) (ht : t = (decide (0 ≤ a) && decide (a < (N1 : Int)))) :
    Calls Tryd.prog 36 #[.agg #[.slice pA N1 pc, .slice pB N2 pd], .agg #[.string q0, .string q1, .string q2, .slice mA M mc], .agg #[.int .i64 27, .int .i64 a, .int .i64 b, .int .i64 n]] w (RI w v) := by
  have HV := Lib.hid hv
  have HB : Hid (Below w.heap.size w (((w.alloc (.cells #[.slice pA N1 pc, .slice pB N2 pd] 25)).alloc (.cells #[.string q0, .string q1, .string q2, .slice mA M mc] 54)).alloc (.cells #[.int .i64 27, .int .i64 a, .int .i64 b, .int .i64 n] 56))) := Lib.hid ((((Below.refl _ _).alloc (Nat.le_refl _) _).alloc (by simp) _).alloc (by simp; omega) _)
  have hpm : p ≤ 9223372036854775807 := by unfold maxLen at hmax; omega
  have hlm : l ≤ 9223372036854775807 := by unfold maxLen at hmax; omega
  have hplm : p + l ≤ 9223372036854775807 := by unfold maxLen at hmax; omega
  clear hv hmax
  obtain ⟨W, hW⟩ : ∃ W, W = (((w.alloc (.cells #[.slice pA N1 pc, .slice pB N2 pd] 25)).alloc (.cells #[.string q0, .string q1, .string q2, .slice mA M mc] 54)).alloc (.cells #[.int .i64 27, .int .i64 a, .int .i64 b, .int .i64 n] 56)) := ⟨_, rfl⟩
  rw [← hW] at HB
  have HP : Hid (Blk W w.heap.size 25 #[.slice pA N1 pc, .slice pB N2 pd]) := Lib.hid (by rw [hW]; exact ((Blk.new _ _ _).alloc _).alloc _)
  have HI : Hid (Blk W (w.heap.size + 1 + 1) 56 #[.int .i64 27, .int .i64 a, .int .i64 b, .int .i64 n]) := Lib.hid (by
    rw [hW]
    have := Blk.new ((w.alloc (.cells #[.slice pA N1 pc, .slice pB N2 pd] 25)).alloc (.cells #[.string q0, .string q1, .string q2, .slice mA M mc] 54)) 56 #[.int .i64 27, .int .i64 a, .int .i64 b, .int .i64 n]
    simpa using this)
  by_cases c0 : a < 0
  · have t1 : decide (a < 0) = true := by simpa using c0
    have htf : t = false := by rw [ht]; simp; omega
    subst htf
    clear ht
    go_enter Tryd.func36, Tryd.ntmps36
    go_wp2_with fail
    rw [← hW]
    clear hW
    have i0 := HI.out.cell 0
    have i0 : W.cell? ⟨w.heap.size + 1 + 1, 0, none⟩ = some (.int .i64 27) := i0
    have i1 : W.cell? ⟨w.heap.size + 1 + 1, 1, none⟩ = some (.int .i64 a) := HI.out.cell 1
    have p0 : W.cell? ⟨w.heap.size, 0, none⟩ = some (.slice pA N1 pc) := HP.out.cell 0
    have hs0 := HP.out.lt
    have hs2 := HI.out.lt
    go_quiet ((refine Calls.quiet_of_same (rusesB_is 27 false (by decide) _)))
    obtain ⟨V, hV⟩ : ∃ V, V = W.drewN nq := ⟨_, rfl⟩
    rw [← hV]
    have HBV : Hid (Below w.heap.size w V) := Lib.hid (by rw [hV]; exact below_drewN HB.out nq)
    have HIV : Hid (Blk V (w.heap.size + 1 + 1) 56 #[.int .i64 27, .int .i64 a, .int .i64 b, .int .i64 n]) := Lib.hid (by rw [hV]; exact HI.out.drewN nq)
    clear hV i0 i1 p0 hs0 hs2
    have j0 : V.cell? ⟨w.heap.size + 1 + 1, 0, none⟩ = some (.int .i64 27) := HIV.out.cell 0
    have j1 : V.cell? ⟨w.heap.size + 1 + 1, 1, none⟩ = some (.int .i64 a) := HIV.out.cell 1
    have j2 : V.cell? ⟨w.heap.size + 1 + 1, 2, none⟩ = some (.int .i64 b) := HIV.out.cell 2
    have j3 : V.cell? ⟨w.heap.size + 1 + 1, 3, none⟩ = some (.int .i64 n) := HIV.out.cell 3
    have hsV := HIV.out.lt
    go_wp2
    go_ret
    exact ri_of (by rw [HV.out]; rfl) HBV.out
  have t1 : decide (a < 0) = false := by simpa using c0
  by_cases c1 : (N1 : Int) ≤ a
  · have t2 : decide ((N1 : Int) ≤ a) = true := by simpa using c1
    have t3 : decide (a ≥ (N1 : Int)) = true := by simpa using c1
    have htf : t = false := by rw [ht]; simp; omega
    subst htf
    clear ht
    go_enter Tryd.func36, Tryd.ntmps36
    go_wp2_with fail
    rw [← hW]
    clear hW
    have i0 := HI.out.cell 0
    have i0 : W.cell? ⟨w.heap.size + 1 + 1, 0, none⟩ = some (.int .i64 27) := i0
    have i1 : W.cell? ⟨w.heap.size + 1 + 1, 1, none⟩ = some (.int .i64 a) := HI.out.cell 1
    have p0 : W.cell? ⟨w.heap.size, 0, none⟩ = some (.slice pA N1 pc) := HP.out.cell 0
    have hs0 := HP.out.lt
    have hs2 := HI.out.lt
    go_quiet ((refine Calls.quiet_of_same (rusesB_is 27 false (by decide) _)))
    obtain ⟨V, hV⟩ : ∃ V, V = W.drewN nq := ⟨_, rfl⟩
    rw [← hV]
    have HBV : Hid (Below w.heap.size w V) := Lib.hid (by rw [hV]; exact below_drewN HB.out nq)
    have HIV : Hid (Blk V (w.heap.size + 1 + 1) 56 #[.int .i64 27, .int .i64 a, .int .i64 b, .int .i64 n]) := Lib.hid (by rw [hV]; exact HI.out.drewN nq)
    clear hV i0 i1 p0 hs0 hs2
    have j0 : V.cell? ⟨w.heap.size + 1 + 1, 0, none⟩ = some (.int .i64 27) := HIV.out.cell 0
    have j1 : V.cell? ⟨w.heap.size + 1 + 1, 1, none⟩ = some (.int .i64 a) := HIV.out.cell 1
    have j2 : V.cell? ⟨w.heap.size + 1 + 1, 2, none⟩ = some (.int .i64 b) := HIV.out.cell 2
    have j3 : V.cell? ⟨w.heap.size + 1 + 1, 3, none⟩ = some (.int .i64 n) := HIV.out.cell 3
    have hsV := HIV.out.lt
    go_wp2
    go_ret
    exact ri_of (by rw [HV.out]; rfl) HBV.out
  have t2 : decide ((N1 : Int) ≤ a) = false := by simpa using c1
  have t3 : decide (a ≥ (N1 : Int)) = false := by simpa using c1
  have htt : t = true := by rw [ht]; simp; omega
  subst htt
  clear ht
  go_enter Tryd.func36, Tryd.ntmps36
  go_wp2_with fail
  rw [← hW]
  clear hW
  have i0 := HI.out.cell 0
  have i0 : W.cell? ⟨w.heap.size + 1 + 1, 0, none⟩ = some (.int .i64 27) := i0
  have i1 : W.cell? ⟨w.heap.size + 1 + 1, 1, none⟩ = some (.int .i64 a) := HI.out.cell 1
  have p0 : W.cell? ⟨w.heap.size, 0, none⟩ = some (.slice pA N1 pc) := HP.out.cell 0
  have hs0 := HP.out.lt
  have hs2 := HI.out.lt
  go_quiet ((refine Calls.quiet_of_same (rusesB_is 27 false (by decide) _)))
  obtain ⟨V, hV⟩ : ∃ V, V = W.drewN nq := ⟨_, rfl⟩
  rw [← hV]
  have HBV : Hid (Below w.heap.size w V) := Lib.hid (by rw [hV]; exact below_drewN HB.out nq)
  have HIV : Hid (Blk V (w.heap.size + 1 + 1) 56 #[.int .i64 27, .int .i64 a, .int .i64 b, .int .i64 n]) := Lib.hid (by rw [hV]; exact HI.out.drewN nq)
  clear hV i0 i1 p0 hs0 hs2
  have j0 : V.cell? ⟨w.heap.size + 1 + 1, 0, none⟩ = some (.int .i64 27) := HIV.out.cell 0
  have j1 : V.cell? ⟨w.heap.size + 1 + 1, 1, none⟩ = some (.int .i64 a) := HIV.out.cell 1
  have j2 : V.cell? ⟨w.heap.size + 1 + 1, 2, none⟩ = some (.int .i64 b) := HIV.out.cell 2
  have j3 : V.cell? ⟨w.heap.size + 1 + 1, 3, none⟩ = some (.int .i64 n) := HIV.out.cell 3
  have hsV := HIV.out.lt
  go_wp2_with fail
  refine (rusesA_is 27 true (by decide) _).mono ?_
  rintro e w9 ⟨rfl, rfl⟩
  go_wp2_with fail
  refine (rusesB_is 27 false (by decide) _).mono ?_
  rintro e w9 ⟨rfl, rfl⟩
  cases f2 : b == 0
  · have g2 : (b != 0) = true := by simp [bne, f2]
    go_wp2
    go_ret
    exact ri_of (by rw [HV.out]; simp [hasA, hasB, f2]) HBV.out
  have g2 : (b != 0) = false := by simp [bne, f2]
  cases f4 : n == 0
  · have g4 : (n != 0) = true := by simp [bne, f4]
    go_wp2
    go_ret
    exact ri_of (by rw [HV.out]; simp [hasA, hasB, f2, f4]) HBV.out
  · have g4 : (n != 0) = false := by simp [bne, f4]
    go_wp2
    go_ret
    exact ri_of (by rw [HV.out]; simp [hasA, hasB, f2, f4]) HBV.out
set_option maxRecDepth 100000 in
set_option maxHeartbeats 4000000 in
theorem ri_25_out (pA pB mA : Option Addr) (N1 N2 M pc pd mc p l : Nat) (q0 q1 q2 : ByteArray) (a b n : Int) (t : Bool) (w : World) (h0 : q0.size = p) (h1 : q1.size = l) (hmax : p + l ≤ maxLen) (v : Int) (hv : v = if (t && ((hasA 25 || a == 0) && (hasB 25 || b == 0) && (25 == 1 || n == 0))) = true then 0 else 103) (htf : t = false) (ht : t = (decide (0 ≤ a) && decide (a < (N1 : Int)))) :
    Calls Tryd.prog 36 #[.agg #[.slice pA N1 pc, .slice pB N2 pd], .agg #[.string q0, .string q1, .string q2, .slice mA M mc], .agg #[.int .i64 25, .int .i64 a, .int .i64 b, .int .i64 n]] w (RI w v) := by
  have HV := Lib.hid hv
  have HB : Hid (Below w.heap.size w (((w.alloc (.cells #[.slice pA N1 pc, .slice pB N2 pd] 25)).alloc (.cells #[.string q0, .string q1, .string q2, .slice mA M mc] 54)).alloc (.cells #[.int .i64 25, .int .i64 a, .int .i64 b, .int .i64 n] 56))) := Lib.hid ((((Below.refl _ _).alloc (Nat.le_refl _) _).alloc (by simp) _).alloc (by simp; omega) _)
  have hpm : p ≤ 9223372036854775807 := by unfold maxLen at hmax; omega
  have hlm : l ≤ 9223372036854775807 := by unfold maxLen at hmax; omega
  have hplm : p + l ≤ 9223372036854775807 := by unfold maxLen at hmax; omega
  clear hv hmax
  obtain ⟨W, hW⟩ : ∃ W, W = (((w.alloc (.cells #[.slice pA N1 pc, .slice pB N2 pd] 25)).alloc (.cells #[.string q0, .string q1, .string q2, .slice mA M mc] 54)).alloc (.cells #[.int .i64 25, .int .i64 a, .int .i64 b, .int .i64 n] 56)) := ⟨_, rfl⟩
  rw [← hW] at HB
  have HP : Hid (Blk W w.heap.size 25 #[.slice pA N1 pc, .slice pB N2 pd]) := Lib.hid (by rw [hW]; exact ((Blk.new _ _ _).alloc _).alloc _)
  have HI : Hid (Blk W (w.heap.size + 1 + 1) 56 #[.int .i64 25, .int .i64 a, .int .i64 b, .int .i64 n]) := Lib.hid (by
    rw [hW]
    have := Blk.new ((w.alloc (.cells #[.slice pA N1 pc, .slice pB N2 pd] 25)).alloc (.cells #[.string q0, .string q1, .string q2, .slice mA M mc] 54)) 56 #[.int .i64 25, .int .i64 a, .int .i64 b, .int .i64 n]
    simpa using this)
  by_cases c0 : a < 0
  · have t1 : decide (a < 0) = true := by simpa using c0
    subst htf
    clear ht
    go_enter Tryd.func36, Tryd.ntmps36
    go_wp2_with fail
    rw [← hW]
    clear hW
    have i0 : W.cell? ⟨w.heap.size + 1 + 1, 0, none⟩ = some (.int .i64 25) := HI.out.cell 0
    have i1 : W.cell? ⟨w.heap.size + 1 + 1, 1, none⟩ = some (.int .i64 a) := HI.out.cell 1
    have i2 : W.cell? ⟨w.heap.size + 1 + 1, 2, none⟩ = some (.int .i64 b) := HI.out.cell 2
    have p0 : W.cell? ⟨w.heap.size, 0, none⟩ = some (.slice pA N1 pc) := HP.out.cell 0
    have hs0 := HP.out.lt
    have hs2 := HI.out.lt
    go_quiet ((refine Calls.quiet_of_same (rusesB_is 25 true (by decide) _)))
    obtain ⟨V, hV⟩ : ∃ V, V = W.drewN nq := ⟨_, rfl⟩
    rw [← hV]
    have HBV : Hid (Below w.heap.size w V) := Lib.hid (by rw [hV]; exact below_drewN HB.out nq)
    have HIV : Hid (Blk V (w.heap.size + 1 + 1) 56 #[.int .i64 25, .int .i64 a, .int .i64 b, .int .i64 n]) := Lib.hid (by rw [hV]; exact HI.out.drewN nq)
    clear hV i0 i1 i2 p0 hs0 hs2
    have j0 : V.cell? ⟨w.heap.size + 1 + 1, 0, none⟩ = some (.int .i64 25) := HIV.out.cell 0
    have j1 : V.cell? ⟨w.heap.size + 1 + 1, 1, none⟩ = some (.int .i64 a) := HIV.out.cell 1
    have j2 : V.cell? ⟨w.heap.size + 1 + 1, 2, none⟩ = some (.int .i64 b) := HIV.out.cell 2
    have j3 : V.cell? ⟨w.heap.size + 1 + 1, 3, none⟩ = some (.int .i64 n) := HIV.out.cell 3
    have hsV := HIV.out.lt
    go_wp2
    go_ret
    exact ri_of (by rw [HV.out]; rfl) HBV.out
  have t1 : decide (a < 0) = false := by simpa using c0
  have c1 : (N1 : Int) ≤ a := by rw [htf] at ht; simp at ht; omega
  have t2 : decide ((N1 : Int) ≤ a) = true := by simpa using c1
  have t3 : decide (a ≥ (N1 : Int)) = true := by simpa using c1
  subst htf
  clear ht
  go_enter Tryd.func36, Tryd.ntmps36
  go_wp2_with fail
  rw [← hW]
  clear hW
  have i0 : W.cell? ⟨w.heap.size + 1 + 1, 0, none⟩ = some (.int .i64 25) := HI.out.cell 0
  have i1 : W.cell? ⟨w.heap.size + 1 + 1, 1, none⟩ = some (.int .i64 a) := HI.out.cell 1
  have i2 : W.cell? ⟨w.heap.size + 1 + 1, 2, none⟩ = some (.int .i64 b) := HI.out.cell 2
  have p0 : W.cell? ⟨w.heap.size, 0, none⟩ = some (.slice pA N1 pc) := HP.out.cell 0
  have hs0 := HP.out.lt
  have hs2 := HI.out.lt
  go_quiet ((refine Calls.quiet_of_same (rusesB_is 25 true (by decide) _)))
  obtain ⟨V, hV⟩ : ∃ V, V = W.drewN nq := ⟨_, rfl⟩
  rw [← hV]
  have HBV : Hid (Below w.heap.size w V) := Lib.hid (by rw [hV]; exact below_drewN HB.out nq)
  have HIV : Hid (Blk V (w.heap.size + 1 + 1) 56 #[.int .i64 25, .int .i64 a, .int .i64 b, .int .i64 n]) := Lib.hid (by rw [hV]; exact HI.out.drewN nq)
  clear hV i0 i1 i2 p0 hs0 hs2
  have j0 : V.cell? ⟨w.heap.size + 1 + 1, 0, none⟩ = some (.int .i64 25) := HIV.out.cell 0
  have j1 : V.cell? ⟨w.heap.size + 1 + 1, 1, none⟩ = some (.int .i64 a) := HIV.out.cell 1
  have j2 : V.cell? ⟨w.heap.size + 1 + 1, 2, none⟩ = some (.int .i64 b) := HIV.out.cell 2
  have j3 : V.cell? ⟨w.heap.size + 1 + 1, 3, none⟩ = some (.int .i64 n) := HIV.out.cell 3
  have hsV := HIV.out.lt
  go_wp2
  go_ret
  exact ri_of (by rw [HV.out]; rfl) HBV.out
set_option maxRecDepth 100000 in
set_option maxHeartbeats 4000000 in
theorem ri_25_in (pA pB mA : Option Addr) (N1 N2 M pc pd mc p l : Nat) (q0 q1 q2 : ByteArray) (a b n : Int) (t : Bool) (w : World) (h0 : q0.size = p) (h1 : q1.size = l) (hmax : p + l ≤ maxLen) (v : Int) (hv : v = if (t && ((hasA 25 || a == 0) && (hasB 25 || b == 0) && (25 == 1 || n == 0))) = true then 0 else 103) (k L : Nat) (C : Addr) (q : ByteArray) (hak : a = (k : Int)) (hk : k < N1) (hpA : pA = some C) (hq : q.size = L) (hcb : C.block < w.heap.size) (hcell : w.cell? (C.add k) = some (.string q)) (ht : t = (decide (0 ≤ b) && decide (b < (L : Int)))) :
    Calls Tryd.prog 36 #[.agg #[.slice pA N1 pc, .slice pB N2 pd], .agg #[.string q0, .string q1, .string q2, .slice mA M mc], .agg #[.int .i64 25, .int .i64 a, .int .i64 b, .int .i64 n]] w (RI w v) := by
  have HV := Lib.hid hv
  have HB : Hid (Below w.heap.size w (((w.alloc (.cells #[.slice pA N1 pc, .slice pB N2 pd] 25)).alloc (.cells #[.string q0, .string q1, .string q2, .slice mA M mc] 54)).alloc (.cells #[.int .i64 25, .int .i64 a, .int .i64 b, .int .i64 n] 56))) := Lib.hid ((((Below.refl _ _).alloc (Nat.le_refl _) _).alloc (by simp) _).alloc (by simp; omega) _)
  have hpm : p ≤ 9223372036854775807 := by unfold maxLen at hmax; omega
  have hlm : l ≤ 9223372036854775807 := by unfold maxLen at hmax; omega
  have hplm : p + l ≤ 9223372036854775807 := by unfold maxLen at hmax; omega
  clear hv hmax
  have HCL : Hid (∀ w1, Below w.heap.size w w1 → w1.cell? (C.add k) = some (.string q)) := Lib.hid (fun w1 h1 => (h1.cell (p := C.add k) (by rw [block_of_add]; exact hcb)).trans hcell)
  subst hak hpA
  clear hcell hcb
  obtain ⟨W, hW⟩ : ∃ W, W = (((w.alloc (.cells #[.slice (some C) N1 pc, .slice pB N2 pd] 25)).alloc (.cells #[.string q0, .string q1, .string q2, .slice mA M mc] 54)).alloc (.cells #[.int .i64 25, .int .i64 (k : Int), .int .i64 b, .int .i64 n] 56)) := ⟨_, rfl⟩
  rw [← hW] at HB
  have HP : Hid (Blk W w.heap.size 25 #[.slice (some C) N1 pc, .slice pB N2 pd]) := Lib.hid (by rw [hW]; exact ((Blk.new _ _ _).alloc _).alloc _)
  have HI : Hid (Blk W (w.heap.size + 1 + 1) 56 #[.int .i64 25, .int .i64 (k : Int), .int .i64 b, .int .i64 n]) := Lib.hid (by
    rw [hW]
    have := Blk.new ((w.alloc (.cells #[.slice (some C) N1 pc, .slice pB N2 pd] 25)).alloc (.cells #[.string q0, .string q1, .string q2, .slice mA M mc] 54)) 56 #[.int .i64 25, .int .i64 (k : Int), .int .i64 b, .int .i64 n]
    simpa using this)
  by_cases c0 : b < 0
  · have t1 : decide (b < 0) = true := by simpa using c0
    have htf : t = false := by rw [ht]; simp; omega
    subst htf
    clear ht
    go_enter Tryd.func36, Tryd.ntmps36
    go_wp2_with fail
    rw [← hW]
    clear hW
    have i0 : W.cell? ⟨w.heap.size + 1 + 1, 0, none⟩ = some (.int .i64 25) := HI.out.cell 0
    have i1 : W.cell? ⟨w.heap.size + 1 + 1, 1, none⟩ = some (.int .i64 (k : Int)) := HI.out.cell 1
    have i2 : W.cell? ⟨w.heap.size + 1 + 1, 2, none⟩ = some (.int .i64 b) := HI.out.cell 2
    have p0 : W.cell? ⟨w.heap.size, 0, none⟩ = some (.slice (some C) N1 pc) := HP.out.cell 0
    have hs0 := HP.out.lt
    have hs2 := HI.out.lt
    have hcl := HCL.out _ HB.out
    have hk1 : (k : Int) < (N1 : Int) := by omega
    have hk2 : decide ((N1 : Int) ≤ (k : Int)) = false := by simp; omega
    have hk3 : decide ((k : Int) < 0) = false := by simp
    have hk4 : decide (N1 ≤ k) = false := by simp; omega
    clear HCL
    go_quiet ((refine Calls.quiet_of_same (rusesB_is 25 true (by decide) _)))
    obtain ⟨V, hV⟩ : ∃ V, V = W.drewN nq := ⟨_, rfl⟩
    rw [← hV]
    have HBV : Hid (Below w.heap.size w V) := Lib.hid (by rw [hV]; exact below_drewN HB.out nq)
    have HIV : Hid (Blk V (w.heap.size + 1 + 1) 56 #[.int .i64 25, .int .i64 (k : Int), .int .i64 b, .int .i64 n]) := Lib.hid (by rw [hV]; exact HI.out.drewN nq)
    clear hV i0 i1 i2 p0 hs0 hs2
    have j0 : V.cell? ⟨w.heap.size + 1 + 1, 0, none⟩ = some (.int .i64 25) := HIV.out.cell 0
    have j1 : V.cell? ⟨w.heap.size + 1 + 1, 1, none⟩ = some (.int .i64 (k : Int)) := HIV.out.cell 1
    have j2 : V.cell? ⟨w.heap.size + 1 + 1, 2, none⟩ = some (.int .i64 b) := HIV.out.cell 2
    have j3 : V.cell? ⟨w.heap.size + 1 + 1, 3, none⟩ = some (.int .i64 n) := HIV.out.cell 3
    have hsV := HIV.out.lt
    go_wp2
    go_ret
    exact ri_of (by rw [HV.out]; rfl) HBV.out
  have t1 : decide (b < 0) = false := by simpa using c0
  by_cases c1 : (L : Int) ≤ b
  · have t2 : decide ((L : Int) ≤ b) = true := by simpa using c1
    have t3 : decide (b ≥ (L : Int)) = true := by simpa using c1
    have htf : t = false := by rw [ht]; simp; omega
    subst htf
    clear ht
    go_enter Tryd.func36, Tryd.ntmps36
    go_wp2_with fail
    rw [← hW]
    clear hW
    have i0 : W.cell? ⟨w.heap.size + 1 + 1, 0, none⟩ = some (.int .i64 25) := HI.out.cell 0
    have i1 : W.cell? ⟨w.heap.size + 1 + 1, 1, none⟩ = some (.int .i64 (k : Int)) := HI.out.cell 1
    have i2 : W.cell? ⟨w.heap.size + 1 + 1, 2, none⟩ = some (.int .i64 b) := HI.out.cell 2
    have p0 : W.cell? ⟨w.heap.size, 0, none⟩ = some (.slice (some C) N1 pc) := HP.out.cell 0
    have hs0 := HP.out.lt
    have hs2 := HI.out.lt
    have hcl := HCL.out _ HB.out
    have hk1 : (k : Int) < (N1 : Int) := by omega
    have hk2 : decide ((N1 : Int) ≤ (k : Int)) = false := by simp; omega
    have hk3 : decide ((k : Int) < 0) = false := by simp
    have hk4 : decide (N1 ≤ k) = false := by simp; omega
    clear HCL
    go_quiet ((refine Calls.quiet_of_same (rusesB_is 25 true (by decide) _)))
    obtain ⟨V, hV⟩ : ∃ V, V = W.drewN nq := ⟨_, rfl⟩
    rw [← hV]
    have HBV : Hid (Below w.heap.size w V) := Lib.hid (by rw [hV]; exact below_drewN HB.out nq)
    have HIV : Hid (Blk V (w.heap.size + 1 + 1) 56 #[.int .i64 25, .int .i64 (k : Int), .int .i64 b, .int .i64 n]) := Lib.hid (by rw [hV]; exact HI.out.drewN nq)
    clear hV i0 i1 i2 p0 hs0 hs2
    have j0 : V.cell? ⟨w.heap.size + 1 + 1, 0, none⟩ = some (.int .i64 25) := HIV.out.cell 0
    have j1 : V.cell? ⟨w.heap.size + 1 + 1, 1, none⟩ = some (.int .i64 (k : Int)) := HIV.out.cell 1
    have j2 : V.cell? ⟨w.heap.size + 1 + 1, 2, none⟩ = some (.int .i64 b) := HIV.out.cell 2
    have j3 : V.cell? ⟨w.heap.size + 1 + 1, 3, none⟩ = some (.int .i64 n) := HIV.out.cell 3
    have hsV := HIV.out.lt
    go_wp2
    go_ret
    exact ri_of (by rw [HV.out]; rfl) HBV.out
  have t2 : decide ((L : Int) ≤ b) = false := by simpa using c1
  have t3 : decide (b ≥ (L : Int)) = false := by simpa using c1
  have htt : t = true := by rw [ht]; simp; omega
  subst htt
  clear ht
  go_enter Tryd.func36, Tryd.ntmps36
  go_wp2_with fail
  rw [← hW]
  clear hW
  have i0 : W.cell? ⟨w.heap.size + 1 + 1, 0, none⟩ = some (.int .i64 25) := HI.out.cell 0
  have i1 : W.cell? ⟨w.heap.size + 1 + 1, 1, none⟩ = some (.int .i64 (k : Int)) := HI.out.cell 1
  have i2 : W.cell? ⟨w.heap.size + 1 + 1, 2, none⟩ = some (.int .i64 b) := HI.out.cell 2
  have p0 : W.cell? ⟨w.heap.size, 0, none⟩ = some (.slice (some C) N1 pc) := HP.out.cell 0
  have hs0 := HP.out.lt
  have hs2 := HI.out.lt
  have hcl := HCL.out _ HB.out
  have hk1 : (k : Int) < (N1 : Int) := by omega
  have hk2 : decide ((N1 : Int) ≤ (k : Int)) = false := by simp; omega
  have hk3 : decide ((k : Int) < 0) = false := by simp
  have hk4 : decide (N1 ≤ k) = false := by simp; omega
  clear HCL
  go_quiet ((refine Calls.quiet_of_same (rusesB_is 25 true (by decide) _)))
  obtain ⟨V, hV⟩ : ∃ V, V = W.drewN nq := ⟨_, rfl⟩
  rw [← hV]
  have HBV : Hid (Below w.heap.size w V) := Lib.hid (by rw [hV]; exact below_drewN HB.out nq)
  have HIV : Hid (Blk V (w.heap.size + 1 + 1) 56 #[.int .i64 25, .int .i64 (k : Int), .int .i64 b, .int .i64 n]) := Lib.hid (by rw [hV]; exact HI.out.drewN nq)
  clear hV i0 i1 i2 p0 hs0 hs2
  have j0 : V.cell? ⟨w.heap.size + 1 + 1, 0, none⟩ = some (.int .i64 25) := HIV.out.cell 0
  have j1 : V.cell? ⟨w.heap.size + 1 + 1, 1, none⟩ = some (.int .i64 (k : Int)) := HIV.out.cell 1
  have j2 : V.cell? ⟨w.heap.size + 1 + 1, 2, none⟩ = some (.int .i64 b) := HIV.out.cell 2
  have j3 : V.cell? ⟨w.heap.size + 1 + 1, 3, none⟩ = some (.int .i64 n) := HIV.out.cell 3
  have hsV := HIV.out.lt
  go_wp2_with fail
  refine (rusesA_is 25 true (by decide) _).mono ?_
  rintro e w9 ⟨rfl, rfl⟩
  go_wp2_with fail
  refine (rusesB_is 25 true (by decide) _).mono ?_
  rintro e w9 ⟨rfl, rfl⟩
  have f2 : True := trivial
  cases f4 : n == 0
  · have g4 : (n != 0) = true := by simp [bne, f4]
    go_wp2
    go_ret
    exact ri_of (by rw [HV.out]; simp [hasA, hasB, f4]) HBV.out
  · have g4 : (n != 0) = false := by simp [bne, f4]
    go_wp2
    go_ret
    exact ri_of (by rw [HV.out]; simp [hasA, hasB, f4]) HBV.out
set_option maxRecDepth 100000 in
set_option maxHeartbeats 4000000 in
theorem ri_26_out (pA pB mA : Option Addr) (N1 N2 M pc pd mc p l : Nat) (q0 q1 q2 : ByteArray) (a b n : Int) (t : Bool) (w : World) (h0 : q0.size = p) (h1 : q1.size = l) (hmax : p + l ≤ maxLen) (v : Int) (hv : v = if (t && ((hasA 26 || a == 0) && (hasB 26 || b == 0) && (26 == 1 || n == 0))) = true then 0 else 103) (htf : t = false) (ht : t = (decide (0 ≤ a) && decide (a < (N1 : Int)))) :
    Calls Tryd.prog 36 #[.agg #[.slice pA N1 pc, .slice pB N2 pd], .agg #[.string q0, .string q1, .string q2, .slice mA M mc], .agg #[.int .i64 26, .int .i64 a, .int .i64 b, .int .i64 n]] w (RI w v) := by
  have HV := Lib.hid hv
  have HB : Hid (Below w.heap.size w (((w.alloc (.cells #[.slice pA N1 pc, .slice pB N2 pd] 25)).alloc (.cells #[.string q0, .string q1, .string q2, .slice mA M mc] 54)).alloc (.cells #[.int .i64 26, .int .i64 a, .int .i64 b, .int .i64 n] 56))) := Lib.hid ((((Below.refl _ _).alloc (Nat.le_refl _) _).alloc (by simp) _).alloc (by simp; omega) _)
  have hpm : p ≤ 9223372036854775807 := by unfold maxLen at hmax; omega
  have hlm : l ≤ 9223372036854775807 := by unfold maxLen at hmax; omega
  have hplm : p + l ≤ 9223372036854775807 := by unfold maxLen at hmax; omega
  clear hv hmax
  obtain ⟨W, hW⟩ : ∃ W, W = (((w.alloc (.cells #[.slice pA N1 pc, .slice pB N2 pd] 25)).alloc (.cells #[.string q0, .string q1, .string q2, .slice mA M mc] 54)).alloc (.cells #[.int .i64 26, .int .i64 a, .int .i64 b, .int .i64 n] 56)) := ⟨_, rfl⟩
  rw [← hW] at HB
  have HP : Hid (Blk W w.heap.size 25 #[.slice pA N1 pc, .slice pB N2 pd]) := Lib.hid (by rw [hW]; exact ((Blk.new _ _ _).alloc _).alloc _)
  have HI : Hid (Blk W (w.heap.size + 1 + 1) 56 #[.int .i64 26, .int .i64 a, .int .i64 b, .int .i64 n]) := Lib.hid (by
    rw [hW]
    have := Blk.new ((w.alloc (.cells #[.slice pA N1 pc, .slice pB N2 pd] 25)).alloc (.cells #[.string q0, .string q1, .string q2, .slice mA M mc] 54)) 56 #[.int .i64 26, .int .i64 a, .int .i64 b, .int .i64 n]
    simpa using this)
  by_cases c0 : a < 0
  · have t1 : decide (a < 0) = true := by simpa using c0
    subst htf
    clear ht
    go_enter Tryd.func36, Tryd.ntmps36
    go_wp2_with fail
    rw [← hW]
    clear hW
    have i0 : W.cell? ⟨w.heap.size + 1 + 1, 0, none⟩ = some (.int .i64 26) := HI.out.cell 0
    have i1 : W.cell? ⟨w.heap.size + 1 + 1, 1, none⟩ = some (.int .i64 a) := HI.out.cell 1
    have i2 : W.cell? ⟨w.heap.size + 1 + 1, 2, none⟩ = some (.int .i64 b) := HI.out.cell 2
    have p0 : W.cell? ⟨w.heap.size, 0, none⟩ = some (.slice pA N1 pc) := HP.out.cell 0
    have hs0 := HP.out.lt
    have hs2 := HI.out.lt
    go_quiet ((refine Calls.quiet_of_same (rusesB_is 26 true (by decide) _)))
    obtain ⟨V, hV⟩ : ∃ V, V = W.drewN nq := ⟨_, rfl⟩
    rw [← hV]
    have HBV : Hid (Below w.heap.size w V) := Lib.hid (by rw [hV]; exact below_drewN HB.out nq)
    have HIV : Hid (Blk V (w.heap.size + 1 + 1) 56 #[.int .i64 26, .int .i64 a, .int .i64 b, .int .i64 n]) := Lib.hid (by rw [hV]; exact HI.out.drewN nq)
    clear hV i0 i1 i2 p0 hs0 hs2
    have j0 : V.cell? ⟨w.heap.size + 1 + 1, 0, none⟩ = some (.int .i64 26) := HIV.out.cell 0
    have j1 : V.cell? ⟨w.heap.size + 1 + 1, 1, none⟩ = some (.int .i64 a) := HIV.out.cell 1
    have j2 : V.cell? ⟨w.heap.size + 1 + 1, 2, none⟩ = some (.int .i64 b) := HIV.out.cell 2
    have j3 : V.cell? ⟨w.heap.size + 1 + 1, 3, none⟩ = some (.int .i64 n) := HIV.out.cell 3
    have hsV := HIV.out.lt
    go_wp2
    go_ret
    exact ri_of (by rw [HV.out]; rfl) HBV.out
  have t1 : decide (a < 0) = false := by simpa using c0
  have c1 : (N1 : Int) ≤ a := by rw [htf] at ht; simp at ht; omega
  have t2 : decide ((N1 : Int) ≤ a) = true := by simpa using c1
  have t3 : decide (a ≥ (N1 : Int)) = true := by simpa using c1
  subst htf
  clear ht
  go_enter Tryd.func36, Tryd.ntmps36
  go_wp2_with fail
  rw [← hW]
  clear hW
  have i0 : W.cell? ⟨w.heap.size + 1 + 1, 0, none⟩ = some (.int .i64 26) := HI.out.cell 0
  have i1 : W.cell? ⟨w.heap.size + 1 + 1, 1, none⟩ = some (.int .i64 a) := HI.out.cell 1
  have i2 : W.cell? ⟨w.heap.size + 1 + 1, 2, none⟩ = some (.int .i64 b) := HI.out.cell 2
  have p0 : W.cell? ⟨w.heap.size, 0, none⟩ = some (.slice pA N1 pc) := HP.out.cell 0
  have hs0 := HP.out.lt
  have hs2 := HI.out.lt
  go_quiet ((refine Calls.quiet_of_same (rusesB_is 26 true (by decide) _)))
  obtain ⟨V, hV⟩ : ∃ V, V = W.drewN nq := ⟨_, rfl⟩
  rw [← hV]
  have HBV : Hid (Below w.heap.size w V) := Lib.hid (by rw [hV]; exact below_drewN HB.out nq)
  have HIV : Hid (Blk V (w.heap.size + 1 + 1) 56 #[.int .i64 26, .int .i64 a, .int .i64 b, .int .i64 n]) := Lib.hid (by rw [hV]; exact HI.out.drewN nq)
  clear hV i0 i1 i2 p0 hs0 hs2
  have j0 : V.cell? ⟨w.heap.size + 1 + 1, 0, none⟩ = some (.int .i64 26) := HIV.out.cell 0
  have j1 : V.cell? ⟨w.heap.size + 1 + 1, 1, none⟩ = some (.int .i64 a) := HIV.out.cell 1
  have j2 : V.cell? ⟨w.heap.size + 1 + 1, 2, none⟩ = some (.int .i64 b) := HIV.out.cell 2
  have j3 : V.cell? ⟨w.heap.size + 1 + 1, 3, none⟩ = some (.int .i64 n) := HIV.out.cell 3
  have hsV := HIV.out.lt
  go_wp2
  go_ret
  exact ri_of (by rw [HV.out]; rfl) HBV.out
set_option maxRecDepth 100000 in
set_option maxHeartbeats 4000000 in
theorem ri_26_in (pA pB mA : Option Addr) (N1 N2 M pc pd mc p l : Nat) (q0 q1 q2 : ByteArray) (a b n : Int) (t : Bool) (w : World) (h0 : q0.size = p) (h1 : q1.size = l) (hmax : p + l ≤ maxLen) (v : Int) (hv : v = if (t && ((hasA 26 || a == 0) && (hasB 26 || b == 0) && (26 == 1 || n == 0))) = true then 0 else 103) (k L : Nat) (C : Addr) (q : ByteArray) (hak : a = (k : Int)) (hk : k < N1) (hpA : pA = some C) (hq : q.size = L) (hcb : C.block < w.heap.size) (hcell : w.cell? (C.add k) = some (.string q)) (ht : t = (decide (0 ≤ b) && decide (b < (L : Int)))) :
    Calls Tryd.prog 36 #[.agg #[.slice pA N1 pc, .slice pB N2 pd], .agg #[.string q0, .string q1, .string q2, .slice mA M mc], .agg #[.int .i64 26, .int .i64 a, .int .i64 b, .int .i64 n]] w (RI w v) := by
  have HV := Lib.hid hv
  have HB : Hid (Below w.heap.size w (((w.alloc (.cells #[.slice pA N1 pc, .slice pB N2 pd] 25)).alloc (.cells #[.string q0, .string q1, .string q2, .slice mA M mc] 54)).alloc (.cells #[.int .i64 26, .int .i64 a, .int .i64 b, .int .i64 n] 56))) := Lib.hid ((((Below.refl _ _).alloc (Nat.le_refl _) _).alloc (by simp) _).alloc (by simp; omega) _)
  have hpm : p ≤ 9223372036854775807 := by unfold maxLen at hmax; omega
  have hlm : l ≤ 9223372036854775807 := by unfold maxLen at hmax; omega
  have hplm : p + l ≤ 9223372036854775807 := by unfold maxLen at hmax; omega
  clear hv hmax
  have HCL : Hid (∀ w1, Below w.heap.size w w1 → w1.cell? (C.add k) = some (.string q)) := Lib.hid (fun w1 h1 => (h1.cell (p := C.add k) (by rw [block_of_add]; exact hcb)).trans hcell)
  subst hak hpA
  clear hcell hcb
  obtain ⟨W, hW⟩ : ∃ W, W = (((w.alloc (.cells #[.slice (some C) N1 pc, .slice pB N2 pd] 25)).alloc (.cells #[.string q0, .string q1, .string q2, .slice mA M mc] 54)).alloc (.cells #[.int .i64 26, .int .i64 (k : Int), .int .i64 b, .int .i64 n] 56)) := ⟨_, rfl⟩
  rw [← hW] at HB
  have HP : Hid (Blk W w.heap.size 25 #[.slice (some C) N1 pc, .slice pB N2 pd]) := Lib.hid (by rw [hW]; exact ((Blk.new _ _ _).alloc _).alloc _)
  have HI : Hid (Blk W (w.heap.size + 1 + 1) 56 #[.int .i64 26, .int .i64 (k : Int), .int .i64 b, .int .i64 n]) := Lib.hid (by
    rw [hW]
    have := Blk.new ((w.alloc (.cells #[.slice (some C) N1 pc, .slice pB N2 pd] 25)).alloc (.cells #[.string q0, .string q1, .string q2, .slice mA M mc] 54)) 56 #[.int .i64 26, .int .i64 (k : Int), .int .i64 b, .int .i64 n]
    simpa using this)
  by_cases c0 : b < 0
  · have t1 : decide (b < 0) = true := by simpa using c0
    have htf : t = false := by rw [ht]; simp; omega
    subst htf
    clear ht
    go_enter Tryd.func36, Tryd.ntmps36
    go_wp2_with fail
    rw [← hW]
    clear hW
    have i0 : W.cell? ⟨w.heap.size + 1 + 1, 0, none⟩ = some (.int .i64 26) := HI.out.cell 0
    have i1 : W.cell? ⟨w.heap.size + 1 + 1, 1, none⟩ = some (.int .i64 (k : Int)) := HI.out.cell 1
    have i2 : W.cell? ⟨w.heap.size + 1 + 1, 2, none⟩ = some (.int .i64 b) := HI.out.cell 2
    have p0 : W.cell? ⟨w.heap.size, 0, none⟩ = some (.slice (some C) N1 pc) := HP.out.cell 0
    have hs0 := HP.out.lt
    have hs2 := HI.out.lt
    have hcl := HCL.out _ HB.out
    have hk1 : (k : Int) < (N1 : Int) := by omega
    have hk2 : decide ((N1 : Int) ≤ (k : Int)) = false := by simp; omega
    have hk3 : decide ((k : Int) < 0) = false := by simp
    have hk4 : decide (N1 ≤ k) = false := by simp; omega
    clear HCL
    go_quiet ((refine Calls.quiet_of_same (rusesB_is 26 true (by decide) _)))
    obtain ⟨V, hV⟩ : ∃ V, V = W.drewN nq := ⟨_, rfl⟩
    rw [← hV]
    have HBV : Hid (Below w.heap.size w V) := Lib.hid (by rw [hV]; exact below_drewN HB.out nq)
    have HIV : Hid (Blk V (w.heap.size + 1 + 1) 56 #[.int .i64 26, .int .i64 (k : Int), .int .i64 b, .int .i64 n]) := Lib.hid (by rw [hV]; exact HI.out.drewN nq)
    clear hV i0 i1 i2 p0 hs0 hs2
    have j0 : V.cell? ⟨w.heap.size + 1 + 1, 0, none⟩ = some (.int .i64 26) := HIV.out.cell 0
    have j1 : V.cell? ⟨w.heap.size + 1 + 1, 1, none⟩ = some (.int .i64 (k : Int)) := HIV.out.cell 1
    have j2 : V.cell? ⟨w.heap.size + 1 + 1, 2, none⟩ = some (.int .i64 b) := HIV.out.cell 2
    have j3 : V.cell? ⟨w.heap.size + 1 + 1, 3, none⟩ = some (.int .i64 n) := HIV.out.cell 3
    have hsV := HIV.out.lt
    go_wp2
    go_ret
    exact ri_of (by rw [HV.out]; rfl) HBV.out
  have t1 : decide (b < 0) = false := by simpa using c0
  by_cases c1 : (L : Int) ≤ b
  · have t2 : decide ((L : Int) ≤ b) = true := by simpa using c1
    have t3 : decide (b ≥ (L : Int)) = true := by simpa using c1
    have htf : t = false := by rw [ht]; simp; omega
    subst htf
    clear ht
    go_enter Tryd.func36, Tryd.ntmps36
    go_wp2_with fail
    rw [← hW]
    clear hW
    have i0 : W.cell? ⟨w.heap.size + 1 + 1, 0, none⟩ = some (.int .i64 26) := HI.out.cell 0
    have i1 : W.cell? ⟨w.heap.size + 1 + 1, 1, none⟩ = some (.int .i64 (k : Int)) := HI.out.cell 1
    have i2 : W.cell? ⟨w.heap.size + 1 + 1, 2, none⟩ = some (.int .i64 b) := HI.out.cell 2
    have p0 : W.cell? ⟨w.heap.size, 0, none⟩ = some (.slice (some C) N1 pc) := HP.out.cell 0
    have hs0 := HP.out.lt
    have hs2 := HI.out.lt
    have hcl := HCL.out _ HB.out
    have hk1 : (k : Int) < (N1 : Int) := by omega
    have hk2 : decide ((N1 : Int) ≤ (k : Int)) = false := by simp; omega
    have hk3 : decide ((k : Int) < 0) = false := by simp
    have hk4 : decide (N1 ≤ k) = false := by simp; omega
    clear HCL
    go_quiet ((refine Calls.quiet_of_same (rusesB_is 26 true (by decide) _)))
    obtain ⟨V, hV⟩ : ∃ V, V = W.drewN nq := ⟨_, rfl⟩
    rw [← hV]
    have HBV : Hid (Below w.heap.size w V) := Lib.hid (by rw [hV]; exact below_drewN HB.out nq)
    have HIV : Hid (Blk V (w.heap.size + 1 + 1) 56 #[.int .i64 26, .int .i64 (k : Int), .int .i64 b, .int .i64 n]) := Lib.hid (by rw [hV]; exact HI.out.drewN nq)
    clear hV i0 i1 i2 p0 hs0 hs2
    have j0 : V.cell? ⟨w.heap.size + 1 + 1, 0, none⟩ = some (.int .i64 26) := HIV.out.cell 0
    have j1 : V.cell? ⟨w.heap.size + 1 + 1, 1, none⟩ = some (.int .i64 (k : Int)) := HIV.out.cell 1
    have j2 : V.cell? ⟨w.heap.size + 1 + 1, 2, none⟩ = some (.int .i64 b) := HIV.out.cell 2
    have j3 : V.cell? ⟨w.heap.size + 1 + 1, 3, none⟩ = some (.int .i64 n) := HIV.out.cell 3
    have hsV := HIV.out.lt
    go_wp2
    go_ret
    exact ri_of (by rw [HV.out]; rfl) HBV.out
  have t2 : decide ((L : Int) ≤ b) = false := by simpa using c1
  have t3 : decide (b ≥ (L : Int)) = false := by simpa using c1
  have htt : t = true := by rw [ht]; simp; omega
  subst htt
  clear ht
  go_enter Tryd.func36, Tryd.ntmps36
  go_wp2_with fail
  rw [← hW]
  clear hW
  have i0 : W.cell? ⟨w.heap.size + 1 + 1, 0, none⟩ = some (.int .i64 26) := HI.out.cell 0
  have i1 : W.cell? ⟨w.heap.size + 1 + 1, 1, none⟩ = some (.int .i64 (k : Int)) := HI.out.cell 1
  have i2 : W.cell? ⟨w.heap.size + 1 + 1, 2, none⟩ = some (.int .i64 b) := HI.out.cell 2
  have p0 : W.cell? ⟨w.heap.size, 0, none⟩ = some (.slice (some C) N1 pc) := HP.out.cell 0
  have hs0 := HP.out.lt
  have hs2 := HI.out.lt
  have hcl := HCL.out _ HB.out
  have hk1 : (k : Int) < (N1 : Int) := by omega
  have hk2 : decide ((N1 : Int) ≤ (k : Int)) = false := by simp; omega
  have hk3 : decide ((k : Int) < 0) = false := by simp
  have hk4 : decide (N1 ≤ k) = false := by simp; omega
  clear HCL
  go_quiet ((refine Calls.quiet_of_same (rusesB_is 26 true (by decide) _)))
  obtain ⟨V, hV⟩ : ∃ V, V = W.drewN nq := ⟨_, rfl⟩
  rw [← hV]
  have HBV : Hid (Below w.heap.size w V) := Lib.hid (by rw [hV]; exact below_drewN HB.out nq)
  have HIV : Hid (Blk V (w.heap.size + 1 + 1) 56 #[.int .i64 26, .int .i64 (k : Int), .int .i64 b, .int .i64 n]) := Lib.hid (by rw [hV]; exact HI.out.drewN nq)
  clear hV i0 i1 i2 p0 hs0 hs2
  have j0 : V.cell? ⟨w.heap.size + 1 + 1, 0, none⟩ = some (.int .i64 26) := HIV.out.cell 0
  have j1 : V.cell? ⟨w.heap.size + 1 + 1, 1, none⟩ = some (.int .i64 (k : Int)) := HIV.out.cell 1
  have j2 : V.cell? ⟨w.heap.size + 1 + 1, 2, none⟩ = some (.int .i64 b) := HIV.out.cell 2
  have j3 : V.cell? ⟨w.heap.size + 1 + 1, 3, none⟩ = some (.int .i64 n) := HIV.out.cell 3
  have hsV := HIV.out.lt
  go_wp2_with fail
  refine (rusesA_is 26 true (by decide) _).mono ?_
  rintro e w9 ⟨rfl, rfl⟩
  go_wp2_with fail
  refine (rusesB_is 26 true (by decide) _).mono ?_
  rintro e w9 ⟨rfl, rfl⟩
  have f2 : True := trivial
  cases f4 : n == 0
  · have g4 : (n != 0) = true := by simp [bne, f4]
    go_wp2
    go_ret
    exact ri_of (by rw [HV.out]; simp [hasA, hasB, f4]) HBV.out
  · have g4 : (n != 0) = false := by simp [bne, f4]
    go_wp2
    go_ret
    exact ri_of (by rw [HV.out]; simp [hasA, hasB, f4]) HBV.out
end Go.Proofs.YtnojejplckhifaaDoor
