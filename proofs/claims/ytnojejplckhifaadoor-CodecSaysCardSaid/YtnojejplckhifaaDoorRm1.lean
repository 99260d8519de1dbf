/- The document's programs: the contracts of overdriveref.There, overdriveref3.letters, UsesA, UsesB. -/
import Derived.Test.YtnojejplckhifaaDoorFlt
namespace Go.Proofs.YtnojejplckhifaaDoor
open Go.RowKit
set_option linter.unusedVariables false

theorem there_any (c p p' : Int) (w : World) : Calls Tryd.prog 34 #[.int .i64 c, .int .i64 p, .int .i64 p'] w (PlPost2 w c p p') := by
  go_enter Tryd.func34, Tryd.ntmps34
  go_wp2
  refine bodyPost_ret (v := fV c (.slice (some ⟨w.heap.size + 1, 0, none⟩) 2 2)) (by simp [results, Tryd.results34, go_sem, fV]) rfl ⟨w.heap.size + 1, rfl, by omega, ?_, ((Below.refl _ _).alloc (Nat.le_refl _) _).alloc (by simp) _⟩
  have := Blk.new (w.alloc (Obj.cells #[Value.int IntKind.i64 c, Value.slice (some { block := w.heap.size + 1, off := 0 }) 2 2] 35)) 3 #[Value.int IntKind.i64 p, Value.int IntKind.i64 p']
  simpa using this
set_option maxRecDepth 100000 in
theorem rusesB_any (op : Int) (w : World) : Calls Tryd.prog 40 #[.int .i64 op] w fun e w' => e = .returned (.bool (hasB op)) ∧ w = w' := by
  unfold hasB
  cases h1 : op == 25
  · go_enter Tryd.func40, Tryd.ntmps40
    go_wp2
    go_ret
    exact ⟨rfl, rfl⟩
  · go_enter Tryd.func40, Tryd.ntmps40
    go_wp2
    go_ret
    exact ⟨rfl, rfl⟩
set_option maxRecDepth 100000 in
set_option maxHeartbeats 1000000 in
theorem rusesA_no (op : Int) (w : World) (h3 : (op == 3) = false) (h4 : (op == 4) = false) (h22 : (op == 22) = false) (h23 : (op == 23) = false) (h24 : (op == 24) = false) (h25 : (op == 25) = false) (h26 : (op == 26) = false) (h27 : (op == 27) = false) (h28 : (op == 28) = false) (h29 : (op == 29) = false) (h30 : (op == 30) = false) (h32 : (op == 32) = false) :
    Calls Tryd.prog 39 #[.int .i64 op] w fun e w' => e = .returned (.bool false) ∧ w = w' := by
  go_enter Tryd.func39, Tryd.ntmps39
  go_wp2
  go_ret
  exact ⟨rfl, rfl⟩
set_option maxRecDepth 100000 in
set_option maxHeartbeats 1000000 in
theorem rusesA_3 (w : World) : Calls Tryd.prog 39 #[.int .i64 3] w fun e w' => e = .returned (.bool true) ∧ w = w' := by
  go_enter Tryd.func39, Tryd.ntmps39
  go_wp2
  go_ret
  exact ⟨rfl, rfl⟩
set_option maxRecDepth 100000 in
set_option maxHeartbeats 1000000 in
theorem rusesA_4 (w : World) : Calls Tryd.prog 39 #[.int .i64 4] w fun e w' => e = .returned (.bool true) ∧ w = w' := by
  go_enter Tryd.func39, Tryd.ntmps39
  go_wp2
  go_ret
  exact ⟨rfl, rfl⟩
set_option maxRecDepth 100000 in
set_option maxHeartbeats 1000000 in
theorem rusesA_22 (w : World) : Calls Tryd.prog 39 #[.int .i64 22] w fun e w' => e = .returned (.bool true) ∧ w = w' := by
  go_enter Tryd.func39, Tryd.ntmps39
  go_wp2
  go_ret
  exact ⟨rfl, rfl⟩
set_option maxRecDepth 100000 in
set_option maxHeartbeats 1000000 in
theorem rusesA_23 (w : World) : Calls Tryd.prog 39 #[.int .i64 23] w fun e w' => e = .returned (.bool true) ∧ w = w' := by
  go_enter Tryd.func39, Tryd.ntmps39
  go_wp2
  go_ret
  exact ⟨rfl, rfl⟩
set_option maxRecDepth 100000 in
set_option maxHeartbeats 1000000 in
theorem rusesA_24 (w : World) : Calls Tryd.prog 39 #[.int .i64 24] w fun e w' => e = .returned (.bool true) ∧ w = w' := by
  go_enter Tryd.func39, Tryd.ntmps39
  go_wp2
  go_ret
  exact ⟨rfl, rfl⟩
set_option maxRecDepth 100000 in
set_option maxHeartbeats 1000000 in
theorem rusesA_25 (w : World) : Calls Tryd.prog 39 #[.int .i64 25] w fun e w' => e = .returned (.bool true) ∧ w = w' := by
  go_enter Tryd.func39, Tryd.ntmps39
  go_wp2
  go_ret
  exact ⟨rfl, rfl⟩
set_option maxRecDepth 100000 in
set_option maxHeartbeats 1000000 in
theorem rusesA_26 (w : World) : Calls Tryd.prog 39 #[.int .i64 26] w fun e w' => e = .returned (.bool true) ∧ w = w' := by
  go_enter Tryd.func39, Tryd.ntmps39
  go_wp2
  go_ret
  exact ⟨rfl, rfl⟩
set_option maxRecDepth 100000 in
set_option maxHeartbeats 1000000 in
theorem rusesA_27 (w : World) : Calls Tryd.prog 39 #[.int .i64 27] w fun e w' => e = .returned (.bool true) ∧ w = w' := by
  go_enter Tryd.func39, Tryd.ntmps39
  go_wp2
  go_ret
  exact ⟨rfl, rfl⟩
set_option maxRecDepth 100000 in
set_option maxHeartbeats 1000000 in
theorem rusesA_28 (w : World) : Calls Tryd.prog 39 #[.int .i64 28] w fun e w' => e = .returned (.bool true) ∧ w = w' := by
  go_enter Tryd.func39, Tryd.ntmps39
  go_wp2
  go_ret
  exact ⟨rfl, rfl⟩
set_option maxRecDepth 100000 in
set_option maxHeartbeats 1000000 in
theorem rusesA_29 (w : World) : Calls Tryd.prog 39 #[.int .i64 29] w fun e w' => e = .returned (.bool true) ∧ w = w' := by
  go_enter Tryd.func39, Tryd.ntmps39
  go_wp2
  go_ret
  exact ⟨rfl, rfl⟩
set_option maxRecDepth 100000 in
set_option maxHeartbeats 1000000 in
theorem rusesA_30 (w : World) : Calls Tryd.prog 39 #[.int .i64 30] w fun e w' => e = .returned (.bool true) ∧ w = w' := by
  go_enter Tryd.func39, Tryd.ntmps39
  go_wp2
  go_ret
  exact ⟨rfl, rfl⟩
set_option maxRecDepth 100000 in
set_option maxHeartbeats 1000000 in
theorem rusesA_32 (w : World) : Calls Tryd.prog 39 #[.int .i64 32] w fun e w' => e = .returned (.bool true) ∧ w = w' := by
  go_enter Tryd.func39, Tryd.ntmps39
  go_wp2
  go_ret
  exact ⟨rfl, rfl⟩
theorem rusesA_any (op : Int) (w : World) : Calls Tryd.prog 39 #[.int .i64 op] w fun e w' => e = .returned (.bool (hasA op)) ∧ w = w' := by
  by_cases h3 : op = 3
  · subst h3; exact rusesA_3 w
  by_cases h4 : op = 4
  · subst h4; exact rusesA_4 w
  by_cases h22 : op = 22
  · subst h22; exact rusesA_22 w
  by_cases h23 : op = 23
  · subst h23; exact rusesA_23 w
  by_cases h24 : op = 24
  · subst h24; exact rusesA_24 w
  by_cases h25 : op = 25
  · subst h25; exact rusesA_25 w
  by_cases h26 : op = 26
  · subst h26; exact rusesA_26 w
  by_cases h27 : op = 27
  · subst h27; exact rusesA_27 w
  by_cases h28 : op = 28
  · subst h28; exact rusesA_28 w
  by_cases h29 : op = 29
  · subst h29; exact rusesA_29 w
  by_cases h30 : op = 30
  · subst h30; exact rusesA_30 w
  by_cases h32 : op = 32
  · subst h32; exact rusesA_32 w
  have e : hasA op = false := by simp [hasA, *]
  rw [e]
  exact rusesA_no op w (by simpa using h3) (by simpa using h4) (by simpa using h22) (by simpa using h23) (by simpa using h24) (by simpa using h25) (by simpa using h26) (by simpa using h27) (by simpa using h28) (by simpa using h29) (by simpa using h30) (by simpa using h32)
def RlRel (s : List UInt8) (si : Value) : Prop := ∃ k : Nat, k ≤ s.length ∧ si = .int .i64 (k : Int) ∧ lettersB s = lettersB (s.drop k)
theorem u8_eq {c : UInt8} {n : Nat} (hn : n < 256) : (c == UInt8.ofNat n) = decide (c.toNat = n) := by
  rw [Bool.eq_iff_iff]
  simp only [beq_iff_eq, decide_eq_true_eq]
  constructor
  · rintro rfl; simp; omega
  · intro h; apply UInt8.toNat_inj.1; rw [h]; simp; omega
set_option maxRecDepth 100000 in
set_option maxHeartbeats 1000000 in
theorem rletters_any (q : ByteArray) (s : List UInt8) (hq : q.toList = s) (hm : s.length ≤ maxLen) (w : World) : Calls Tryd.prog 35 #[.string q] w (BPost w (lettersB s)) := by
  have hs : q.size = s.length := by rw [← hq]; simp [ByteArray.toList_eq]
  obtain ⟨n, hn⟩ : ∃ n, n = s.length := ⟨_, rfl⟩
  rw [← hn] at hs hm
  have hn62 : n ≤ 9223372036854775807 := by unfold maxLen at hm; omega
  clear hm
  have HN := Lib.hid hn
  have HQ := Lib.hid hq
  clear hn hq
  go_enter Tryd.func35, Tryd.ntmps35
  go_wp2
  go_loop [3] (fun si => RlRel s si) (fun si => n - (intOf si).toNat)
  case atStart => exact ⟨0, Nat.zero_le _, rfl, rfl⟩
  case round =>
    obtain ⟨k, hk, rfl, hl⟩ := hrel
    have HL := Lib.hid hl
    have hkn : k ≤ n := by have := HN.out; omega
    clear hk hl
    by_cases hlt : k < n
    · have h0 : (0 : Int) ≤ (k : Int) := by omega
      have h1 : (k : Int) < (q.size : Int) := by omega
      have hkq : k < q.size := by omega
      obtain ⟨c, hc⟩ : ∃ c, c = q[k] := ⟨_, rfl⟩
      have HC : Hid (s[k]? = some c) := Lib.hid (by
        have e : s = q.data.toList := by rw [← HQ.out, ByteArray.toList_eq]
        rw [e, List.getElem?_eq_getElem (by simpa using hkq), hc]
        rfl)
      have HD : Hid (lettersB (s.drop k) = (isIR c && lettersB (s.drop (k + 1)))) := Lib.hid (by
        obtain ⟨hks, rfl⟩ := List.getElem?_eq_some_iff.1 HC.out
        rw [List.drop_eq_getElem_cons hks]
        rfl)
      have e73 : (c == 73) = decide (c.toNat = 73) := u8_eq (n := 73) (by decide)
      have e82 : (c == 82) = decide (c.toNat = 82) := u8_eq (n := 82) (by decide)
      have HIR : Hid (isIR c = (decide (c.toNat = 73) || decide (c.toNat = 82))) := Lib.hid (by unfold isIR; rw [e73, e82])
      clear e73 e82
      obtain ⟨x, hx⟩ : ∃ x, x = c.toNat := ⟨_, rfl⟩
      have hqx : (q[k]).toNat = x := by rw [hx, hc]
      rw [← hx] at HIR
      clear hx hc
      by_cases c1 : x = 73
      · have t1 : ((x : Int) != 73) = false := by simp [c1]
        have HN1 : Hid (lettersB s = lettersB (s.drop (k + 1))) := Lib.hid (by rw [HL.out, HD.out, HIR.out, c1]; rfl)
        clear c1
        go_wp2
        go_round
        case rel => exact ⟨k + 1, by have := HN.out; omega, by go_num, HN1.out⟩
        case measure => simp [intOf]; omega
      have t1 : ((x : Int) != 73) = true := by rw [bne_iff_ne]; omega
      by_cases c2 : x = 82
      · have t2 : ((x : Int) != 82) = false := by simp [c2]
        have HN1 : Hid (lettersB s = lettersB (s.drop (k + 1))) := Lib.hid (by rw [HL.out, HD.out, HIR.out, c2]; rfl)
        clear c1 c2
        go_wp2
        go_round
        case rel => exact ⟨k + 1, by have := HN.out; omega, by go_num, HN1.out⟩
        case measure => simp [intOf]; omega
      have t2 : ((x : Int) != 82) = true := by rw [bne_iff_ne]; omega
      have HF : Hid (lettersB s = false) := Lib.hid (by rw [HL.out, HD.out, HIR.out]; simp [c1, c2])
      clear c1 c2
      go_wp2
      go_ret
      rw [HF.out]
      exact ⟨rfl, Below.refl _ _⟩
    · have t1 : decide ((k : Int) < (n : Int)) = false := by simp; omega
      have HT : Hid (lettersB s = true) := Lib.hid (by rw [HL.out, List.drop_eq_nil_of_le (by have := HN.out; omega)]; rfl)
      go_wp2
      go_ret
      rw [HT.out]
      exact ⟨rfl, Below.refl _ _⟩
end Go.Proofs.YtnojejplckhifaaDoor
