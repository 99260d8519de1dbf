/- The contracts of the document's reader: byte, long, number. -/
import Derived.Test.YtnojejplckhifaaDoorQrd
namespace Go.Proofs.YtnojejplckhifaaDoor
open Go.RowKit
set_option linter.unusedVariables false

def FitRel (any : Bool) (ts : List Nat) (x : Nat) (sf si : Value) : Prop := ∃ k : Nat, k ≤ ts.length ∧ si = .int .i64 (k : Int) ∧ sf = .bool (any || (ts.take k).contains x)
set_option maxRecDepth 100000 in
set_option maxHeartbeats 2000000 in
theorem qbyte_any (may : Nat → Bool) (any : Bool) (T : Option Addr) (m d : Nat) (ts : List Nat) (g : Nat) (B : Option Addr) (n c : Nat) (l : List Nat) (s : RS) (w : World) (hmay : ∀ x, x < 256 → may x = (any || ts.contains x)) (hT : Reads w w.heap.size 1 T m (ts.map bv)) (hm : m ≤ 1000) (h : QAt w g B n c s) (hE : QEnv w g B n c l) :
    Calls Tryd.prog 47 #[.pointer (some ⟨g, 0, none⟩), .bool any, .slice T m d] w (QPost w g B n c (.int .u8 ((byteR l may s).1 : Int)) (byteR l may s).2) := by
  have HQ := Lib.hid h
  have HE := Lib.hid hE
  have HT := Lib.hid hT
  have HM := Lib.hid hmay
  have HML : Hid (ts.length = m) := Lib.hid (by have := hT.1; simpa using this)
  cases he : s.err with
  | some kp =>
    have HF : Hid (byteR l may s = (0, s)) := Lib.hid (by unfold byteR; rw [he])
    have HB := Lib.hid (qbad_is g B n c s true w h (by rw [he]; rfl))
    clear h hE hT hmay he
    go_enter Tryd.func47, Tryd.ntmps47
    go_wp2_with fail
    refine HB.out.mono ?_
    rintro e w1 ⟨rfl, hw⟩
    rw [hw]
    clear hw
    go_wp2
    go_ret
    rw [HF.out]
    exact ⟨rfl, HQ.out, But.refl⟩
  | none =>
    have HB := Lib.hid (qbad_is g B n c s false w h (by rw [he]; rfl))
    have HK := Lib.hid (h.open_ he)
    have HEN := Lib.hid he
    obtain ⟨a, ha⟩ : ∃ a, a = s.at_ := ⟨_, rfl⟩
    have HA := Lib.hid ha
    have han : a ≤ n := by rw [ha]; exact h.le he
    have hn16 := hE.hn
    have c0 : w.cell? ⟨g, 0, none⟩ = some (.slice B n c) := HK.out.cell 0
    have c1 : w.cell? ⟨g, 1, none⟩ = some (.int .i64 (a : Int)) := by rw [ha]; exact HK.out.cell 1
    have hlt := HK.out.lt
    clear h hE hT hmay he ha
    go_enter Tryd.func47, Tryd.ntmps47
    go_wp2_with fail
    refine HB.out.mono ?_
    rintro e w1 ⟨rfl, hw⟩
    rw [hw]
    clear hw
    go_wp2_with fail
    by_cases han2 : a = n
    · --{B1
      have HL : Hid (l[s.at_]? = none) := Lib.hid (List.getElem?_eq_none (by have := HE.out.len; have := HA.out; omega))
      have HF : Hid (byteR l may s = (0, failR s 5 n)) := Lib.hid (by unfold byteR failR; rw [HEN.out]; dsimp only; rw [HL.out, HE.out.len])
      have t1 : decide ((n : Int) ≤ (a : Int)) = true := by simp; omega
      have t1' : decide ((a : Int) ≥ (n : Int)) = true := by simp; omega
      subst han2
      go_quiet (fail)
      obtain ⟨V, hV⟩ : ∃ V, V = w.drewN nq := ⟨_, rfl⟩
      have HQV : Hid (QAt V g B a c s) := Lib.hid (by rw [hV]; exact HQ.out.but (below_drewN (Below.refl _ _) nq))
      have HBV : Hid (But g w V) := Lib.hid (by rw [hV]; exact But.refl.drewN nq)
      have c0' : V.cell? ⟨g, 0, none⟩ = some (.slice B a c) := HQV.out.c0
      have hlt' := HQV.out.lt
      rw [← hV]
      clear hV c0 c1 hlt
      go_wp2_with fail
      refine (qfail_any g B a c s 5 a 106 rfl _ HQV.out).mono ?_
      rintro e w2 ⟨rfl, q1, q2⟩
      have HR : Hid (QAt w2 g B a c (failR s 5 a) ∧ But g w w2) := Lib.hid ⟨q1, HBV.out.trans q2⟩
      clear q1 q2 c0' hlt'
      go_wp2
      go_ret
      rw [HF.out]
      exact ⟨rfl, HR.out.1, HR.out.2⟩
      --}B1
    · --{B2
      have halt : a < n := by omega
      have t1 : decide ((n : Int) ≤ (a : Int)) = false := by simp; omega
      have t1' : decide ((a : Int) ≥ (n : Int)) = false := by simp; omega
      have ha0 : (0 : Int) ≤ (a : Int) := by omega
      have han' : (a : Int) < (n : Int) := by omega
      obtain ⟨x, hx⟩ : ∃ x, l[a]? = some x := ⟨_, List.getElem?_eq_getElem (by have := HE.out.len; omega)⟩
      obtain ⟨A, u, hA, hAb, hu, hcell⟩ := HE.out.reads.at_ (k := a) halt
      rw [List.getElem?_map, hx] at hu
      obtain rfl : bv x = u := by simpa using hu
      subst hA
      unfold bv at hcell
      have HX : Hid (l[s.at_]? = some x) := Lib.hid (by rw [← HA.out]; exact hx)
      have HX256 : Hid (x < 256) := Lib.hid (HE.out.byte x (List.mem_of_getElem? hx))
      clear hu hx han2
      go_quiet (fail)
      obtain ⟨V, hV⟩ : ∃ V, V = w.drewN nq := ⟨_, rfl⟩
      have HQV : Hid (QAt V g (some A) n c s) := Lib.hid (by rw [hV]; exact HQ.out.but (below_drewN (Below.refl _ _) nq))
      have HBV : Hid (But g w V) := Lib.hid (by rw [hV]; exact But.refl.drewN nq)
      have HTV : Hid (Reads V V.heap.size 1 T m (ts.map bv)) := Lib.hid (by rw [hV]; exact HT.out)
      have HKV : Hid (Blk V g 86 #[.slice (some A) n c, .int .i64 (a : Int), .int .i64 0, .slice none 0 0]) := Lib.hid (by rw [hV, HA.out]; exact HK.out.drewN nq)
      have c0' : V.cell? ⟨g, 0, none⟩ = some (.slice (some A) n c) := HKV.out.cell 0
      have c1' : V.cell? ⟨g, 1, none⟩ = some (.int .i64 (a : Int)) := HKV.out.cell 1
      have hlt' := HKV.out.lt
      have hcell' : V.cell? (A.add a) = some (.int .u8 (x : Int)) := by rw [hV]; exact hcell
      rw [← hV]
      clear hV c0 c1 hlt hcell
      go_wp2_with fail
      go_quiet (fail)
      obtain ⟨U, hU⟩ : ∃ U, U = V.drewN nq := ⟨_, rfl⟩
      have HQU : Hid (QAt U g (some A) n c s) := Lib.hid (by rw [hU]; exact HQV.out.but (below_drewN (Below.refl _ _) nq))
      have HBU : Hid (But g w U) := Lib.hid (by rw [hU]; exact HBV.out.drewN nq)
      have HTU : Hid (Reads U U.heap.size 1 T m (ts.map bv)) := Lib.hid (by rw [hU]; exact HTV.out)
      have HKU : Hid (Blk U g 86 #[.slice (some A) n c, .int .i64 (a : Int), .int .i64 0, .slice none 0 0]) := Lib.hid (by rw [hU]; exact HKV.out.drewN nq)
      rw [← hU]
      clear hU c0' c1' hlt' hcell' HQV HBV HTV HKV
      go_wp2_with fail
      go_loop [8, 9] (fun sf si => FitRel any ts x sf si) (fun _ si => m - (intOf si).toNat)
      case atStart => exact ⟨0, Nat.zero_le _, rfl, by simp⟩
      case round =>
        obtain ⟨k, hk, rfl, rfl⟩ := hrel
        have hkm : k ≤ m := by have := HML.out; omega
        clear hk
        obtain ⟨f, hf⟩ : ∃ f, f = (any || (ts.take k).contains x) := ⟨_, rfl⟩
        have HF := Lib.hid hf
        rw [← hf]
        clear hf
        by_cases hlt : k < m
        · --{F1
          have hlt' : (k : Int) < (m : Int) := by omega
          have hk0 : (0 : Int) ≤ (k : Int) := by omega
          obtain ⟨y, hy⟩ : ∃ y, ts[k]? = some y := ⟨_, List.getElem?_eq_getElem (by have := HML.out; omega)⟩
          obtain ⟨C, u, hC, hCb, hu, hcell⟩ := HTU.out.at_ (k := k) hlt
          rw [List.getElem?_map, hy] at hu
          obtain rfl : bv y = u := by simpa using hu
          subst hC
          unfold bv at hcell
          have HY : Hid ((any || (ts.take (k + 1)).contains x) = (f || (y == x))) := Lib.hid (by
            rw [HF.out, List.take_add_one, hy]
            have e : (x == y) = (y == x) := by rw [Bool.eq_iff_iff]; simp; exact eq_comm
            simp only [Option.toList_some, List.contains_append, List.contains_cons, List.contains_nil, Bool.or_false, e, Bool.or_assoc])
          clear hu hy HF
          cases f
          · by_cases hyx : y = x
            · have t2 : ((y : Int) == (x : Int)) = true := by simp [hyx]
              have HZ : Hid ((any || (ts.take (k + 1)).contains x) = true) := Lib.hid (by rw [HY.out, hyx]; simp)
              clear hyx
              go_wp2
              go_round
              case rel => exact ⟨k + 1, by have := HML.out; omega, by go_num, by rw [HZ.out]⟩
              case measure => simp [intOf]; omega
            · have t2 : ((y : Int) == (x : Int)) = false := by rw [beq_eq_false_iff_ne]; omega
              have HZ : Hid ((any || (ts.take (k + 1)).contains x) = false) := Lib.hid (by rw [HY.out]; simp [hyx])
              clear hyx
              go_wp2
              go_round
              case rel => exact ⟨k + 1, by have := HML.out; omega, by go_num, by rw [HZ.out]⟩
              case measure => simp [intOf]; omega
          · have HZ : Hid ((any || (ts.take (k + 1)).contains x) = true) := Lib.hid (by rw [HY.out]; simp)
            go_wp2
            go_round
            case rel => exact ⟨k + 1, by have := HML.out; omega, by go_num, by rw [HZ.out]⟩
            case measure => simp [intOf]; omega
          --}F1
        · --{F2
          have hkm' : k = m := by omega
          have t3 : decide ((k : Int) < (m : Int)) = false := by simp; omega
          have HFM : Hid (may x = f) := Lib.hid (by rw [HM.out x HX256.out, HF.out, List.take_of_length_le (by have := HML.out; omega)])
          have c1 : U.cell? ⟨g, 1, none⟩ = some (.int .i64 (a : Int)) := HKU.out.cell 1
          have f1 := HKU.out.frozen 1
          have hltu := HKU.out.lt
          have hwa : IntKind.i64.wrap ((a : Int) + 1) = (a : Int) + 1 := IntWalk.i64_in _ (by omega)
          clear hkm' HF
          cases f
          · have HR : Hid (byteR l may s = (0, failR s 6 a)) := Lib.hid (by unfold byteR failR; rw [HEN.out]; dsimp only; rw [HX.out]; dsimp only; rw [HFM.out, HA.out]; rfl)
            go_wp2_with fail
            refine (qfail_any g (some A) n c s 6 a 107 rfl _ HQU.out).mono ?_
            rintro e w2 ⟨rfl, q1, q2⟩
            have HS : Hid (QAt w2 g (some A) n c (failR s 6 a) ∧ But g w w2) := Lib.hid ⟨q1, HBU.out.trans q2⟩
            clear q1 q2 c1 f1 hltu
            go_wp2
            go_ret
            rw [HR.out]
            exact ⟨rfl, HS.out.1, HS.out.2⟩
          · have HR : Hid (byteR l may s = (x, ⟨a + 1, none⟩)) := Lib.hid (by unfold byteR; rw [HEN.out]; dsimp only; rw [HX.out]; dsimp only; rw [HFM.out, HA.out]; rfl)
            go_wp2
            go_ret
            rw [HR.out]
            refine ⟨rfl, QAt.mk0 rfl ?_ (by show a + 1 ≤ n; omega), HBU.out.setCell 1 _⟩
            have := HKU.out.set_ 1 (.int .i64 ((a : Int) + 1))
            simpa using this
          --}F2
      --}B2
end Go.Proofs.YtnojejplckhifaaDoor
