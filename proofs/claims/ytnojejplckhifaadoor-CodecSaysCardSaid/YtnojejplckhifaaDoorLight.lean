/- The contract of overdriveworld.Light: what it tells of a program among the arguments. -/
import Derived.Test.YtnojejplckhifaaDoorProgO
import Derived.Test.YtnojejplckhifaaDoorUses
namespace Go.Proofs.YtnojejplckhifaaDoor
open Go.RowKit
set_option linter.unusedVariables false

def LightP (p : PV) : Prop := p.cls.length ≤ 20 ∧ p.ms.length ≤ 20 ∧ (∀ c ∈ p.cls, c.length ≤ 30) ∧ ∀ x ∈ p.ms, x.m.par.length ≤ 30 ∧ x.m.loc.length ≤ 30 ∧ x.m.ret.length ≤ 30 ∧ x.m.code.length ≤ 140
def LPost (w : World) (p : PV) (e : Ending) (w' : World) : Prop := (∃ b, e = .returned (.bool b) ∧ (b = true → LightP p)) ∧ Below w.heap.size w w'
theorem lpost_false {w w' : World} {p : PV} (hb : Below w.heap.size w w') : LPost w p (.returned (.bool false)) w' := ⟨⟨false, rfl, fun h => by cases h⟩, hb⟩
theorem lpost_true {w w' : World} {p : PV} (hl : LightP p) (hb : Below w.heap.size w w') : LPost w p (.returned (.bool true)) w' := ⟨⟨true, rfl, fun _ => hl⟩, hb⟩
def L1Rel (p : PV) (si : Value) : Prop := ∃ k : Nat, k ≤ p.cls.length ∧ si = .int .i64 (k : Int) ∧ ∀ j c, j < k → p.cls[j]? = some c → c.length ≤ 30
def MSm (x : MV) : Prop := x.m.par.length ≤ 30 ∧ x.m.loc.length ≤ 30 ∧ x.m.ret.length ≤ 30 ∧ x.m.code.length ≤ 140
def L2Rel (W : World) (p : PV) (si : Value) (wr : World) : Prop := ∃ k : Nat, k ≤ p.ms.length ∧ si = .int .i64 (k : Int) ∧ (∀ j x, j < k → p.ms[j]? = some x → MSm x) ∧ Below W.heap.size W wr
theorem size_mk (c : List UInt8) : (⟨c.toArray⟩ : ByteArray).size = c.length := by simp [ByteArray.size]
set_option maxRecDepth 100000 in
set_option maxHeartbeats 2000000 in
theorem light_any (p : PV) (w : World) (hp : PAt w w.heap.size p) : Calls Tryd.prog 10 #[p.val] w (LPost w p) := by
  obtain ⟨N1, hN1⟩ : ∃ n, n = p.cls.length := ⟨_, rfl⟩
  obtain ⟨N2, hN2⟩ : ∃ n, n = p.ms.length := ⟨_, rfl⟩
  obtain ⟨W, hW⟩ : ∃ W, W = w.alloc (.cells #[.slice p.A N1 p.c, .slice p.B N2 p.d] 25) := ⟨_, rfl⟩
  have HBW : Hid (Below w.heap.size w W) := Lib.hid (by rw [hW]; exact (Below.refl _ _).alloc (Nat.le_refl _) _)
  have HK : Hid (Blk W w.heap.size 25 #[.slice p.A N1 p.c, .slice p.B N2 p.d]) := Lib.hid (by rw [hW]; exact Blk.new _ _ _)
  have HP : Hid (PAt W W.heap.size p) := Lib.hid ((hp.below HBW.out).more HBW.out.size)
  have x0 : W.cell? ⟨w.heap.size, 0, none⟩ = some (.slice p.A N1 p.c) := HK.out.cell 0
  have x1 : W.cell? ⟨w.heap.size, 1, none⟩ = some (.slice p.B N2 p.d) := HK.out.cell 1
  have H1 := Lib.hid hN1
  have H2 := Lib.hid hN2
  unfold PV.val
  rw [← hN1, ← hN2]
  clear hp hN1 hN2
  by_cases h1 : 20 < N1
  · have t1 : decide ((20 : Int) < (N1 : Int)) = true := by simp; omega
    go_enter Tryd.func10, Tryd.ntmps10
    go_wp2_with fail
    rw [← hW]
    go_ret
    exact lpost_false HBW.out
  have t1 : decide ((20 : Int) < (N1 : Int)) = false := by simp; omega
  by_cases h2 : 20 < N2
  · have t2 : decide ((20 : Int) < (N2 : Int)) = true := by simp; omega
    go_enter Tryd.func10, Tryd.ntmps10
    go_wp2_with fail
    rw [← hW]
    go_ret
    exact lpost_false HBW.out
  have t2 : decide ((20 : Int) < (N2 : Int)) = false := by simp; omega
  go_enter Tryd.func10, Tryd.ntmps10
  go_wp2_with fail
  rw [← hW]
  clear hW
  go_loop [3] (fun si => L1Rel p si) (fun si => N1 - (intOf si).toNat)
  case atStart => exact ⟨0, Nat.zero_le _, rfl, fun j c hj => absurd hj (Nat.not_lt_zero _)⟩
  case round =>
    obtain ⟨k, hk, rfl, hm⟩ := hrel
    have HM := Lib.hid hm
    have hkn : k ≤ N1 := by have := H1.out; omega
    clear hm hk
    by_cases hlt : k < N1
    · have hlt' : (k : Int) < (N1 : Int) := by omega
      have hk0 : (0 : Int) ≤ (k : Int) := by omega
      obtain ⟨c, hc⟩ : ∃ c, p.cls[k]? = some c := ⟨_, List.getElem?_eq_getElem (by have := H1.out; omega)⟩
      obtain ⟨A, u, hA, hAb, hu, hcell⟩ := HP.out.cls.at_ (k := k) (by have := H1.out; omega)
      rw [List.getElem?_map, hc] at hu
      obtain rfl : strV c = u := by simpa using hu
      unfold strV at hcell
      obtain ⟨q, hq⟩ : ∃ q, q = (⟨c.toArray⟩ : ByteArray) := ⟨_, rfl⟩
      rw [← hq] at hcell
      have HQ : Hid (q.size = c.length) := Lib.hid (by rw [hq]; exact size_mk c)
      have HC := Lib.hid hc
      rw [hA] at x0 ⊢
      clear hu hc hq
      by_cases hq : 30 < q.size
      · have t3 : decide ((30 : Int) < (q.size : Int)) = true := by simp; omega
        go_wp2
        go_ret
        exact lpost_false HBW.out
      · have t3 : decide ((30 : Int) < (q.size : Int)) = false := by simp; omega
        have HQ30 := Lib.hid hq
        clear hq
        go_wp2
        go_round
        case rel => exact ⟨k + 1, by have := H1.out; omega, by go_num, fun j d hj hd => by
          by_cases hjk : j < k
          · exact HM.out j d hjk hd
          · obtain rfl : j = k := by omega
            obtain rfl : c = d := Option.some.inj (HC.out.symm.trans hd)
            have := HQ30.out
            have := HQ.out
            omega⟩
        case measure => simp [intOf]; omega
    · have t3 : decide ((k : Int) < (N1 : Int)) = false := by simp; omega
      have HM1 : Hid (∀ c ∈ p.cls, c.length ≤ 30) := Lib.hid (fun c hc => by
        obtain ⟨i, hi⟩ := List.mem_iff_getElem?.1 hc
        exact HM.out i c (by have := (List.getElem?_eq_some_iff.1 hi).1; have := H1.out; omega) hi)
      clear HM
      go_wp2_with fail
      go_loopw [4] (fun si wr => L2Rel W p si wr) (fun si _ => N2 - (intOf si).toNat)
      case atStart => exact ⟨0, Nat.zero_le _, rfl, fun j c hj => absurd hj (Nat.not_lt_zero _), Below.refl _ _⟩
      case round =>
        obtain ⟨i, hi, rfl, hm, hbr⟩ := hrel
        have HM := Lib.hid hm
        have HBR := Lib.hid hbr
        have hin : i ≤ N2 := by have := H2.out; omega
        have hkr := HK.out.below hbr HK.out.lt
        have y1 : wr.cell? ⟨w.heap.size, 1, none⟩ = some (.slice p.B N2 p.d) := hkr.cell 1
        have hgp : w.heap.size < wr.heap.size := hkr.lt
        have HPR : Hid (PAt wr wr.heap.size p) := Lib.hid ((HP.out.below hbr).more hbr.size)
        have HBL : Hid (∀ o, Below w.heap.size w (wr.alloc o)) := Lib.hid (fun o => (HBW.out.trans (hbr.mono HBW.out.size)).alloc (by omega) o)
        have HBA : Hid (∀ o, Below W.heap.size W (wr.alloc o)) := Lib.hid (fun o => hbr.alloc hbr.size o)
        clear hm hi hbr hkr
        by_cases hlt : i < N2
        · have hlt' : (i : Int) < (N2 : Int) := by omega
          have hi0 : (0 : Int) ≤ (i : Int) := by omega
          obtain ⟨x, hx⟩ : ∃ c, p.ms[i]? = some c := ⟨_, List.getElem?_eq_getElem (by have := H2.out; omega)⟩
          obtain ⟨A, hA, hAb, m0, m1, m2, m3⟩ := HPR.out.ms.four mvC_len hx rfl
          unfold strV at m0 m1 m2
          obtain ⟨q0, hq0⟩ : ∃ q, q = (⟨x.m.par.toArray⟩ : ByteArray) := ⟨_, rfl⟩
          obtain ⟨q1, hq1⟩ : ∃ q, q = (⟨x.m.loc.toArray⟩ : ByteArray) := ⟨_, rfl⟩
          obtain ⟨q2, hq2⟩ : ∃ q, q = (⟨x.m.ret.toArray⟩ : ByteArray) := ⟨_, rfl⟩
          obtain ⟨M, hM⟩ : ∃ q, q = x.m.code.length := ⟨_, rfl⟩
          rw [← hq0] at m0
          rw [← hq1] at m1
          rw [← hq2] at m2
          rw [← hM] at m3
          have HQ : Hid (q0.size = x.m.par.length ∧ q1.size = x.m.loc.length ∧ q2.size = x.m.ret.length ∧ M = x.m.code.length) := Lib.hid ⟨by rw [hq0]; exact size_mk _, by rw [hq1]; exact size_mk _, by rw [hq2]; exact size_mk _, hM⟩
          have HX := Lib.hid hx
          rw [hA] at y1 ⊢
          clear hx hq0 hq1 hq2 hM
          by_cases h0 : 30 < q0.size
          · have t5 : decide ((30 : Int) < (q0.size : Int)) = true := by simp; omega
            go_wp2
            go_ret
            exact lpost_false (HBL.out _)
          have t5 : decide ((30 : Int) < (q0.size : Int)) = false := by simp; omega
          by_cases h1 : 30 < q1.size
          · have t6 : decide ((30 : Int) < (q1.size : Int)) = true := by simp; omega
            go_wp2
            go_ret
            exact lpost_false (HBL.out _)
          have t6 : decide ((30 : Int) < (q1.size : Int)) = false := by simp; omega
          by_cases h2 : 30 < q2.size
          · have t7 : decide ((30 : Int) < (q2.size : Int)) = true := by simp; omega
            go_wp2
            go_ret
            exact lpost_false (HBL.out _)
          have t7 : decide ((30 : Int) < (q2.size : Int)) = false := by simp; omega
          by_cases h3 : 140 < M
          · have t8 : decide ((140 : Int) < (M : Int)) = true := by simp; omega
            go_wp2
            go_ret
            exact lpost_false (HBL.out _)
          have t8 : decide ((140 : Int) < (M : Int)) = false := by simp; omega
          have HSM : Hid (MSm x) := Lib.hid (by obtain ⟨e0, e1, e2, e3⟩ := HQ.out; unfold MSm; omega)
          clear h0 h1 h2 h3
          go_wp2
          go_roundw
          case rel => exact ⟨i + 1, by have := H2.out; omega, by go_num, fun j d hj hd => by
            by_cases hjk : j < i
            · exact HM.out j d hjk hd
            · obtain rfl : j = i := by omega
              obtain rfl : x = d := Option.some.inj (HX.out.symm.trans hd)
              exact HSM.out, HBA.out _⟩
          case measure => simp [intOf]; omega
        · have t5 : decide ((i : Int) < (N2 : Int)) = false := by simp; omega
          have HLP : Hid (LightP p) := Lib.hid ⟨by have := H1.out; omega, by have := H2.out; omega, HM1.out, fun x hx => by
            obtain ⟨j, hj⟩ := List.mem_iff_getElem?.1 hx
            exact HM.out j x (by have := (List.getElem?_eq_some_iff.1 hj).1; have := H2.out; omega) hj⟩
          have HBX : Hid (Below w.heap.size w wr) := Lib.hid (HBW.out.trans (HBR.out.mono HBW.out.size))
          go_wp2
          go_ret
          exact lpost_true HLP.out HBX.out
end Go.Proofs.YtnojejplckhifaaDoor
