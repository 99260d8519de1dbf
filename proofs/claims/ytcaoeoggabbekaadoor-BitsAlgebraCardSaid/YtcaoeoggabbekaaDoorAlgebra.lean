/- BitsAlgebra, the card: for every input the call returns true and each argument reads afterwards as it read before; no further conditions. -/
import Derived.Test.YtcaoeoggabbekaaDoorAlg
import Derived.Test.YtcaoeoggabbekaaDoorTab
import Derived.Test.YtcaoeoggabbekaaDoorCards
import Derived.Test.YtcaoeoggabbekaaDoorTie
namespace Go.Proofs.YtcaoeoggabbekaaDoor.bitsAlgebra
open Go.RowKit Go.ChangeShapes Go.WideShapes Go.ChangeAt
set_option linter.unusedVariables false

theorem own : ownKnob Tryd.prog.godebug = none := by kernel_rfl
theorem kids : Kids Tryd.prog (· < Tryd.prog.types.size) := kids_rows (by kernel_rfl) (by kernel_rfl)
theorem full : ∀ t e, t < Tryd.prog.types.size → Tryd.prog.underlying t = some (.slice e) → 0 < Tryd.prog.cellsOf e := slices_full_of Tryd.prog (by kernel_rfl)

set_option maxRecDepth 100000 in
theorem walk_long (w : World) (hT : TabIn w) (A0 A1 A2 : Option Addr) (n0 n1 n2 c0 c1 c2 : Nat) (h : 60 < n0 ∨ 60 < n1 ∨ 60 < n2) :
    Calls Tryd.prog 6 #[.slice A0 n0 c0, .slice A1 n1 c1, .slice A2 n2 c2] w fun e w' => e = .returned (.bool true) ∧ Below w.heap.size w w' := by
  have HT := Lib.hid hT
  clear hT
  by_cases h0 : 60 < n0
  · have h0' : (60 : Int) < (n0 : Int) := by omega
    clear h
    go_enter Tryd.func6, Tryd.ntmps6
    go_wp2_with fail
    refine (first_any _ HT.out).mono ?_
    rintro e w1 ⟨rfl, hb1⟩
    have HB1 := Lib.hid hb1
    clear hb1
    go_wp2
    go_ret
    exact ⟨rfl, HB1.out⟩
  · have h0' : ¬ (60 : Int) < (n0 : Int) := by omega
    by_cases h1 : 60 < n1
    · have h1' : (60 : Int) < (n1 : Int) := by omega
      clear h
      go_enter Tryd.func6, Tryd.ntmps6
      go_wp2_with fail
      refine (first_any _ HT.out).mono ?_
      rintro e w1 ⟨rfl, hb1⟩
      have HB1 := Lib.hid hb1
      clear hb1
      go_wp2
      go_ret
      exact ⟨rfl, HB1.out⟩
    · have h1' : ¬ (60 : Int) < (n1 : Int) := by omega
      have h2' : (60 : Int) < (n2 : Int) := by omega
      clear h
      go_enter Tryd.func6, Tryd.ntmps6
      go_wp2_with fail
      refine (first_any _ HT.out).mono ?_
      rintro e w1 ⟨rfl, hb1⟩
      have HB1 := Lib.hid hb1
      clear hb1
      go_wp2
      go_ret
      exact ⟨rfl, HB1.out⟩
def HasRel (w : World) (s15 : Value) (wr : World) : Prop := ∃ k : Nat, k ≤ 200 ∧ s15 = .int .i64 (k : Int) ∧ w = wr
set_option maxRecDepth 100000 in
set_option maxHeartbeats 4000000 in
theorem walk (w : World) (hT : TabIn w) (A0 : Option Addr) (n0 c0 : Nat) (z0 : List Int) (hc0 : n0 ≤ c0) (hn0 : c0 ≤ maxLen) (hl0 : z0.length = n0) (hr0 : Reads w w.heap.size 1 A0 n0 (z0.map (Value.int .i64))) (hw0 : ∀ z ∈ z0, (Lit.int .i64 z).wf = true) (A1 : Option Addr) (n1 c1 : Nat) (z1 : List Int) (hc1 : n1 ≤ c1) (hn1 : c1 ≤ maxLen) (hl1 : z1.length = n1) (hr1 : Reads w w.heap.size 1 A1 n1 (z1.map (Value.int .i64))) (hw1 : ∀ z ∈ z1, (Lit.int .i64 z).wf = true) (A2 : Option Addr) (n2 c2 : Nat) (z2 : List Int) (hc2 : n2 ≤ c2) (hn2 : c2 ≤ maxLen) (hl2 : z2.length = n2) (hr2 : Reads w w.heap.size 1 A2 n2 (z2.map (Value.int .i64))) (hw2 : ∀ z ∈ z2, (Lit.int .i64 z).wf = true) :
    Calls Tryd.prog 6 #[.slice A0 n0 c0, .slice A1 n1 c1, .slice A2 n2 c2] w fun e w' => e = .returned (.bool true) ∧ Below w.heap.size w w' := by
  by_cases hlong : 60 < n0 ∨ 60 < n1 ∨ 60 < n2
  · exact walk_long w hT A0 A1 A2 n0 n1 n2 c0 c1 c2 hlong
  have h0' : ¬ (60 : Int) < (n0 : Int) := by omega
  have h1' : ¬ (60 : Int) < (n1 : Int) := by omega
  have h2' : ¬ (60 : Int) < (n2 : Int) := by omega
  have HT := Lib.hid hT
  have HR0 := Lib.hid hr0
  have HR1 := Lib.hid hr1
  have HR2 := Lib.hid hr2
  clear hT hr0 hr1 hr2 hw0 hw1 hw2 hl0 hl1 hl2 hlong
  obtain ⟨X, hX⟩ : ∃ X, X = memP 200 z0 := ⟨_, rfl⟩
  obtain ⟨Y, hY⟩ : ∃ Y, Y = memP 200 z1 := ⟨_, rfl⟩
  obtain ⟨Z, hZ⟩ : ∃ Z, Z = memP 200 z2 := ⟨_, rfl⟩
  have HX := Lib.hid hX
  have HY := Lib.hid hY
  have HZ := Lib.hid hZ
  clear hX hY hZ
  go_enter Tryd.func6, Tryd.ntmps6
  go_wp2_with fail
  refine (first_any _ HT.out).mono ?_
  rintro e w1 ⟨rfl, hb1⟩
  have HB1 := Lib.hid hb1
  have HT1 := Lib.hid (HT.out.below HB1.out HT.out.pos)
  clear hb1
  go_wp2_with fail
  refine (set_any 200 A0 n0 c0 z0 _ ((HR0.out.below HB1.out).more HB1.out.size) (by omega) HT1.out.pos).mono ?_
  rintro e w2 ⟨kx, gx, rfl, hb, hg, hS, hbl⟩
  have HB2 : Hid (Below w.heap.size w w2) := Lib.hid (HB1.out.trans (hbl.mono HB1.out.size))
  have HT2 := Lib.hid (HT.out.below HB2.out HT.out.pos)
  have HGx : Hid (w.heap.size ≤ kx ∧ w.heap.size ≤ gx) := Lib.hid (by have := HB1.out.size; omega)
  have Hx2 := Lib.hid (show SetAt w2 kx gx 200 X by rw [HX.out]; exact hS)
  clear hb hg hS hbl
  go_wp2_with fail
  refine (set_any 200 A1 n1 c1 z1 _ ((HR1.out.below HB2.out).more HB2.out.size) (by omega) HT2.out.pos).mono ?_
  rintro e w3 ⟨ky, gy, rfl, hb, hg, hS, hbl⟩
  have HB3 : Hid (Below w.heap.size w w3) := Lib.hid (HB2.out.trans (hbl.mono HB2.out.size))
  have HT3 := Lib.hid (HT.out.below HB3.out HT.out.pos)
  have HGy : Hid (w.heap.size ≤ ky ∧ w.heap.size ≤ gy) := Lib.hid (by have := HB2.out.size; omega)
  have APxy : Hid (kx < ky ∧ kx < gy ∧ gx < ky ∧ gx < gy) := Lib.hid (by have := Hx2.out.sizes; omega)
  have Hx3 := Lib.hid (Hx2.out.belowW hbl)
  have Hy3 := Lib.hid (show SetAt w3 ky gy 200 Y by rw [HY.out]; exact hS)
  clear hb hg hS hbl
  go_wp2_with fail
  refine (set_any 200 A2 n2 c2 z2 _ ((HR2.out.below HB3.out).more HB3.out.size) (by omega) HT3.out.pos).mono ?_
  rintro e w4 ⟨kz, gz, rfl, hb, hg, hS, hbl⟩
  have HB4 : Hid (Below w.heap.size w w4) := Lib.hid (HB3.out.trans (hbl.mono HB3.out.size))
  have HT4 := Lib.hid (HT.out.below HB4.out HT.out.pos)
  have HGz : Hid (w.heap.size ≤ kz ∧ w.heap.size ≤ gz) := Lib.hid (by have := HB3.out.size; omega)
  have APxz : Hid (kx < kz ∧ kx < gz ∧ gx < kz ∧ gx < gz) := Lib.hid (by have := Hx3.out.sizes; omega)
  have APyz : Hid (ky < kz ∧ ky < gz ∧ gy < kz ∧ gy < gz) := Lib.hid (by have := Hy3.out.sizes; omega)
  have Hx4 := Lib.hid (Hx3.out.belowW hbl)
  have Hy4 := Lib.hid (Hy3.out.belowW hbl)
  have Hz4 := Lib.hid (show SetAt w4 kz gz 200 Z by rw [HZ.out]; exact hS)
  clear hb hg hS hbl
  go_wp2_with fail
  refine (copy_any kx gx 200 X _ Hx4.out).mono ?_
  rintro e w5 ⟨kp, gp, rfl, hb, hg, hS, hbl⟩
  have HB5 : Hid (Below w.heap.size w w5) := Lib.hid (HB4.out.trans (hbl.mono HB4.out.size))
  have HT5 := Lib.hid (HT.out.below HB5.out HT.out.pos)
  have HGp : Hid (w.heap.size ≤ kp ∧ w.heap.size ≤ gp) := Lib.hid (by have := HB4.out.size; omega)
  have APxp : Hid (kx < kp ∧ kx < gp ∧ gx < kp ∧ gx < gp) := Lib.hid (by have := Hx4.out.sizes; omega)
  have APyp : Hid (ky < kp ∧ ky < gp ∧ gy < kp ∧ gy < gp) := Lib.hid (by have := Hy4.out.sizes; omega)
  have APzp : Hid (kz < kp ∧ kz < gp ∧ gz < kp ∧ gz < gp) := Lib.hid (by have := Hz4.out.sizes; omega)
  have Hx5 := Lib.hid (Hx4.out.belowW hbl)
  have Hy5 := Lib.hid (Hy4.out.belowW hbl)
  have Hz5 := Lib.hid (Hz4.out.belowW hbl)
  have Hp5 := Lib.hid (show SetAt w5 kp gp 200 X from hS)
  clear hb hg hS hbl
  go_wp2_with fail
  refine (copy_any ky gy 200 Y _ Hy5.out).mono ?_
  rintro e w6 ⟨kq, gq, rfl, hb, hg, hS, hbl⟩
  have HB6 : Hid (Below w.heap.size w w6) := Lib.hid (HB5.out.trans (hbl.mono HB5.out.size))
  have HT6 := Lib.hid (HT.out.below HB6.out HT.out.pos)
  have HGq : Hid (w.heap.size ≤ kq ∧ w.heap.size ≤ gq) := Lib.hid (by have := HB5.out.size; omega)
  have APxq : Hid (kx < kq ∧ kx < gq ∧ gx < kq ∧ gx < gq) := Lib.hid (by have := Hx5.out.sizes; omega)
  have APyq : Hid (ky < kq ∧ ky < gq ∧ gy < kq ∧ gy < gq) := Lib.hid (by have := Hy5.out.sizes; omega)
  have APzq : Hid (kz < kq ∧ kz < gq ∧ gz < kq ∧ gz < gq) := Lib.hid (by have := Hz5.out.sizes; omega)
  have APpq : Hid (kp < kq ∧ kp < gq ∧ gp < kq ∧ gp < gq) := Lib.hid (by have := Hp5.out.sizes; omega)
  have Hx6 := Lib.hid (Hx5.out.belowW hbl)
  have Hy6 := Lib.hid (Hy5.out.belowW hbl)
  have Hz6 := Lib.hid (Hz5.out.belowW hbl)
  have Hp6 := Lib.hid (Hp5.out.belowW hbl)
  have Hq6 := Lib.hid (show SetAt w6 kq gq 200 Y from hS)
  clear hb hg hS hbl
  go_wp2_with fail
  refine (join_or kp gp 200 _ ky gy _ _ Hp6.out Hy6.out HT6.out).mono ?_
  rintro e w7 ⟨rfl, hS, hbt⟩
  have HB7 : Hid (Below w.heap.size w w7) := Lib.hid (HB6.out.trans (hbt.below HGp.out.2 HB6.out.size))
  have HT7 := Lib.hid (HT.out.below HB7.out HT.out.pos)
  have Hx7 := Lib.hid (Hx6.out.but hbt (by have := APxp.out; omega) (by have := APxp.out; omega))
  have Hy7 := Lib.hid (Hy6.out.but hbt (by have := APyp.out; omega) (by have := APyp.out; omega))
  have Hz7 := Lib.hid (Hz6.out.but hbt (by have := APzp.out; omega) (by have := APzp.out; omega))
  have Hq7 := Lib.hid (Hq6.out.but hbt (by have := APpq.out; omega) (by have := APpq.out; omega))
  have Hp7 := Lib.hid (show SetAt w7 kp gp 200 (orP X Y) from hS)
  clear hS hbt
  go_wp2_with fail
  refine (join_or kq gq 200 _ kx gx _ _ Hq7.out Hx7.out HT7.out).mono ?_
  rintro e w8 ⟨rfl, hS, hbt⟩
  have HB8 : Hid (Below w.heap.size w w8) := Lib.hid (HB7.out.trans (hbt.below HGq.out.2 HB7.out.size))
  have HT8 := Lib.hid (HT.out.below HB8.out HT.out.pos)
  have Hx8 := Lib.hid (Hx7.out.but hbt (by have := APxq.out; omega) (by have := APxq.out; omega))
  have Hy8 := Lib.hid (Hy7.out.but hbt (by have := APyq.out; omega) (by have := APyq.out; omega))
  have Hz8 := Lib.hid (Hz7.out.but hbt (by have := APzq.out; omega) (by have := APzq.out; omega))
  have Hp8 := Lib.hid (Hp7.out.but hbt (by have := APpq.out; omega) (by have := APpq.out; omega))
  have Hq8 := Lib.hid (show SetAt w8 kq gq 200 (orP Y X) from hS)
  clear hS hbt
  go_wp2_with fail
  refine (join_or kp gp 200 _ ky gy _ _ Hp8.out Hy8.out HT8.out).mono ?_
  rintro e w9 ⟨rfl, hS, hbt⟩
  rw [anP_sub (p := orP X Y) (q := Y) (fun j h => by simp [orP, h])]
  have HB9 : Hid (Below w.heap.size w w9) := Lib.hid (HB8.out.trans (hbt.below HGp.out.2 HB8.out.size))
  have HT9 := Lib.hid (HT.out.below HB9.out HT.out.pos)
  have Hx9 := Lib.hid (Hx8.out.but hbt (by have := APxp.out; omega) (by have := APxp.out; omega))
  have Hy9 := Lib.hid (Hy8.out.but hbt (by have := APyp.out; omega) (by have := APyp.out; omega))
  have Hz9 := Lib.hid (Hz8.out.but hbt (by have := APzp.out; omega) (by have := APzp.out; omega))
  have Hq9 := Lib.hid (Hq8.out.but hbt (by have := APpq.out; omega) (by have := APpq.out; omega))
  have Hp9 := Lib.hid (show SetAt w9 kp gp 200 (orP (orP X Y) Y) from hS)
  clear hS hbt
  have Hp9 := Lib.hid (Hp9.out.congr (q := orP X Y) (fun j => by simp only [orP]; cases X j <;> cases Y j <;> rfl))
  go_wp2_with fail
  refine (same_any kp gp 200 _ kq gq 200 _ _ Hp9.out Hq9.out HT9.out).mono ?_
  rintro e w10 ⟨rfl, hbl⟩
  rw [sameI_congr (orP_comm X Y)]
  have HB10 : Hid (Below w.heap.size w w10) := Lib.hid (HB9.out.trans (hbl.mono HB9.out.size))
  have HT10 := Lib.hid (HT.out.below HB10.out HT.out.pos)
  have Hx10 := Lib.hid (Hx9.out.belowW hbl)
  have Hy10 := Lib.hid (Hy9.out.belowW hbl)
  have Hz10 := Lib.hid (Hz9.out.belowW hbl)
  have Hp10 := Lib.hid (Hp9.out.belowW hbl)
  have Hq10 := Lib.hid (Hq9.out.belowW hbl)
  clear hbl
  have HE : Hid ((els (orP X Y) 200).length ≤ (els X 200).length + (els Y 200).length ∧ (els X 200).length ≤ (els (orP X Y) 200).length ∧ (els Y 200).length ≤ (els (orP X Y) 200).length ∧ (els X 200).length ≤ 200 ∧ (els Y 200).length ≤ 200) := Lib.hid ⟨els_or_le X Y 200, els_or_ge1 X Y 200, els_or_ge2 X Y 200, els_len _ _, els_len _ _⟩
  obtain ⟨ep, hep⟩ : ∃ ep, ep = (els (orP X Y) 200).length := ⟨_, rfl⟩
  obtain ⟨ex, hex⟩ : ∃ ex, ex = (els X 200).length := ⟨_, rfl⟩
  obtain ⟨ey, hey⟩ : ∃ ey, ey = (els Y 200).length := ⟨_, rfl⟩
  rw [← hep, ← hex, ← hey] at HE
  have CP : Hid (Calls Tryd.prog 11 #[.pointer (some ⟨kp, 0, none⟩)] w10 fun e w' => e = .returned (.int .i64 (ep : Int)) ∧ w10 = w') := Lib.hid (by rw [hep]; exact len_any _ _ _ _ _ Hp10.out)
  have CX : Hid (Calls Tryd.prog 11 #[.pointer (some ⟨kx, 0, none⟩)] w10 fun e w' => e = .returned (.int .i64 (ex : Int)) ∧ w10 = w') := Lib.hid (by rw [hex]; exact len_any _ _ _ _ _ Hx10.out)
  have CY : Hid (Calls Tryd.prog 11 #[.pointer (some ⟨ky, 0, none⟩)] w10 fun e w' => e = .returned (.int .i64 (ey : Int)) ∧ w10 = w') := Lib.hid (by rw [hey]; exact len_any _ _ _ _ _ Hy10.out)
  clear hep hex hey
  have g1 : ex ≤ 200 := HE.out.2.2.2.1
  have g2 : ey ≤ 200 := HE.out.2.2.2.2
  have g3 : ¬ (ex : Int) + (ey : Int) < (ep : Int) := by have := HE.out; omega
  have g4 : ¬ (ep : Int) < (ex : Int) := by have := HE.out; omega
  have g5 : ¬ (ep : Int) < (ey : Int) := by have := HE.out; omega
  have g6 : (ex : Int) ≤ (ep : Int) := by omega
  have g7 : (ey : Int) ≤ (ep : Int) := by omega
  go_wp2_with fail
  refine CP.out.mono ?_
  rintro e w100 ⟨rfl, rfl⟩
  go_wp2_with fail
  refine CX.out.mono ?_
  rintro e w100 ⟨rfl, rfl⟩
  go_wp2_with fail
  refine CY.out.mono ?_
  rintro e w100 ⟨rfl, rfl⟩
  go_wp2_with fail
  refine CP.out.mono ?_
  rintro e w100 ⟨rfl, rfl⟩
  go_wp2_with fail
  refine CX.out.mono ?_
  rintro e w100 ⟨rfl, rfl⟩
  go_wp2_with fail
  refine CY.out.mono ?_
  rintro e w100 ⟨rfl, rfl⟩
  by_cases hxy : (ex : Int) < (ey : Int)
  all_goals
    go_wp2_with fail
    refine (join_or kp gp 200 _ kz gz _ _ Hp10.out Hz10.out HT10.out).mono ?_
    rintro e w11 ⟨rfl, hS, hbt⟩
    have HB11 : Hid (Below w.heap.size w w11) := Lib.hid (HB10.out.trans (hbt.below HGp.out.2 HB10.out.size))
    have HT11 := Lib.hid (HT.out.below HB11.out HT.out.pos)
    have Hx11 := Lib.hid (Hx10.out.but hbt (by have := APxp.out; omega) (by have := APxp.out; omega))
    have Hy11 := Lib.hid (Hy10.out.but hbt (by have := APyp.out; omega) (by have := APyp.out; omega))
    have Hz11 := Lib.hid (Hz10.out.but hbt (by have := APzp.out; omega) (by have := APzp.out; omega))
    have Hq11 := Lib.hid (Hq10.out.but hbt (by have := APpq.out; omega) (by have := APpq.out; omega))
    have Hp11 := Lib.hid (show SetAt w11 kp gp 200 (orP (orP X Y) Z) from hS)
    clear hS hbt
    go_wp2_with fail
    refine (join_or kq gq 200 _ kz gz _ _ Hq11.out Hz11.out HT11.out).mono ?_
    rintro e w12 ⟨rfl, hS, hbt⟩
    have HB12 : Hid (Below w.heap.size w w12) := Lib.hid (HB11.out.trans (hbt.below HGq.out.2 HB11.out.size))
    have HT12 := Lib.hid (HT.out.below HB12.out HT.out.pos)
    have Hx12 := Lib.hid (Hx11.out.but hbt (by have := APxq.out; omega) (by have := APxq.out; omega))
    have Hy12 := Lib.hid (Hy11.out.but hbt (by have := APyq.out; omega) (by have := APyq.out; omega))
    have Hz12 := Lib.hid (Hz11.out.but hbt (by have := APzq.out; omega) (by have := APzq.out; omega))
    have Hp12 := Lib.hid (Hp11.out.but hbt (by have := APpq.out; omega) (by have := APpq.out; omega))
    have Hq12 := Lib.hid (show SetAt w12 kq gq 200 (orP (orP Y X) Z) from hS)
    clear hS hbt
    go_wp2_with fail
    refine (less_sub kq gq 200 _ kz gz 200 _ _ Hq12.out Hz12.out HT12.out).mono ?_
    rintro e w13 ⟨⟨_, rfl⟩, hS, hbt⟩
    have HB13 : Hid (Below w.heap.size w w13) := Lib.hid (HB12.out.trans (hbt.below HGq.out.2 HB12.out.size))
    have HT13 := Lib.hid (HT.out.below HB13.out HT.out.pos)
    have Hx13 := Lib.hid (Hx12.out.but hbt (by have := APxq.out; omega) (by have := APxq.out; omega))
    have Hy13 := Lib.hid (Hy12.out.but hbt (by have := APyq.out; omega) (by have := APyq.out; omega))
    have Hz13 := Lib.hid (Hz12.out.but hbt (by have := APzq.out; omega) (by have := APzq.out; omega))
    have Hp13 := Lib.hid (Hp12.out.but hbt (by have := APpq.out; omega) (by have := APpq.out; omega))
    have Hq13 := Lib.hid (show SetAt w13 kq gq 200 (subP (orP (orP Y X) Z) Z) from hS)
    clear hS hbt
    go_wp2_with fail
    refine (copy_any kx gx 200 X _ Hx13.out).mono ?_
    rintro e w14 ⟨kr, gr, rfl, hb, hg, hS, hbl⟩
    have HB14 : Hid (Below w.heap.size w w14) := Lib.hid (HB13.out.trans (hbl.mono HB13.out.size))
    have HT14 := Lib.hid (HT.out.below HB14.out HT.out.pos)
    have HGr : Hid (w.heap.size ≤ kr ∧ w.heap.size ≤ gr) := Lib.hid (by have := HB13.out.size; omega)
    have APxr : Hid (kx < kr ∧ kx < gr ∧ gx < kr ∧ gx < gr) := Lib.hid (by have := Hx13.out.sizes; omega)
    have APyr : Hid (ky < kr ∧ ky < gr ∧ gy < kr ∧ gy < gr) := Lib.hid (by have := Hy13.out.sizes; omega)
    have APzr : Hid (kz < kr ∧ kz < gr ∧ gz < kr ∧ gz < gr) := Lib.hid (by have := Hz13.out.sizes; omega)
    have APpr : Hid (kp < kr ∧ kp < gr ∧ gp < kr ∧ gp < gr) := Lib.hid (by have := Hp13.out.sizes; omega)
    have APqr : Hid (kq < kr ∧ kq < gr ∧ gq < kr ∧ gq < gr) := Lib.hid (by have := Hq13.out.sizes; omega)
    have Hx14 := Lib.hid (Hx13.out.belowW hbl)
    have Hy14 := Lib.hid (Hy13.out.belowW hbl)
    have Hz14 := Lib.hid (Hz13.out.belowW hbl)
    have Hp14 := Lib.hid (Hp13.out.belowW hbl)
    have Hq14 := Lib.hid (Hq13.out.belowW hbl)
    have Hr14 := Lib.hid (show SetAt w14 kr gr 200 X from hS)
    clear hb hg hS hbl
    go_wp2_with fail
    refine (join_or kr gr 200 _ ky gy _ _ Hr14.out Hy14.out HT14.out).mono ?_
    rintro e w15 ⟨rfl, hS, hbt⟩
    have HB15 : Hid (Below w.heap.size w w15) := Lib.hid (HB14.out.trans (hbt.below HGr.out.2 HB14.out.size))
    have HT15 := Lib.hid (HT.out.below HB15.out HT.out.pos)
    have Hx15 := Lib.hid (Hx14.out.but hbt (by have := APxr.out; omega) (by have := APxr.out; omega))
    have Hy15 := Lib.hid (Hy14.out.but hbt (by have := APyr.out; omega) (by have := APyr.out; omega))
    have Hz15 := Lib.hid (Hz14.out.but hbt (by have := APzr.out; omega) (by have := APzr.out; omega))
    have Hp15 := Lib.hid (Hp14.out.but hbt (by have := APpr.out; omega) (by have := APpr.out; omega))
    have Hq15 := Lib.hid (Hq14.out.but hbt (by have := APqr.out; omega) (by have := APqr.out; omega))
    have Hr15 := Lib.hid (show SetAt w15 kr gr 200 (orP X Y) from hS)
    clear hS hbt
    go_wp2_with fail
    refine (less_sub kr gr 200 _ kz gz 200 _ _ Hr15.out Hz15.out HT15.out).mono ?_
    rintro e w16 ⟨⟨_, rfl⟩, hS, hbt⟩
    have HB16 : Hid (Below w.heap.size w w16) := Lib.hid (HB15.out.trans (hbt.below HGr.out.2 HB15.out.size))
    have HT16 := Lib.hid (HT.out.below HB16.out HT.out.pos)
    have Hx16 := Lib.hid (Hx15.out.but hbt (by have := APxr.out; omega) (by have := APxr.out; omega))
    have Hy16 := Lib.hid (Hy15.out.but hbt (by have := APyr.out; omega) (by have := APyr.out; omega))
    have Hz16 := Lib.hid (Hz15.out.but hbt (by have := APzr.out; omega) (by have := APzr.out; omega))
    have Hp16 := Lib.hid (Hp15.out.but hbt (by have := APpr.out; omega) (by have := APpr.out; omega))
    have Hq16 := Lib.hid (Hq15.out.but hbt (by have := APqr.out; omega) (by have := APqr.out; omega))
    have Hr16 := Lib.hid (show SetAt w16 kr gr 200 (subP (orP X Y) Z) from hS)
    clear hS hbt
    go_wp2
    go_loopw [15] (fun s15 wr => HasRel w16 s15 wr) (fun s15 _ => 200 - (intOf s15).toNat)
    case atStart => exact ⟨0, Nat.zero_le _, rfl, rfl⟩
    case round =>
      obtain ⟨k, hk, rfl, rfl⟩ := hrel
      by_cases hlt : k < 200
      · have Kp : Hid (Calls Tryd.prog 12 #[.pointer (some ⟨kp, 0, none⟩), .int .i64 (k : Int)] w16 fun e w' => e = .returned (.bool ((X k || Y k) || Z k)) ∧ w16 = w') := Lib.hid (has_in kp gp 200 k _ _ Hp16.out hlt)
        have Kq : Hid (Calls Tryd.prog 12 #[.pointer (some ⟨kq, 0, none⟩), .int .i64 (k : Int)] w16 fun e w' => e = .returned (.bool ((((Y k || X k) || Z k) && !Z k))) ∧ w16 = w') := Lib.hid (has_in kq gq 200 k _ _ Hq16.out hlt)
        have Kx : Hid (Calls Tryd.prog 12 #[.pointer (some ⟨kx, 0, none⟩), .int .i64 (k : Int)] w16 fun e w' => e = .returned (.bool (X k)) ∧ w16 = w') := Lib.hid (has_in kx gx 200 k _ _ Hx16.out hlt)
        have Ky : Hid (Calls Tryd.prog 12 #[.pointer (some ⟨ky, 0, none⟩), .int .i64 (k : Int)] w16 fun e w' => e = .returned (.bool (Y k)) ∧ w16 = w') := Lib.hid (has_in ky gy 200 k _ _ Hy16.out hlt)
        have Kz : Hid (Calls Tryd.prog 12 #[.pointer (some ⟨kz, 0, none⟩), .int .i64 (k : Int)] w16 fun e w' => e = .returned (.bool (Z k)) ∧ w16 = w') := Lib.hid (has_in kz gz 200 k _ _ Hz16.out hlt)
        cases hXk : X k <;> cases hYk : Y k <;> cases hZk : Z k
        all_goals
          rw [hXk, hYk, hZk] at Kp Kq
          rw [hXk] at Kx
          rw [hYk] at Ky
          rw [hZk] at Kz
          clear hXk hYk hZk
          go_wp2_with (first | (go_at_call 12; (with_reducible refine Kp.out.mono ?_); rintro e w100 ⟨rfl, rfl⟩) | (go_at_call 12; (with_reducible refine Kx.out.mono ?_); rintro e w100 ⟨rfl, rfl⟩) | (go_at_call 12; (with_reducible refine Ky.out.mono ?_); rintro e w100 ⟨rfl, rfl⟩) | (go_at_call 12; (with_reducible refine Kz.out.mono ?_); rintro e w100 ⟨rfl, rfl⟩) | (go_at_call 12; (with_reducible refine Kq.out.mono ?_); rintro e w100 ⟨rfl, rfl⟩))
          exact ⟨⟨k + 1, by omega, by go_num, rfl⟩, by simp [intOf]; omega⟩
      · go_wp2_with fail
        refine (same_any kq gq 200 _ kr gr 200 _ _ Hq16.out Hr16.out HT16.out).mono ?_
        rintro e w17 ⟨rfl, hbl⟩
        rw [sameI_congr (sub_eq X Y Z)]
        have HBE : Hid (Below w.heap.size w w17) := Lib.hid (HB16.out.trans (hbl.mono HB16.out.size))
        clear hbl
        go_wp2
        go_ret
        exact ⟨rfl, HBE.out⟩

theorem contract (H : Type) (enc : TypeId × Value → H) (W : World) (base : Nat) (args : Array Value) (ds gs : List (DataW H)) (before : List MemPlace)
    (hval : ∀ (j : Nat) t v, Tryd.f6.params[j]? = some t → args[j]? = some v → Value.okWide Tryd.prog W .any base t v)
    (hW : DataW.Whole enc Tryd.prog Tryd.f6.params.toList Rows.bitsAlgebraSpec.vars false W args.toList ds gs before) (hL : laidMetH Tryd.prog Rows.bitsAlgebraRow.laid W) :
    Calls Tryd.prog 6 args W fun e W' => ∃ v, e = .returned v ∧ Rows.bitsAlgebraSpec.post enc Tryd.prog Tryd.f6 false true false false W args v W' := by
  have hW' := hW
  obtain ⟨p, q, hA0, hV, rfl, hfz, hnd⟩ := hW
  have hA : DataW.TrodAll enc Tryd.prog W 0 (fun _ => true) true Tryd.f6.params.toList args.toList ds p := hA0
  rw [Tryd.params6] at hA hval
  obtain ⟨v0, vs0, d0, ds0, p0, q0, hargs, rfl, rfl, h0, r0⟩ := trodAll_cons hA
  obtain ⟨v1, vs1, d1, ds1, p1, q1, rfl, rfl, rfl, h1, r1⟩ := trodAll_cons r0
  obtain ⟨v2, vs2, d2, ds2, p2, q2, rfl, rfl, rfl, h2, r2⟩ := trodAll_cons r1
  obtain ⟨rfl, rfl, rfl⟩ := trodAll_nil r2
  obtain rfl : args = #[v0, v1, v2] := by cases args; simp_all
  obtain ⟨rfl, rfl⟩ := trodVars_none hV
  obtain ⟨A0, n0, c0, z0, rfl, hc0, hn0, hl0, hr0, hw0⟩ := open_row_ints Tryd.underlying27 Tryd.underlying3 (by kernel_rfl) (hval 0 27 v0 rfl rfl) h0
  obtain ⟨A1, n1, c1, z1, rfl, hc1, hn1, hl1, hr1, hw1⟩ := open_row_ints Tryd.underlying27 Tryd.underlying3 (by kernel_rfl) (hval 1 27 v1 rfl rfl) h1
  obtain ⟨A2, n2, c2, z2, rfl, hc2, hn2, hl2, hr2, hw2⟩ := open_row_ints Tryd.underlying27 Tryd.underlying3 (by kernel_rfl) (hval 2 27 v2 rfl rfl) h2
  clear hA0
  refine (walk W (bitsAlgebra_tab hL) A0 n0 c0 z0 hc0 hn0 hl0 hr0 hw0 A1 n1 c1 z1 hc1 hn1 hl1 hr1 hw1 A2 n2 c2 z2 hc2 hn2 hl2 hr2 hw2).mono fun e W' ⟨he, hg⟩ => ?_
  subst he
  exact ⟨_, rfl, post_law kids full (by rw [Tryd.params6]; decide +kernel) rfl hW' rfl rfl rfl hg (by kernel_rfl) Tryd.underlying4⟩

theorem reads (os : Os) {H : Type} (enc : TypeId × Value → H) : ∃ places, DataW.whole enc Tryd.prog ((laidWorld os).forCall (fun _ _ => 0) ⟨#[], #[.slice none 0 0, .slice none 0 0, .slice none 0 0], []⟩).memory Tryd.f6.params.toList Rows.bitsAlgebraSpec.vars false #[.slice none 0 0, .slice none 0 0, .slice none 0 0].toList 8 = some ([.nil, .nil, .nil], [], places) :=
  ⟨[], by kernel_rfl⟩

set_option maxRecDepth 100000 in
theorem lifted (os : Os) (started : os.Started) (H : Type) (enc : TypeId × Value → H) (F : Stop.Interp) :
    ReturnsInHanded {} Tryd.checked os 6 .any ((OpenSpec.ofChange Rows.bitsAlgebraSpec).preRow enc Tryd.prog Tryd.f6 Rows.bitsAlgebraRow.domain false Rows.bitsAlgebraRow.laid) (((OpenSpec.ofChange Rows.bitsAlgebraSpec).at F).post enc Tryd.prog Tryd.f6 false true false false) := by
  obtain ⟨places, hx⟩ := reads os enc
  refine returnsInHanded_of_row (C := Tryd.checked) (s := OpenSpec.ofChange Rows.bitsAlgebraSpec) own started (by kernel_rfl) Tryd.func6
    (witness_row_atRef (enc := enc) (C := Tryd.checked) false (laidWorld os) #[.slice none 0 0, .slice none 0 0, .slice none 0 0] rfl (by kernel_rfl) (by kernel_rfl) (by kernel_rfl)
      (OpenSpec.preRow_of_cond 8 hx (by kernel_rfl) (fun k hk => by cases hk) (by kernel_rfl) (bitsAlgebra_met os _))) ?_
  intro W base args ds gs before hval hW _ _ _ hL _ _
  exact contract H enc W base args ds gs before hval hW hL

theorem said : Rows.BitsAlgebraSaid :=
  OpenClaim.holds_of_cond 6 Tryd.f6 rfl rfl rfl rfl rfl rfl rfl ⟨rfl, rfl, rfl, rfl, rfl⟩ rfl rfl rfl rfl rfl (by kernel_rfl) Tryd.func6 (by kernel_rfl)
    (of_decide_eq_true (by kernel_rfl)) (by unfold Func.isWrapper; first | (rw [if_pos (by decide +kernel)]; kernel_rfl) | (rw [if_neg (by decide +kernel)]; exact ⟨rfl, rfl⟩))
    (fun os started H enc _ F => by rw [OpenClaim.pre_eq_preRow]; exact lifted os started H enc F)

theorem plain (f : FuncId) (fn : Func) (hf : Tryd.pinned.checked.prog.funcNamed "overdrive/overdrivelaw2.BitsAlgebra" = some f) (hfn : Tryd.pinned.checked.prog.funcs[f]? = some fn) :
    false = Tryd.pinned.checked.prog.looks [] ∧ ∀ (j : Nat) t, fn.params[j]? = some t → Tryd.pinned.checked.prog.wantsStandIn t = false := by
  obtain rfl : f = 6 := Option.some.inj ((show Tryd.prog.funcNamed "overdrive/overdrivelaw2.BitsAlgebra" = some 6 by kernel_rfl).symm.trans hf) |>.symm
  obtain rfl : fn = Tryd.f6 := (Option.some.inj (Tryd.func6.symm.trans hfn)).symm
  refine ⟨by kernel_rfl, fun j t ht => ?_⟩
  have hm := Array.mem_of_getElem? ht
  have hall : (Tryd.f6.params.toList.all fun t => Tryd.prog.wantsStandIn t == false) = true := by kernel_rfl
  have hw : Tryd.prog.wantsStandIn t = false := by simpa using List.all_eq_true.1 hall t (by simpa using hm)
  exact hw

theorem card : Rows.BitsAlgebraCardSaid :=
  Claim7.holds_tied_plain_at .later [] _ _ _ _ said (fun _ h => by cases h) (by kernel_rfl) (fun _ h => by cases h) bitsAlgebra_row_tie rfl ⟨rfl, rfl⟩ (by kernel_rfl) rfl plain (by kernel_rfl)
#print axioms card
end Go.Proofs.YtcaoeoggabbekaaDoor.bitsAlgebra
