/- BitsApart, the card: for every input the call returns true and each argument reads afterwards as it read before; no further conditions. -/
import Derived.Test.YtcaoeoggabbekaaDoorAlg
import Derived.Test.YtcaoeoggabbekaaDoorTab
import Derived.Test.YtcaoeoggabbekaaDoorCards
import Derived.Test.YtcaoeoggabbekaaDoorTie
namespace Go.Proofs.YtcaoeoggabbekaaDoor.bitsApart
open Go.RowKit Go.ChangeShapes Go.WideShapes Go.ChangeAt
set_option linter.unusedVariables false

theorem own : ownKnob Tryd.prog.godebug = none := by kernel_rfl
theorem kids : Kids Tryd.prog (· < Tryd.prog.types.size) := kids_rows (by kernel_rfl) (by kernel_rfl)
theorem full : ∀ t e, t < Tryd.prog.types.size → Tryd.prog.underlying t = some (.slice e) → 0 < Tryd.prog.cellsOf e := slices_full_of Tryd.prog (by kernel_rfl)

theorem and127 (a : Int) (h : (Lit.int .i64 a).wf = true) : ∃ n : Nat, n < 128 ∧ bits BinOp.and IntKind.i64 a 127 = (n : Int) := by
  have hl : (BitVec.ofInt 64 a &&& BitVec.ofInt 64 127).toNat < 128 := by
    rw [BitVec.toNat_and]
    exact Nat.lt_of_le_of_lt Nat.and_le_right (by decide)
  refine ⟨(BitVec.ofInt 64 a &&& BitVec.ofInt 64 127).toNat, hl, ?_⟩
  show IntKind.i64.wrap ((BitVec.ofInt 64 a &&& BitVec.ofInt 64 127).toNat : Int) = _
  exact IntWalk.i64_in _ (by omega)
theorem hasZ_add (p : Nat → Bool) (t : Nat) (h : t < 200) : hasZ (addP p 200 (t : Int)) (t : Int) = true := by
  simp [hasZ, addP, h]
def WipeRel (B : Nat) (w : World) (m gl : Nat) (s14 : Value) (wr : World) : Prop :=
  ∃ k : Nat, k ≤ m ∧ s14 = .int .i64 (k : Int) ∧ Below B w wr ∧ (0 < m → ∃ cs : Array Value, Blk wr gl 3 cs ∧ m ≤ cs.size)
set_option maxRecDepth 100000 in
theorem walk_long (w : World) (hT : TabIn w) (A0 A1 : Option Addr) (n0 n1 c0 c1 : Nat) (a2 : Int) (h : 40 < n0 ∨ 40 < n1) :
    Calls Tryd.prog 7 #[.slice A0 n0 c0, .slice A1 n1 c1, .int .i64 a2] w fun e w' => e = .returned (.bool true) ∧ Below w.heap.size w w' := by
  have HT := Lib.hid hT
  clear hT
  by_cases h0 : 40 < n0
  · have h0' : (40 : Int) < (n0 : Int) := by omega
    clear h
    go_enter Tryd.func7, Tryd.ntmps7
    go_wp2_with fail
    refine (first_any _ HT.out).mono ?_
    rintro e w1 ⟨rfl, hb1⟩
    have HB1 := Lib.hid hb1
    clear hb1
    go_wp2
    go_ret
    exact ⟨rfl, HB1.out⟩
  · have h0' : ¬ (40 : Int) < (n0 : Int) := by omega
    have h1' : (40 : Int) < (n1 : Int) := by omega
    clear h
    go_enter Tryd.func7, Tryd.ntmps7
    go_wp2_with fail
    refine (first_any _ HT.out).mono ?_
    rintro e w1 ⟨rfl, hb1⟩
    have HB1 := Lib.hid hb1
    clear hb1
    go_wp2
    go_ret
    exact ⟨rfl, HB1.out⟩
set_option maxRecDepth 100000 in
set_option maxHeartbeats 4000000 in
theorem walk (w : World) (hT : TabIn w) (A0 : Option Addr) (n0 c0 : Nat) (z0 : List Int) (hc0 : n0 ≤ c0) (hn0 : c0 ≤ maxLen) (hl0 : z0.length = n0) (hr0 : Reads w w.heap.size 1 A0 n0 (z0.map (Value.int .i64))) (hw0 : ∀ z ∈ z0, (Lit.int .i64 z).wf = true) (A1 : Option Addr) (n1 c1 : Nat) (z1 : List Int) (hc1 : n1 ≤ c1) (hn1 : c1 ≤ maxLen) (hl1 : z1.length = n1) (hr1 : Reads w w.heap.size 1 A1 n1 (z1.map (Value.int .i64))) (hw1 : ∀ z ∈ z1, (Lit.int .i64 z).wf = true) (a2 : Int) (w2 : (Lit.int .i64 a2).wf = true) :
    Calls Tryd.prog 7 #[.slice A0 n0 c0, .slice A1 n1 c1, .int .i64 a2] w fun e w' => e = .returned (.bool true) ∧ Below w.heap.size w w' := by
  by_cases hlong : 40 < n0 ∨ 40 < n1
  · exact walk_long w hT A0 A1 n0 n1 c0 c1 a2 hlong
  have h0' : ¬ (40 : Int) < (n0 : Int) := by omega
  have h1' : ¬ (40 : Int) < (n1 : Int) := by omega
  obtain ⟨t, ht, hand⟩ := and127 a2 w2
  have HT := Lib.hid hT
  have HR0 := Lib.hid hr0
  have HR1 := Lib.hid hr1
  clear hT hr0 hr1 hw0 hw1 w2 hl0 hl1 hlong
  obtain ⟨X, hX⟩ : ∃ X, X = memP 200 z0 := ⟨_, rfl⟩
  obtain ⟨Y, hY⟩ : ∃ Y, Y = memP 200 z1 := ⟨_, rfl⟩
  have HX := Lib.hid hX
  have HY := Lib.hid hY
  clear hX hY
  go_enter Tryd.func7, Tryd.ntmps7
  go_wp2_with fail
  refine (first_any _ HT.out).mono ?_
  rintro e w1 ⟨rfl, hb1⟩
  have HB1 := Lib.hid hb1
  have HT1 := Lib.hid (HT.out.below HB1.out HT.out.pos)
  clear hb1
  go_wp2_with fail
  refine (set_any 200 A0 n0 c0 z0 _ ((HR0.out.below HB1.out).more HB1.out.size) (by omega) HT1.out.pos).mono ?_
  rintro e w2 ⟨kx, gx, rfl, hb, hg, hS, hbl⟩
  have HB2 : Hid (Below w.heap.size w w2) := Lib.hid (HB1.out.trans (hbl.mono HB1.out.size))
  have HT2 := Lib.hid (HT.out.below HB2.out HT.out.pos)
  have HGx : Hid (w.heap.size ≤ kx ∧ w.heap.size ≤ gx) := Lib.hid (by have := HB1.out.size; omega)
  have Hx2 := Lib.hid (show SetAt w2 kx gx 200 X by rw [HX.out]; exact hS)
  clear hb hg hS hbl
  go_wp2_with fail
  refine (set_any 200 A1 n1 c1 z1 _ ((HR1.out.below HB2.out).more HB2.out.size) (by omega) HT2.out.pos).mono ?_
  rintro e w3 ⟨ky, gy, rfl, hb, hg, hS, hbl⟩
  have HB3 : Hid (Below w.heap.size w w3) := Lib.hid (HB2.out.trans (hbl.mono HB2.out.size))
  have HT3 := Lib.hid (HT.out.below HB3.out HT.out.pos)
  have HGy : Hid (w.heap.size ≤ ky ∧ w.heap.size ≤ gy) := Lib.hid (by have := HB2.out.size; omega)
  have APxy : Hid (kx < ky ∧ kx < gy ∧ gx < ky ∧ gx < gy) := Lib.hid (by have := Hx2.out.sizes; omega)
  have Hx3 := Lib.hid (Hx2.out.belowW hbl)
  have Hy3 := Lib.hid (show SetAt w3 ky gy 200 Y by rw [HY.out]; exact hS)
  clear hb hg hS hbl
  go_wp2_with fail
  refine (list_any ky gy 200 _ _ Hy3.out HT3.out).mono ?_
  rintro e w4 ⟨vW, rfl, hown, hbl⟩
  have HB4 : Hid (Below w.heap.size w w4) := Lib.hid (HB3.out.trans (hbl.mono HB3.out.size))
  have HT4 := Lib.hid (HT.out.below HB4.out HT.out.pos)
  have Hx4 := Lib.hid (Hx3.out.belowW hbl)
  have Hy4 := Lib.hid (Hy3.out.belowW hbl)
  obtain ⟨mW, hm⟩ : ∃ m, m = (elsI Y 200).length := ⟨_, rfl⟩
  have hm2W : mW ≤ 200 := by rw [hm, elsI_len]; exact els_len _ _
  rw [← hm] at hown
  have HMW := Lib.hid hm
  have HOWNW := Lib.hid hown
  have HSZW4 : Hid (w4.heap.size ≤ w4.heap.size) := Lib.hid (Nat.le_refl _)
  obtain ⟨AW, cW, rfl, hr⟩ := own_reads hown
  have HLW4 := Lib.hid hr
  have HSBW : Hid (w3.heap.size ≤ w4.heap.size) := Lib.hid hbl.size
  clear hown hr hm hbl
  go_wp2_with fail
  refine (copy_any kx gx 200 X _ Hx4.out).mono ?_
  rintro e w5 ⟨kc, gc, rfl, hb, hg, hS, hbl⟩
  have HB5 : Hid (Below w.heap.size w w5) := Lib.hid (HB4.out.trans (hbl.mono HB4.out.size))
  have HT5 := Lib.hid (HT.out.below HB5.out HT.out.pos)
  have HGc : Hid (w.heap.size ≤ kc ∧ w.heap.size ≤ gc) := Lib.hid (by have := HB4.out.size; omega)
  have APxc : Hid (kx < kc ∧ kx < gc ∧ gx < kc ∧ gx < gc) := Lib.hid (by have := Hx4.out.sizes; omega)
  have APyc : Hid (ky < kc ∧ ky < gc ∧ gy < kc ∧ gy < gc) := Lib.hid (by have := Hy4.out.sizes; omega)
  have Hx5 := Lib.hid (Hx4.out.belowW hbl)
  have Hy5 := Lib.hid (Hy4.out.belowW hbl)
  have HGLWc : Hid (w4.heap.size ≤ gc) := Lib.hid (by have := HSZW4.out; omega)
  have HLW5 := Lib.hid (HLW4.out.below (hbl.mono HSZW4.out))
  have HSZW5 : Hid (w4.heap.size ≤ w5.heap.size) := Lib.hid (by have := HSZW4.out; have := hbl.size; omega)
  have Hc5 := Lib.hid (show SetAt w5 kc gc 200 X from hS)
  clear hb hg hS hbl
  go_wp2_with fail
  refine (join_or kc gc 200 _ ky gy _ _ Hc5.out Hy5.out HT5.out).mono ?_
  rintro e w6 ⟨rfl, hS, hbt⟩
  have HB6 : Hid (Below w.heap.size w w6) := Lib.hid (HB5.out.trans (hbt.below HGc.out.2 HB5.out.size))
  have HT6 := Lib.hid (HT.out.below HB6.out HT.out.pos)
  have Hx6 := Lib.hid (Hx5.out.but hbt (by have := APxc.out; omega) (by have := APxc.out; omega))
  have Hy6 := Lib.hid (Hy5.out.but hbt (by have := APyc.out; omega) (by have := APyc.out; omega))
  have HLW6 := Lib.hid (HLW5.out.below (hbt.below HGLWc.out HSZW5.out))
  have HSZW6 : Hid (w4.heap.size ≤ w6.heap.size) := Lib.hid (by have := HSZW5.out; have := hbt.size; omega)
  have Hc6 := Lib.hid (show SetAt w6 kc gc 200 (orP X Y) from hS)
  clear hS hbt
  go_wp2_with fail
  refine (add_any kc gc 200 (t : Int) _ _ Hc6.out).mono ?_
  rintro e w7 ⟨rfl, hS, hbt⟩
  have HB7 : Hid (Below w.heap.size w w7) := Lib.hid (HB6.out.trans (hbt.below HGc.out.2 HB6.out.size))
  have HT7 := Lib.hid (HT.out.below HB7.out HT.out.pos)
  have Hx7 := Lib.hid (Hx6.out.but hbt (by have := APxc.out; omega) (by have := APxc.out; omega))
  have Hy7 := Lib.hid (Hy6.out.but hbt (by have := APyc.out; omega) (by have := APyc.out; omega))
  have HLW7 := Lib.hid (HLW6.out.below (hbt.below HGLWc.out HSZW6.out))
  have HSZW7 : Hid (w4.heap.size ≤ w7.heap.size) := Lib.hid (by have := HSZW6.out; have := hbt.size; omega)
  have Hc7 := Lib.hid (show SetAt w7 kc gc 200 (addP (orP X Y) 200 (t : Int)) from hS)
  clear hS hbt
  go_wp2_with fail
  refine (copy_any kx gx 200 X _ Hx7.out).mono ?_
  rintro e w8 ⟨kd, gd, rfl, hb, hg, hS, hbl⟩
  have HB8 : Hid (Below w.heap.size w w8) := Lib.hid (HB7.out.trans (hbl.mono HB7.out.size))
  have HT8 := Lib.hid (HT.out.below HB8.out HT.out.pos)
  have HGd : Hid (w.heap.size ≤ kd ∧ w.heap.size ≤ gd) := Lib.hid (by have := HB7.out.size; omega)
  have APxd : Hid (kx < kd ∧ kx < gd ∧ gx < kd ∧ gx < gd) := Lib.hid (by have := Hx7.out.sizes; omega)
  have APyd : Hid (ky < kd ∧ ky < gd ∧ gy < kd ∧ gy < gd) := Lib.hid (by have := Hy7.out.sizes; omega)
  have APcd : Hid (kc < kd ∧ kc < gd ∧ gc < kd ∧ gc < gd) := Lib.hid (by have := Hc7.out.sizes; omega)
  have Hx8 := Lib.hid (Hx7.out.belowW hbl)
  have Hy8 := Lib.hid (Hy7.out.belowW hbl)
  have Hc8 := Lib.hid (Hc7.out.belowW hbl)
  have HGLWd : Hid (w4.heap.size ≤ gd) := Lib.hid (by have := HSZW7.out; omega)
  have HLW8 := Lib.hid (HLW7.out.below (hbl.mono HSZW7.out))
  have HSZW8 : Hid (w4.heap.size ≤ w8.heap.size) := Lib.hid (by have := HSZW7.out; have := hbl.size; omega)
  have Hd8 := Lib.hid (show SetAt w8 kd gd 200 X from hS)
  clear hb hg hS hbl
  go_wp2_with fail
  refine (less_sub kd gd 200 _ ky gy 200 _ _ Hd8.out Hy8.out HT8.out).mono ?_
  rintro e w9 ⟨⟨_, rfl⟩, hS, hbt⟩
  have HB9 : Hid (Below w.heap.size w w9) := Lib.hid (HB8.out.trans (hbt.below HGd.out.2 HB8.out.size))
  have HT9 := Lib.hid (HT.out.below HB9.out HT.out.pos)
  have Hx9 := Lib.hid (Hx8.out.but hbt (by have := APxd.out; omega) (by have := APxd.out; omega))
  have Hy9 := Lib.hid (Hy8.out.but hbt (by have := APyd.out; omega) (by have := APyd.out; omega))
  have Hc9 := Lib.hid (Hc8.out.but hbt (by have := APcd.out; omega) (by have := APcd.out; omega))
  have HLW9 := Lib.hid (HLW8.out.below (hbt.below HGLWd.out HSZW8.out))
  have HSZW9 : Hid (w4.heap.size ≤ w9.heap.size) := Lib.hid (by have := HSZW8.out; have := hbt.size; omega)
  have Hd9 := Lib.hid (show SetAt w9 kd gd 200 (subP X Y) from hS)
  clear hS hbt
  go_wp2_with fail
  refine (list_any kx gx 200 _ _ Hx9.out HT9.out).mono ?_
  rintro e w10 ⟨vL, rfl, hown, hbl⟩
  have HB10 : Hid (Below w.heap.size w w10) := Lib.hid (HB9.out.trans (hbl.mono HB9.out.size))
  have HT10 := Lib.hid (HT.out.below HB10.out HT.out.pos)
  have Hx10 := Lib.hid (Hx9.out.belowW hbl)
  have Hy10 := Lib.hid (Hy9.out.belowW hbl)
  have Hc10 := Lib.hid (Hc9.out.belowW hbl)
  have Hd10 := Lib.hid (Hd9.out.belowW hbl)
  have HLW10 := Lib.hid (HLW9.out.below (hbl.mono HSZW9.out))
  have HSZW10 : Hid (w4.heap.size ≤ w10.heap.size) := Lib.hid (by have := HSZW9.out; have := hbl.size; omega)
  obtain ⟨mL, hm⟩ : ∃ m, m = (elsI X 200).length := ⟨_, rfl⟩
  have hm2L : mL ≤ 200 := by rw [hm, elsI_len]; exact els_len _ _
  rw [← hm] at hown
  have HML := Lib.hid hm
  have HOWNL := Lib.hid hown
  have HSZL10 : Hid (w10.heap.size ≤ w10.heap.size) := Lib.hid (Nat.le_refl _)
  obtain ⟨AL, cL, rfl, hr⟩ := own_reads hown
  have HLL10 := Lib.hid hr
  have HSBL : Hid (w9.heap.size ≤ w10.heap.size) := Lib.hid hbl.size
  clear hown hr hm hbl
  have HGLI : Hid (mL = 0 ∨ ∃ gl, AL = some ⟨gl, 0, none⟩ ∧ w9.heap.size ≤ gl ∧ ∃ cs : Array Value, Blk w10 gl 3 cs ∧ mL ≤ cs.size) := Lib.hid (by
    rcases HOWNL.out.2 with ⟨_, hn⟩ | ⟨gl, cap, cur, hv, hg, hh, hcap, _, hcs, _⟩
    · exact .inl hn
    · exact .inr ⟨gl, by injection hv, hg, cur, hh, by omega⟩)
  go_wp2
  obtain ⟨gl, hgl⟩ : ∃ gl, gl = (match AL with | some a => a.block | none => w9.heap.size) := ⟨_, rfl⟩
  have HGL2 : Hid (0 < mL → AL = some ⟨gl, 0, none⟩ ∧ w9.heap.size ≤ gl ∧ ∃ cs : Array Value, Blk w10 gl 3 cs ∧ mL ≤ cs.size) := Lib.hid (fun hpos => by
    rcases HGLI.out with h | ⟨g', rfl, h1, h2⟩
    · omega
    · obtain rfl : gl = g' := hgl
      exact ⟨rfl, h1, h2⟩)
  clear hgl
  go_loopw [14] (fun s14 wr => WipeRel w9.heap.size w10 mL gl s14 wr) (fun s14 _ => mL - (intOf s14).toNat)
  case atStart => exact ⟨0, Nat.zero_le _, rfl, Below.refl _ _, fun h => (HGL2.out h).2.2⟩
  case round =>
    obtain ⟨k, hk, rfl, hbr, hcs⟩ := hrel
    have HBR := Lib.hid hbr
    have HCS := Lib.hid hcs
    clear hbr hcs
    by_cases hlt : k < mL
    · obtain ⟨rfl, hgl, _⟩ := HGL2.out (by omega)
      obtain ⟨cs, hbk, hsz⟩ := HCS.out (by omega)
      have hcell : wr.cell? ⟨gl, k, none⟩ = some cs[k] := (hbk.cell k).trans (Array.getElem?_eq_getElem (by omega))
      have hfr : wr.frozen? ⟨gl, k, none⟩ = false := hbk.frozen k
      have HBK := Lib.hid hbk
      have k0 : (0 : Int) ≤ (k : Int) := by omega
      have k1 : (k : Int) < (mL : Int) := by omega
      clear hbk
      go_wp2
      exact ⟨⟨k + 1, by omega, by go_num, HBR.out.setCell (p := ⟨gl, k, none⟩) hgl _, fun _ => ⟨_, HBK.out.set_ k _, by simp; omega⟩⟩, by simp [intOf]; omega⟩
    · have HBX := Lib.hid HBR.out
      obtain ⟨w11, hw11⟩ : ∃ w11, w11 = wr := ⟨_, rfl⟩
      subst hw11
      have HB11 : Hid (Below w.heap.size w w11) := Lib.hid (HB10.out.trans (HBR.out.mono HB9.out.size))
      have HT11 := Lib.hid (HT.out.below HB11.out HT.out.pos)
      have Hx11 := Lib.hid (Hx10.out.below HBR.out Hx9.out.sizes.1 Hx9.out.sizes.2 HSBL.out)
      have Hy11 := Lib.hid (Hy10.out.below HBR.out Hy9.out.sizes.1 Hy9.out.sizes.2 HSBL.out)
      have Hc11 := Lib.hid (Hc10.out.below HBR.out Hc9.out.sizes.1 Hc9.out.sizes.2 HSBL.out)
      have Hd11 := Lib.hid (Hd10.out.below HBR.out Hd9.out.sizes.1 Hd9.out.sizes.2 HSBL.out)
      have HLW11 := Lib.hid (HLW10.out.below (HBR.out.mono HSZW9.out))
      have HSZW11 : Hid (w4.heap.size ≤ w11.heap.size) := Lib.hid (by have := HSZW10.out; have := HBR.out.size; omega)
      go_wp2_with fail
      refine (set_any 200 A0 n0 c0 z0 _ ((HR0.out.below HB11.out).more HB11.out.size) (by omega) HT11.out.pos).mono ?_
      rintro e w12 ⟨kz, gz, rfl, hb, hg, hS, hbl⟩
      have HB12 : Hid (Below w.heap.size w w12) := Lib.hid (HB11.out.trans (hbl.mono HB11.out.size))
      have HT12 := Lib.hid (HT.out.below HB12.out HT.out.pos)
      have HGz : Hid (w.heap.size ≤ kz ∧ w.heap.size ≤ gz) := Lib.hid (by have := HB11.out.size; omega)
      have APxz : Hid (kx < kz ∧ kx < gz ∧ gx < kz ∧ gx < gz) := Lib.hid (by have := Hx11.out.sizes; omega)
      have APyz : Hid (ky < kz ∧ ky < gz ∧ gy < kz ∧ gy < gz) := Lib.hid (by have := Hy11.out.sizes; omega)
      have APcz : Hid (kc < kz ∧ kc < gz ∧ gc < kz ∧ gc < gz) := Lib.hid (by have := Hc11.out.sizes; omega)
      have APdz : Hid (kd < kz ∧ kd < gz ∧ gd < kz ∧ gd < gz) := Lib.hid (by have := Hd11.out.sizes; omega)
      have Hx12 := Lib.hid (Hx11.out.belowW hbl)
      have Hy12 := Lib.hid (Hy11.out.belowW hbl)
      have Hc12 := Lib.hid (Hc11.out.belowW hbl)
      have Hd12 := Lib.hid (Hd11.out.belowW hbl)
      have HGLWz : Hid (w4.heap.size ≤ gz) := Lib.hid (by have := HSZW11.out; omega)
      have HLW12 := Lib.hid (HLW11.out.below (hbl.mono HSZW11.out))
      have HSZW12 : Hid (w4.heap.size ≤ w12.heap.size) := Lib.hid (by have := HSZW11.out; have := hbl.size; omega)
      have Hz12 := Lib.hid (show SetAt w12 kz gz 200 X by rw [HX.out]; exact hS)
      clear hb hg hS hbl
      go_wp2_with fail
      refine (same_any kx gx 200 _ kz gz 200 _ _ Hx12.out Hz12.out HT12.out).mono ?_
      rintro e w13 ⟨rfl, hbl⟩
      rw [sameI_congr (fun j => rfl)]
      have HB13 : Hid (Below w.heap.size w w13) := Lib.hid (HB12.out.trans (hbl.mono HB12.out.size))
      have HT13 := Lib.hid (HT.out.below HB13.out HT.out.pos)
      have Hx13 := Lib.hid (Hx12.out.belowW hbl)
      have Hy13 := Lib.hid (Hy12.out.belowW hbl)
      have Hc13 := Lib.hid (Hc12.out.belowW hbl)
      have Hd13 := Lib.hid (Hd12.out.belowW hbl)
      have Hz13 := Lib.hid (Hz12.out.belowW hbl)
      have HLW13 := Lib.hid (HLW12.out.below (hbl.mono HSZW12.out))
      have HSZW13 : Hid (w4.heap.size ≤ w13.heap.size) := Lib.hid (by have := HSZW12.out; have := hbl.size; omega)
      clear hbl
      go_wp2_with fail
      refine (list_any ky gy 200 _ _ Hy13.out HT13.out).mono ?_
      rintro e w14 ⟨vV, rfl, hown, hbl⟩
      have HB14 : Hid (Below w.heap.size w w14) := Lib.hid (HB13.out.trans (hbl.mono HB13.out.size))
      have HT14 := Lib.hid (HT.out.below HB14.out HT.out.pos)
      have Hx14 := Lib.hid (Hx13.out.belowW hbl)
      have Hy14 := Lib.hid (Hy13.out.belowW hbl)
      have Hc14 := Lib.hid (Hc13.out.belowW hbl)
      have Hd14 := Lib.hid (Hd13.out.belowW hbl)
      have Hz14 := Lib.hid (Hz13.out.belowW hbl)
      have HLW14 := Lib.hid (HLW13.out.below (hbl.mono HSZW13.out))
      have HSZW14 : Hid (w4.heap.size ≤ w14.heap.size) := Lib.hid (by have := HSZW13.out; have := hbl.size; omega)
      obtain ⟨mV, hm⟩ : ∃ m, m = (elsI Y 200).length := ⟨_, rfl⟩
      have hm2V : mV ≤ 200 := by rw [hm, elsI_len]; exact els_len _ _
      rw [← hm] at hown
      have HMV := Lib.hid hm
      have HOWNV := Lib.hid hown
      have HSZV14 : Hid (w14.heap.size ≤ w14.heap.size) := Lib.hid (Nat.le_refl _)
      obtain ⟨AV, cV, rfl, hr⟩ := own_reads hown
      have HLV14 := Lib.hid hr
      have HSBV : Hid (w13.heap.size ≤ w14.heap.size) := Lib.hid hbl.size
      clear hown hr hm hbl
      go_wp2_with fail
      refine (sameI_any AV AW mV mW cV cW (elsI Y 200) (elsI Y 200) _ (by exact HLV14.out) (by exact HLW14.out.more HSZW14.out) (by omega)).mono ?_
      rintro e w15 ⟨rfl, hbl⟩
      rw [show sameI (elsI Y 200) (elsI Y 200) = true by simp [sameI]]
      have HB15 : Hid (Below w.heap.size w w15) := Lib.hid (HB14.out.trans (hbl.mono HB14.out.size))
      have Hc15 := Lib.hid (Hc14.out.belowW hbl)
      clear hbl
      go_wp2_with fail
      refine (has_any kc gc 200 (t : Int) _ _ Hc15.out).mono ?_
      rintro e w100 ⟨rfl, rfl⟩
      rw [hasZ_add _ t (by omega)]
      go_wp2
      go_ret
      exact ⟨rfl, HB15.out⟩

theorem contract (H : Type) (enc : TypeId × Value → H) (W : World) (base : Nat) (args : Array Value) (ds gs : List (DataW H)) (before : List MemPlace)
    (hval : ∀ (j : Nat) t v, Tryd.f7.params[j]? = some t → args[j]? = some v → Value.okWide Tryd.prog W .any base t v)
    (hW : DataW.Whole enc Tryd.prog Tryd.f7.params.toList Rows.bitsApartSpec.vars false W args.toList ds gs before) (hL : laidMetH Tryd.prog Rows.bitsApartRow.laid W) :
    Calls Tryd.prog 7 args W fun e W' => ∃ v, e = .returned v ∧ Rows.bitsApartSpec.post enc Tryd.prog Tryd.f7 false true false false W args v W' := by
  have hW' := hW
  obtain ⟨p, q, hA0, hV, rfl, hfz, hnd⟩ := hW
  have hA : DataW.TrodAll enc Tryd.prog W 0 (fun _ => true) true Tryd.f7.params.toList args.toList ds p := hA0
  rw [Tryd.params7] at hA hval
  obtain ⟨v0, vs0, d0, ds0, p0, q0, hargs, rfl, rfl, h0, r0⟩ := trodAll_cons hA
  obtain ⟨v1, vs1, d1, ds1, p1, q1, rfl, rfl, rfl, h1, r1⟩ := trodAll_cons r0
  obtain ⟨v2, vs2, d2, ds2, p2, q2, rfl, rfl, rfl, h2, r2⟩ := trodAll_cons r1
  obtain ⟨rfl, rfl, rfl⟩ := trodAll_nil r2
  obtain rfl : args = #[v0, v1, v2] := by cases args; simp_all
  obtain ⟨rfl, rfl⟩ := trodVars_none hV
  obtain ⟨A0, n0, c0, z0, rfl, hc0, hn0, hl0, hr0, hw0⟩ := open_row_ints Tryd.underlying27 Tryd.underlying3 (by kernel_rfl) (hval 0 27 v0 rfl rfl) h0
  obtain ⟨A1, n1, c1, z1, rfl, hc1, hn1, hl1, hr1, hw1⟩ := open_row_ints Tryd.underlying27 Tryd.underlying3 (by kernel_rfl) (hval 1 27 v1 rfl rfl) h1
  obtain ⟨a2, rfl, rfl, rfl, w2⟩ := open_int Tryd.underlying3 (hval 2 3 v2 rfl rfl) h2
  clear hA0
  refine (walk W (bitsApart_tab hL) A0 n0 c0 z0 hc0 hn0 hl0 hr0 hw0 A1 n1 c1 z1 hc1 hn1 hl1 hr1 hw1 a2 w2).mono fun e W' ⟨he, hg⟩ => ?_
  subst he
  exact ⟨_, rfl, post_law kids full (by rw [Tryd.params7]; decide +kernel) rfl hW' rfl rfl rfl hg (by kernel_rfl) Tryd.underlying4⟩

theorem reads (os : Os) {H : Type} (enc : TypeId × Value → H) : ∃ places, DataW.whole enc Tryd.prog ((laidWorld os).forCall (fun _ _ => 0) ⟨#[], #[.slice none 0 0, .slice none 0 0, .int .i64 0], []⟩).memory Tryd.f7.params.toList Rows.bitsApartSpec.vars false #[.slice none 0 0, .slice none 0 0, .int .i64 0].toList 8 = some ([.nil, .nil, .lit (.int .i64 0)], [], places) :=
  ⟨[], by kernel_rfl⟩

set_option maxRecDepth 100000 in
theorem lifted (os : Os) (started : os.Started) (H : Type) (enc : TypeId × Value → H) (F : Stop.Interp) :
    ReturnsInHanded {} Tryd.checked os 7 .any ((OpenSpec.ofChange Rows.bitsApartSpec).preRow enc Tryd.prog Tryd.f7 Rows.bitsApartRow.domain false Rows.bitsApartRow.laid) (((OpenSpec.ofChange Rows.bitsApartSpec).at F).post enc Tryd.prog Tryd.f7 false true false false) := by
  obtain ⟨places, hx⟩ := reads os enc
  refine returnsInHanded_of_row (C := Tryd.checked) (s := OpenSpec.ofChange Rows.bitsApartSpec) own started (by kernel_rfl) Tryd.func7
    (witness_row_atRef (enc := enc) (C := Tryd.checked) false (laidWorld os) #[.slice none 0 0, .slice none 0 0, .int .i64 0] rfl (by kernel_rfl) (by kernel_rfl) (by kernel_rfl)
      (OpenSpec.preRow_of_cond 8 hx (by kernel_rfl) (fun k hk => by cases hk) (by kernel_rfl) (bitsApart_met os _))) ?_
  intro W base args ds gs before hval hW _ _ _ hL _ _
  exact contract H enc W base args ds gs before hval hW hL

theorem said : Rows.BitsApartSaid :=
  OpenClaim.holds_of_cond 7 Tryd.f7 rfl rfl rfl rfl rfl rfl rfl ⟨rfl, rfl, rfl, rfl, rfl⟩ rfl rfl rfl rfl rfl (by kernel_rfl) Tryd.func7 (by kernel_rfl)
    (of_decide_eq_true (by kernel_rfl)) (by unfold Func.isWrapper; first | (rw [if_pos (by decide +kernel)]; kernel_rfl) | (rw [if_neg (by decide +kernel)]; exact ⟨rfl, rfl⟩))
    (fun os started H enc _ F => by rw [OpenClaim.pre_eq_preRow]; exact lifted os started H enc F)

theorem plain (f : FuncId) (fn : Func) (hf : Tryd.pinned.checked.prog.funcNamed "overdrive/overdrivelaw2.BitsApart" = some f) (hfn : Tryd.pinned.checked.prog.funcs[f]? = some fn) :
    false = Tryd.pinned.checked.prog.looks [] ∧ ∀ (j : Nat) t, fn.params[j]? = some t → Tryd.pinned.checked.prog.wantsStandIn t = false := by
  obtain rfl : f = 7 := Option.some.inj ((show Tryd.prog.funcNamed "overdrive/overdrivelaw2.BitsApart" = some 7 by kernel_rfl).symm.trans hf) |>.symm
  obtain rfl : fn = Tryd.f7 := (Option.some.inj (Tryd.func7.symm.trans hfn)).symm
  refine ⟨by kernel_rfl, fun j t ht => ?_⟩
  have hm := Array.mem_of_getElem? ht
  have hall : (Tryd.f7.params.toList.all fun t => Tryd.prog.wantsStandIn t == false) = true := by kernel_rfl
  have hw : Tryd.prog.wantsStandIn t = false := by simpa using List.all_eq_true.1 hall t (by simpa using hm)
  exact hw

theorem card : Rows.BitsApartCardSaid :=
  Claim7.holds_tied_plain_at .later [] _ _ _ _ said (fun _ h => by cases h) (by kernel_rfl) (fun _ h => by cases h) bitsApart_row_tie rfl ⟨rfl, rfl⟩ (by kernel_rfl) rfl plain (by kernel_rfl)
#print axioms card
end Go.Proofs.YtcaoeoggabbekaaDoor.bitsApart
