/- ScriptBack, the card: for every input the call returns true and each argument reads afterwards as it read before; no further conditions. -/
import Derived.Test.YtomabogjoampnaaDoorCutQ
import Derived.Test.YtomabogjoampnaaDoorPrint2
import Derived.Test.YtomabogjoampnaaDoorParse
import Derived.Test.YtomabogjoampnaaDoorBackP
import Derived.Test.YtomabogjoampnaaDoorDoor
import Derived.Test.YtomabogjoampnaaDoorCards
import Derived.Test.YtomabogjoampnaaDoorTie
namespace Go.Proofs.YtomabogjoampnaaDoor.scriptBack
open Go.RowKit Go.ChangeShapes Go.WideShapes Go.ChangeAt
set_option linter.unusedVariables false

theorem own : ownKnob Tryd.prog.godebug = none := by kernel_rfl
theorem kids : Kids Tryd.prog (· < Tryd.prog.types.size) := kids_rows (by kernel_rfl) (by kernel_rfl)
theorem full : ∀ t e, t < Tryd.prog.types.size → Tryd.prog.underlying t = some (.slice e) → 0 < Tryd.prog.cellsOf e := slices_full_of Tryd.prog (by kernel_rfl)

structure E6 (w : World) (ad : Nat → Addr) (ak ai as_ am : Addr) : Prop where
  e3 : E3 w ak ai as_
  b : w.cell? ⟨4, 0, none⟩ = some (.iface 91 (.pointer (some (ad 6))))
  e : w.cell? ⟨5, 0, none⟩ = some (.iface 91 (.pointer (some (ad 5))))
  m : w.cell? ⟨0, 0, none⟩ = some (eV am)
  big : 5 < w.heap.size
theorem E6.below {w w' : World} {ad : Nat → Addr} {ak ai as_ am : Addr} (h : E6 w ad ak ai as_ am) (hb : Below w.heap.size w w') : E6 w' ad ak ai as_ am where
  e3 := h.e3.below hb
  b := (hb.cell (p := ⟨4, 0, none⟩) (by have := h.big; simp; omega)).trans h.b
  e := (hb.cell (p := ⟨5, 0, none⟩) (by have := h.big; simp; omega)).trans h.e
  m := (hb.cell (p := ⟨0, 0, none⟩) (by have := h.big; simp; omega)).trans h.m
  big := Nat.lt_of_lt_of_le h.big hb.size
theorem lst6_at : ∀ i : Nat, i < 6 → ∃ x, lst6[i]? = some x ∧ Tryd.prog.globalNamed x.1 = some ([0, 1, 2, 3, 5, 4].getD i 0)
  | 0, _ => ⟨_, rfl, by kernel_rfl⟩
  | 1, _ => ⟨_, rfl, by kernel_rfl⟩
  | 2, _ => ⟨_, rfl, by kernel_rfl⟩
  | 3, _ => ⟨_, rfl, by kernel_rfl⟩
  | 4, _ => ⟨_, rfl, by kernel_rfl⟩
  | 5, _ => ⟨_, rfl, by kernel_rfl⟩
  | n + 6, h => by omega
theorem e6_of {w : World} {ads : List Addr} (e1 : ads.length = lst6.length) (e3 : ∀ (i : Nat) x a g, lst6[i]? = some x → ads[i]? = some a → Tryd.prog.globalNamed x.1 = some g → SentAt w g a) :
    E6 w (fun k => if k = 6 then ads.getD 5 ⟨0, 0, none⟩ else ads.getD 4 ⟨0, 0, none⟩) (ads.getD 1 ⟨0, 0, none⟩) (ads.getD 2 ⟨0, 0, none⟩) (ads.getD 3 ⟨0, 0, none⟩) (ads.getD 0 ⟨0, 0, none⟩) := by
  have hl : ads.length = 6 := e1
  have H : ∀ i, (h : i < 6) → SentAt w ([0, 1, 2, 3, 5, 4].getD i 0) (ads.getD i ⟨0, 0, none⟩) := fun i hi => by
    obtain ⟨x, hx, hg⟩ := lst6_at i hi
    have ha : ads[i]? = some (ads.getD i ⟨0, 0, none⟩) := by simp [List.getElem?_eq_getElem (show i < ads.length by omega)]
    exact e3 i x _ _ hx ha hg
  exact ⟨⟨(H 1 (by decide)).1, (H 2 (by decide)).1, (H 3 (by decide)).1, cell_lt (H 3 (by decide)).1⟩, (H 5 (by decide)).1, (H 4 (by decide)).1, (H 0 (by decide)).1, cell_lt (H 4 (by decide)).1⟩
set_option maxRecDepth 100000 in
set_option maxHeartbeats 8000000 in
theorem walk (w : World) (ads : List Addr) (e1 : ads.length = lst6.length) (e2 : ads.Nodup) (e3 : ∀ (i : Nat) x a g, lst6[i]? = some x → ads[i]? = some a → Tryd.prog.globalNamed x.1 = some g → SentAt w g a) (A0 : Option Addr) (n0 c0 : Nat) (z0 : List Pk) (hc0 : n0 ≤ c0) (hn0 : c0 ≤ maxLen) (hl0 : z0.length = n0) (hr0 : Reads w w.heap.size 4 A0 n0 (pks z0)) (A1 : Option Addr) (n1 c1 : Nat) (z1 : List Int) (hc1 : n1 ≤ c1) (hn1 : c1 ≤ maxLen) (hl1 : z1.length = n1) (hr1 : Reads w w.heap.size 1 A1 n1 (z1.map (Value.int .u8))) (hw1 : ∀ z ∈ z1, (Lit.int .u8 z).wf = true) (o0 o1 o2 o3 o4 : Bool) (rr : Int) :
    Calls Tryd.prog 6 #[.slice A0 n0 c0, .slice A1 n1 c1, .agg #[.bool o0, .bool o1, .bool o2, .bool o3, .bool o4, .int .i64 rr]] w fun e w' => e = .returned (.bool true) ∧ Below w.heap.size w w' := by
  have hE := e6_of e1 e3
  generalize (fun k => if k = 6 then ads.getD 5 ⟨0, 0, none⟩ else ads.getD 4 ⟨0, 0, none⟩ : Nat → Addr) = ad at hE
  generalize ads.getD 1 ⟨0, 0, none⟩ = ak at hE
  generalize ads.getD 2 ⟨0, 0, none⟩ = ai at hE
  generalize ads.getD 3 ⟨0, 0, none⟩ = as_ at hE
  generalize ads.getD 0 ⟨0, 0, none⟩ = am at hE
  obtain ⟨hzn, hzb⟩ := bytes_nat z1 hw1
  rw [hzn] at hr1
  obtain ⟨Z, hZ⟩ : ∃ Z, Z = z1.map Int.toNat := ⟨_, rfl⟩
  rw [← hZ] at hr1 hzb
  have HZL : Hid (Z.length = n1) := Lib.hid (by rw [hZ, List.length_map]; exact hl1)
  have HE := Lib.hid hE
  have HR0 := Lib.hid hr0
  have HR1 := Lib.hid hr1
  have HL0 := Lib.hid hl0
  have HZB := Lib.hid hzb
  clear e1 e2 e3 hE hr0 hr1 hl0 hl1 hw1 hzn hzb hZ
  by_cases h450 : 450 < n0
  · have t4 : decide (450 < n0) = true := by simpa using h450
    go_enter Tryd.func6, Tryd.ntmps6
    go_wp2_with fail
    refine (first_any ak ai as_ _ (HE.out.below ((Below.refl _ _).alloc (Nat.le_refl _) _)).e3).mono ?_
    rintro e w1 ⟨rfl, hb1⟩
    go_wp2
    go_ret
    exact ⟨rfl, ((Below.refl _ _).alloc (Nat.le_refl _) _).trans (hb1.mono (by simp))⟩
  have t4 : decide (450 < n0) = false := by simpa using h450
  by_cases h2000 : 2000 < n1
  · have t6 : decide (2000 < n1) = true := by simpa using h2000
    go_enter Tryd.func6, Tryd.ntmps6
    go_wp2_with fail
    refine (first_any ak ai as_ _ (HE.out.below ((Below.refl _ _).alloc (Nat.le_refl _) _)).e3).mono ?_
    rintro e w1 ⟨rfl, hb1⟩
    go_wp2
    go_ret
    exact ⟨rfl, ((Below.refl _ _).alloc (Nat.le_refl _) _).trans (hb1.mono (by simp))⟩
  have t6 : decide (2000 < n1) = false := by simpa using h2000
  by_cases h400 : 400 < n0
  · go_enter Tryd.func6, Tryd.ntmps6
    go_wp2_with fail
    obtain ⟨w0, hu0⟩ : ∃ u, u = w.alloc (Obj.cells #[.bool o0, .bool o1, .bool o2, .bool o3, .bool o4, .int .i64 rr] 47) := ⟨_, rfl⟩
    rw [← hu0]
    have HB0 : Hid (Below w.heap.size w w0) := Lib.hid (by rw [hu0]; exact (Below.refl _ _).alloc (Nat.le_refl _) _)
    have HK0 : Hid (Blk w0 w.heap.size 47 #[.bool o0, .bool o1, .bool o2, .bool o3, .bool o4, .int .i64 rr]) := Lib.hid (by rw [hu0]; exact Blk.new _ _ _)
    clear hu0
    refine (first_any ak ai as_ _ (HE.out.below HB0.out).e3).mono ?_
    rintro e w1 ⟨rfl, hb1⟩
    have HB1 : Hid (Below w.heap.size w w1) := Lib.hid (HB0.out.trans (hb1.mono HB0.out.size))
    have HK1 : Hid (Blk w1 w.heap.size 47 #[.bool o0, .bool o1, .bool o2, .bool o3, .bool o4, .int .i64 rr]) := Lib.hid (HK0.out.below hb1 HK0.out.lt)
    clear hb1
    have HE1 := Lib.hid (HE.out.below HB1.out)
    go_wp2_with fail
    go_must (refine (print_many A0 n0 c0 am _ h400 HE1.out.m).mono ?_)
    rintro e w5 ⟨rfl, rfl⟩
    unfold eV
    have HB5 := HB1
    have HK5 := HK1
    have HE5 := Lib.hid (HE.out.below HB5.out)
    go_wp2_with fail
    go_must (refine (parse_any A1 n1 c1 Z ad _ ((HR1.out.below HB5.out).more HB5.out.size) HZB.out (by omega) (by omega) (by omega) ak ai as_ HE5.out.e3 HE5.out.b HE5.out.e am HE5.out.m HE5.out.big).mono ?_)
    rintro e w6 ⟨hb6, hres⟩
    have HB6 : Hid (Below w.heap.size w w6) := Lib.hid (HB5.out.trans (hb6.mono HB5.out.size))
    have HK6 : Hid (Blk w6 w.heap.size 47 #[.bool o0, .bool o1, .bool o2, .bool o3, .bool o4, .int .i64 rr]) := Lib.hid (HK5.out.below hb6 HK5.out.lt)
    clear hb6
    rcases hres with ⟨z, le, hrun, hz4, hzm, PA, pc, rfl, hrz⟩ | ⟨z, le, hrun, hbad, tt, vv, rfl⟩ | ⟨out0, last0, a0, x, k, pos, p, g1, g2, g3, g4, rfl, g6⟩
    · have hprn : prn 0 z = Z := by have := (run_prn HZB.out hrun).1; rwa [List.take_length] at this
      have HE6 := Lib.hid (HE.out.below HB6.out)
      have HPR := Lib.hid hprn
      have HZM := Lib.hid hzm
      have HRZ := Lib.hid hrz
      clear hrun hzm hrz hprn
      obtain ⟨m, hmz⟩ : ∃ m, m = z.length := ⟨_, rfl⟩
      rw [← hmz] at HRZ hz4 ⊢
      have HMZ := Lib.hid hmz
      clear hmz
      go_wp2_with fail
      go_must (refine (print_ok2 PA m pc z ak ai as_ _ HRZ.out HMZ.out.symm hz4 HE6.out.e3.hg HE6.out.e3.hk HE6.out.e3.hi HE6.out.e3.hs HZM.out).mono ?_)
      rw [HPR.out]
      rintro e w7 ⟨CA, cc, rfl, hr7, hb7, _, _⟩
      have HR7 := Lib.hid hr7
      clear hr7
      have HB7 : Hid (Below w.heap.size w w7) := Lib.hid (HB6.out.trans (hb7.mono HB6.out.size))
      have HK7 : Hid (Blk w7 w.heap.size 47 #[.bool o0, .bool o1, .bool o2, .bool o3, .bool o4, .int .i64 rr]) := Lib.hid (HK6.out.below hb7 HK6.out.lt)
      clear hb7
      rw [HZL.out] at HR7 ⊢
      go_wp2_with fail
      go_must (refine (same_any CA A1 n1 n1 cc c1 Z Z _ HR7.out ((HR1.out.below HB7.out).more HB7.out.size) (by omega)).mono ?_)
      rintro e w8 ⟨rfl, hb8⟩
      rw [show sameB Z Z = true by simp [sameB]]
      have HB8 : Hid (Below w.heap.size w w8) := Lib.hid (HB7.out.trans (hb8.mono HB7.out.size))
      have HK8 : Hid (Blk w8 w.heap.size 47 #[.bool o0, .bool o1, .bool o2, .bool o3, .bool o4, .int .i64 rr]) := Lib.hid (HK7.out.below hb8 HK7.out.lt)
      clear hb8
      have k0 : w8.cell? ⟨w.heap.size, 0, none⟩ = some (.bool o0) := HK8.out.cell 0
      have k1 : w8.cell? ⟨w.heap.size, 1, none⟩ = some (.bool o1) := HK8.out.cell 1
      have k2 : w8.cell? ⟨w.heap.size, 2, none⟩ = some (.bool o2) := HK8.out.cell 2
      have k3 : w8.cell? ⟨w.heap.size, 3, none⟩ = some (.bool o3) := HK8.out.cell 3
      have k4 : w8.cell? ⟨w.heap.size, 4, none⟩ = some (.bool o4) := HK8.out.cell 4
      have k5 : w8.cell? ⟨w.heap.size, 5, none⟩ = some (.int .i64 rr) := HK8.out.cell 5
      go_wp2_with fail
      go_must (refine (pack_any o0 o1 o2 o3 o4 rr _).mono ?_)
      rintro e w9 ⟨rfl, hb9⟩
      have HB9 : Hid (Below w.heap.size w w9) := Lib.hid (HB8.out.trans (hb9.mono HB8.out.size))
      have HK9 : Hid (Blk w9 w.heap.size 47 #[.bool o0, .bool o1, .bool o2, .bool o3, .bool o4, .int .i64 rr]) := Lib.hid (HK8.out.below hb9 HK8.out.lt)
      clear hb9
      have HPK := Lib.hid (pack_back o0 o1 o2 o3 o4 rr)
      obtain ⟨nn, hnn⟩ : ∃ x, x = pkK [o0, o1, o2, o3, o4] (pk0 rr) 5 := ⟨_, rfl⟩
      rw [← hnn] at HPK ⊢
      clear hnn
      have s0 : decide (nn ≥ 0) = true := by have := HPK.out.1; simpa using this
      have s0' : decide (0 ≤ nn) = true := by have := HPK.out.1; simpa using this
      have s1 : decide (nn < 512) = true := by have := HPK.out.2.1; simpa using this
      go_wp2_with fail
      go_must (refine (unpack_any nn _).mono ?_)
      rintro e wt ⟨rfl, hbt⟩
      have HBt : Hid (Below w.heap.size w wt) := Lib.hid (HB9.out.trans (hbt.mono HB9.out.size))
      have HKt : Hid (Blk wt w.heap.size 47 #[.bool o0, .bool o1, .bool o2, .bool o3, .bool o4, .int .i64 rr]) := Lib.hid (HK9.out.below hbt HK9.out.lt)
      unfold oV
      rw [HPK.out.2.2.1, HPK.out.2.2.2.1, HPK.out.2.2.2.2.1, HPK.out.2.2.2.2.2.1, HPK.out.2.2.2.2.2.2.1]
      obtain ⟨qq, hqq⟩ : ∃ x, x = regsOf nn := ⟨_, rfl⟩
      rw [← hqq]
      have HQ : Hid (qq = min (max rr 1) 16) := Lib.hid (by rw [hqq]; exact HPK.out.2.2.2.2.2.2.2)
      clear hqq hbt
      have m0 : wt.cell? ⟨w.heap.size, 0, none⟩ = some (.bool o0) := HKt.out.cell 0
      have m1 : wt.cell? ⟨w.heap.size, 1, none⟩ = some (.bool o1) := HKt.out.cell 1
      have m2 : wt.cell? ⟨w.heap.size, 2, none⟩ = some (.bool o2) := HKt.out.cell 2
      have m3 : wt.cell? ⟨w.heap.size, 3, none⟩ = some (.bool o3) := HKt.out.cell 3
      have m4 : wt.cell? ⟨w.heap.size, 4, none⟩ = some (.bool o4) := HKt.out.cell 4
      have m5 : wt.cell? ⟨w.heap.size, 5, none⟩ = some (.int .i64 rr) := HKt.out.cell 5
      have hlt9 : w.heap.size < wt.heap.size := HKt.out.lt
      go_wp2
      all_goals go_ret
      all_goals (refine ⟨?_, HBt.out.alloc HBt.out.size _⟩)
      all_goals (have := HQ.out)
      all_goals (simp)
      all_goals omega
    · clear hrun hbad
      have k0 : w6.cell? ⟨w.heap.size, 0, none⟩ = some (.bool o0) := HK6.out.cell 0
      have k1 : w6.cell? ⟨w.heap.size, 1, none⟩ = some (.bool o1) := HK6.out.cell 1
      have k2 : w6.cell? ⟨w.heap.size, 2, none⟩ = some (.bool o2) := HK6.out.cell 2
      have k3 : w6.cell? ⟨w.heap.size, 3, none⟩ = some (.bool o3) := HK6.out.cell 3
      have k4 : w6.cell? ⟨w.heap.size, 4, none⟩ = some (.bool o4) := HK6.out.cell 4
      have k5 : w6.cell? ⟨w.heap.size, 5, none⟩ = some (.int .i64 rr) := HK6.out.cell 5
      go_wp2_with fail
      go_must (refine (pack_any o0 o1 o2 o3 o4 rr _).mono ?_)
      rintro e w9 ⟨rfl, hb9⟩
      have HB9 : Hid (Below w.heap.size w w9) := Lib.hid (HB6.out.trans (hb9.mono HB6.out.size))
      have HK9 : Hid (Blk w9 w.heap.size 47 #[.bool o0, .bool o1, .bool o2, .bool o3, .bool o4, .int .i64 rr]) := Lib.hid (HK6.out.below hb9 HK6.out.lt)
      clear hb9
      have HPK := Lib.hid (pack_back o0 o1 o2 o3 o4 rr)
      obtain ⟨nn, hnn⟩ : ∃ x, x = pkK [o0, o1, o2, o3, o4] (pk0 rr) 5 := ⟨_, rfl⟩
      rw [← hnn] at HPK ⊢
      clear hnn
      have s0 : decide (nn ≥ 0) = true := by have := HPK.out.1; simpa using this
      have s0' : decide (0 ≤ nn) = true := by have := HPK.out.1; simpa using this
      have s1 : decide (nn < 512) = true := by have := HPK.out.2.1; simpa using this
      go_wp2_with fail
      go_must (refine (unpack_any nn _).mono ?_)
      rintro e wt ⟨rfl, hbt⟩
      have HBt : Hid (Below w.heap.size w wt) := Lib.hid (HB9.out.trans (hbt.mono HB9.out.size))
      have HKt : Hid (Blk wt w.heap.size 47 #[.bool o0, .bool o1, .bool o2, .bool o3, .bool o4, .int .i64 rr]) := Lib.hid (HK9.out.below hbt HK9.out.lt)
      unfold oV
      rw [HPK.out.2.2.1, HPK.out.2.2.2.1, HPK.out.2.2.2.2.1, HPK.out.2.2.2.2.2.1, HPK.out.2.2.2.2.2.2.1]
      obtain ⟨qq, hqq⟩ : ∃ x, x = regsOf nn := ⟨_, rfl⟩
      rw [← hqq]
      have HQ : Hid (qq = min (max rr 1) 16) := Lib.hid (by rw [hqq]; exact HPK.out.2.2.2.2.2.2.2)
      clear hqq hbt
      have m0 : wt.cell? ⟨w.heap.size, 0, none⟩ = some (.bool o0) := HKt.out.cell 0
      have m1 : wt.cell? ⟨w.heap.size, 1, none⟩ = some (.bool o1) := HKt.out.cell 1
      have m2 : wt.cell? ⟨w.heap.size, 2, none⟩ = some (.bool o2) := HKt.out.cell 2
      have m3 : wt.cell? ⟨w.heap.size, 3, none⟩ = some (.bool o3) := HKt.out.cell 3
      have m4 : wt.cell? ⟨w.heap.size, 4, none⟩ = some (.bool o4) := HKt.out.cell 4
      have m5 : wt.cell? ⟨w.heap.size, 5, none⟩ = some (.int .i64 rr) := HKt.out.cell 5
      have hlt9 : w.heap.size < wt.heap.size := HKt.out.lt
      go_wp2
      all_goals go_ret
      all_goals (refine ⟨?_, HBt.out.alloc HBt.out.size _⟩)
      all_goals (have := HQ.out)
      all_goals (simp)
      all_goals omega
    · clear g1 g2 g3 g4 g6
      have k0 : w6.cell? ⟨w.heap.size, 0, none⟩ = some (.bool o0) := HK6.out.cell 0
      have k1 : w6.cell? ⟨w.heap.size, 1, none⟩ = some (.bool o1) := HK6.out.cell 1
      have k2 : w6.cell? ⟨w.heap.size, 2, none⟩ = some (.bool o2) := HK6.out.cell 2
      have k3 : w6.cell? ⟨w.heap.size, 3, none⟩ = some (.bool o3) := HK6.out.cell 3
      have k4 : w6.cell? ⟨w.heap.size, 4, none⟩ = some (.bool o4) := HK6.out.cell 4
      have k5 : w6.cell? ⟨w.heap.size, 5, none⟩ = some (.int .i64 rr) := HK6.out.cell 5
      go_wp2_with fail
      go_must (refine (pack_any o0 o1 o2 o3 o4 rr _).mono ?_)
      rintro e w9 ⟨rfl, hb9⟩
      have HB9 : Hid (Below w.heap.size w w9) := Lib.hid (HB6.out.trans (hb9.mono HB6.out.size))
      have HK9 : Hid (Blk w9 w.heap.size 47 #[.bool o0, .bool o1, .bool o2, .bool o3, .bool o4, .int .i64 rr]) := Lib.hid (HK6.out.below hb9 HK6.out.lt)
      clear hb9
      have HPK := Lib.hid (pack_back o0 o1 o2 o3 o4 rr)
      obtain ⟨nn, hnn⟩ : ∃ x, x = pkK [o0, o1, o2, o3, o4] (pk0 rr) 5 := ⟨_, rfl⟩
      rw [← hnn] at HPK ⊢
      clear hnn
      have s0 : decide (nn ≥ 0) = true := by have := HPK.out.1; simpa using this
      have s0' : decide (0 ≤ nn) = true := by have := HPK.out.1; simpa using this
      have s1 : decide (nn < 512) = true := by have := HPK.out.2.1; simpa using this
      go_wp2_with fail
      go_must (refine (unpack_any nn _).mono ?_)
      rintro e wt ⟨rfl, hbt⟩
      have HBt : Hid (Below w.heap.size w wt) := Lib.hid (HB9.out.trans (hbt.mono HB9.out.size))
      have HKt : Hid (Blk wt w.heap.size 47 #[.bool o0, .bool o1, .bool o2, .bool o3, .bool o4, .int .i64 rr]) := Lib.hid (HK9.out.below hbt HK9.out.lt)
      unfold oV
      rw [HPK.out.2.2.1, HPK.out.2.2.2.1, HPK.out.2.2.2.2.1, HPK.out.2.2.2.2.2.1, HPK.out.2.2.2.2.2.2.1]
      obtain ⟨qq, hqq⟩ : ∃ x, x = regsOf nn := ⟨_, rfl⟩
      rw [← hqq]
      have HQ : Hid (qq = min (max rr 1) 16) := Lib.hid (by rw [hqq]; exact HPK.out.2.2.2.2.2.2.2)
      clear hqq hbt
      have m0 : wt.cell? ⟨w.heap.size, 0, none⟩ = some (.bool o0) := HKt.out.cell 0
      have m1 : wt.cell? ⟨w.heap.size, 1, none⟩ = some (.bool o1) := HKt.out.cell 1
      have m2 : wt.cell? ⟨w.heap.size, 2, none⟩ = some (.bool o2) := HKt.out.cell 2
      have m3 : wt.cell? ⟨w.heap.size, 3, none⟩ = some (.bool o3) := HKt.out.cell 3
      have m4 : wt.cell? ⟨w.heap.size, 4, none⟩ = some (.bool o4) := HKt.out.cell 4
      have m5 : wt.cell? ⟨w.heap.size, 5, none⟩ = some (.int .i64 rr) := HKt.out.cell 5
      have hlt9 : w.heap.size < wt.heap.size := HKt.out.lt
      go_wp2
      all_goals go_ret
      all_goals (refine ⟨?_, HBt.out.alloc HBt.out.size _⟩)
      all_goals (have := HQ.out)
      all_goals (simp)
      all_goals omega
  cases hm : mayF 0 0 z0 with
  | none =>
    have HM := Lib.hid hm
    clear hm
    have HPL := Lib.hid (prn_len z0 0)
    have HPB := Lib.hid (prn_bytes z0 0)
    have HRA := Lib.hid (run_prn_all z0 HM.out)
    go_enter Tryd.func6, Tryd.ntmps6
    go_wp2_with fail
    obtain ⟨w0, hu0⟩ : ∃ u, u = w.alloc (Obj.cells #[.bool o0, .bool o1, .bool o2, .bool o3, .bool o4, .int .i64 rr] 47) := ⟨_, rfl⟩
    rw [← hu0]
    have HB0 : Hid (Below w.heap.size w w0) := Lib.hid (by rw [hu0]; exact (Below.refl _ _).alloc (Nat.le_refl _) _)
    have HK0 : Hid (Blk w0 w.heap.size 47 #[.bool o0, .bool o1, .bool o2, .bool o3, .bool o4, .int .i64 rr]) := Lib.hid (by rw [hu0]; exact Blk.new _ _ _)
    clear hu0
    refine (first_any ak ai as_ _ (HE.out.below HB0.out).e3).mono ?_
    rintro e w1 ⟨rfl, hb1⟩
    have HB1 : Hid (Below w.heap.size w w1) := Lib.hid (HB0.out.trans (hb1.mono HB0.out.size))
    have HK1 : Hid (Blk w1 w.heap.size 47 #[.bool o0, .bool o1, .bool o2, .bool o3, .bool o4, .int .i64 rr]) := Lib.hid (HK0.out.below hb1 HK0.out.lt)
    clear hb1
    have HE1 := Lib.hid (HE.out.below HB1.out)
    go_wp2_with fail
    go_must (refine (print_ok2 A0 n0 c0 z0 ak ai as_ _ ((HR0.out.below HB1.out).more HB1.out.size) HL0.out (by omega) HE1.out.e3.hg HE1.out.e3.hk HE1.out.e3.hi HE1.out.e3.hs HM.out).mono ?_)
    rintro e w2 ⟨BA, bc, rfl, hr2, hb2, hcp, hcm⟩
    have HB2 : Hid (Below w.heap.size w w2) := Lib.hid (HB1.out.trans (hb2.mono HB1.out.size))
    have HK2 : Hid (Blk w2 w.heap.size 47 #[.bool o0, .bool o1, .bool o2, .bool o3, .bool o4, .int .i64 rr]) := Lib.hid (HK1.out.below hb2 HK1.out.lt)
    clear hb2
    have HE2 := Lib.hid (HE.out.below HB2.out)
    obtain ⟨B, hB⟩ : ∃ B, B = prn 0 z0 := ⟨_, rfl⟩
    rw [← hB] at hr2 hcp HPL HPB HRA ⊢
    clear hB
    obtain ⟨N, hN⟩ : ∃ N, N = B.length := ⟨_, rfl⟩
    rw [← hN] at hr2 hcp HPL ⊢
    have HR2 := Lib.hid hr2
    have hN4 : N ≤ 16000 := by have := HPL.out; have := HL0.out; omega
    clear hr2 hN
    obtain ⟨leB, hlB⟩ := HRA.out
    have HLB := Lib.hid hlB
    clear hlB
    go_wp2_with fail
    go_must (refine (parse_any BA N bc B ad _ HR2.out HPB.out (by omega) (by omega) (by omega) ak ai as_ HE2.out.e3 HE2.out.b HE2.out.e am HE2.out.m HE2.out.big).mono ?_)
    rintro e w3 ⟨hb3, hres⟩
    have HB3 : Hid (Below w.heap.size w w3) := Lib.hid (HB2.out.trans (hb3.mono HB2.out.size))
    have HK3 : Hid (Blk w3 w.heap.size 47 #[.bool o0, .bool o1, .bool o2, .bool o3, .bool o4, .int .i64 rr]) := Lib.hid (HK2.out.below hb3 HK2.out.lt)
    clear hb3
    rcases hres with ⟨z, le, hrun, hz4, hzm, PA, pc, rfl, hrz⟩ | ⟨z, le, hrun, hbad, tt, vv, rfl⟩ | ⟨out0, last0, a0, x, k, pos, p, g1, g2, g3, g4, rfl, g6⟩
    · obtain rfl : z = z0 := run_uniq hrun HLB.out
      rw [HL0.out] at hrz ⊢
      have HRZ := Lib.hid hrz
      clear hrun hzm hrz hz4
      go_wp2_with fail
      go_must (refine (samePs_any PA A0 n0 n0 pc c0 z z _ HRZ.out HL0.out ((HR0.out.below HB3.out).more HB3.out.size) HL0.out (by omega)).mono ?_)
      rintro e w4 ⟨⟨bb, rfl, hbb⟩, hb4⟩
      obtain rfl : bb = true := hbb.2 rfl
      clear hbb
      have HB4 : Hid (Below w.heap.size w w4) := Lib.hid (HB3.out.trans (hb4.mono HB3.out.size))
      have HK4 : Hid (Blk w4 w.heap.size 47 #[.bool o0, .bool o1, .bool o2, .bool o3, .bool o4, .int .i64 rr]) := Lib.hid (HK3.out.below hb4 HK3.out.lt)
      clear hb4
      have HE4 := Lib.hid (HE.out.below HB4.out)
      go_wp2_with fail
      go_must (refine (mayL_in A0 n0 c0 z ak ai as_ _ ((HR0.out.below HB4.out).more HB4.out.size) HL0.out (by omega) HE4.out.e3.hg HE4.out.e3.hk HE4.out.e3.hi HE4.out.e3.hs).mono ?_)
      rintro e w5 ⟨hb5, he⟩
      rw [HM.out] at he
      replace he : e = .returned .nilIface := he
      subst he
      have HB5 : Hid (Below w.heap.size w w5) := Lib.hid (HB4.out.trans (hb5.mono HB4.out.size))
      have HK5 : Hid (Blk w5 w.heap.size 47 #[.bool o0, .bool o1, .bool o2, .bool o3, .bool o4, .int .i64 rr]) := Lib.hid (HK4.out.below hb5 HK4.out.lt)
      clear hb5
      have HE5 := Lib.hid (HE.out.below HB5.out)
      go_wp2_with fail
      go_must (refine (parse_any A1 n1 c1 Z ad _ ((HR1.out.below HB5.out).more HB5.out.size) HZB.out (by omega) (by omega) (by omega) ak ai as_ HE5.out.e3 HE5.out.b HE5.out.e am HE5.out.m HE5.out.big).mono ?_)
      rintro e w6 ⟨hb6, hres⟩
      have HB6 : Hid (Below w.heap.size w w6) := Lib.hid (HB5.out.trans (hb6.mono HB5.out.size))
      have HK6 : Hid (Blk w6 w.heap.size 47 #[.bool o0, .bool o1, .bool o2, .bool o3, .bool o4, .int .i64 rr]) := Lib.hid (HK5.out.below hb6 HK5.out.lt)
      clear hb6
      rcases hres with ⟨z, le, hrun, hz4, hzm, PA, pc, rfl, hrz⟩ | ⟨z, le, hrun, hbad, tt, vv, rfl⟩ | ⟨out0, last0, a0, x, k, pos, p, g1, g2, g3, g4, rfl, g6⟩
      · have hprn : prn 0 z = Z := by have := (run_prn HZB.out hrun).1; rwa [List.take_length] at this
        have HE6 := Lib.hid (HE.out.below HB6.out)
        have HPR := Lib.hid hprn
        have HZM := Lib.hid hzm
        have HRZ := Lib.hid hrz
        clear hrun hzm hrz hprn
        obtain ⟨m, hmz⟩ : ∃ m, m = z.length := ⟨_, rfl⟩
        rw [← hmz] at HRZ hz4 ⊢
        have HMZ := Lib.hid hmz
        clear hmz
        go_wp2_with fail
        go_must (refine (print_ok2 PA m pc z ak ai as_ _ HRZ.out HMZ.out.symm hz4 HE6.out.e3.hg HE6.out.e3.hk HE6.out.e3.hi HE6.out.e3.hs HZM.out).mono ?_)
        rw [HPR.out]
        rintro e w7 ⟨CA, cc, rfl, hr7, hb7, _, _⟩
        have HR7 := Lib.hid hr7
        clear hr7
        have HB7 : Hid (Below w.heap.size w w7) := Lib.hid (HB6.out.trans (hb7.mono HB6.out.size))
        have HK7 : Hid (Blk w7 w.heap.size 47 #[.bool o0, .bool o1, .bool o2, .bool o3, .bool o4, .int .i64 rr]) := Lib.hid (HK6.out.below hb7 HK6.out.lt)
        clear hb7
        rw [HZL.out] at HR7 ⊢
        go_wp2_with fail
        go_must (refine (same_any CA A1 n1 n1 cc c1 Z Z _ HR7.out ((HR1.out.below HB7.out).more HB7.out.size) (by omega)).mono ?_)
        rintro e w8 ⟨rfl, hb8⟩
        rw [show sameB Z Z = true by simp [sameB]]
        have HB8 : Hid (Below w.heap.size w w8) := Lib.hid (HB7.out.trans (hb8.mono HB7.out.size))
        have HK8 : Hid (Blk w8 w.heap.size 47 #[.bool o0, .bool o1, .bool o2, .bool o3, .bool o4, .int .i64 rr]) := Lib.hid (HK7.out.below hb8 HK7.out.lt)
        clear hb8
        have k0 : w8.cell? ⟨w.heap.size, 0, none⟩ = some (.bool o0) := HK8.out.cell 0
        have k1 : w8.cell? ⟨w.heap.size, 1, none⟩ = some (.bool o1) := HK8.out.cell 1
        have k2 : w8.cell? ⟨w.heap.size, 2, none⟩ = some (.bool o2) := HK8.out.cell 2
        have k3 : w8.cell? ⟨w.heap.size, 3, none⟩ = some (.bool o3) := HK8.out.cell 3
        have k4 : w8.cell? ⟨w.heap.size, 4, none⟩ = some (.bool o4) := HK8.out.cell 4
        have k5 : w8.cell? ⟨w.heap.size, 5, none⟩ = some (.int .i64 rr) := HK8.out.cell 5
        go_wp2_with fail
        go_must (refine (pack_any o0 o1 o2 o3 o4 rr _).mono ?_)
        rintro e w9 ⟨rfl, hb9⟩
        have HB9 : Hid (Below w.heap.size w w9) := Lib.hid (HB8.out.trans (hb9.mono HB8.out.size))
        have HK9 : Hid (Blk w9 w.heap.size 47 #[.bool o0, .bool o1, .bool o2, .bool o3, .bool o4, .int .i64 rr]) := Lib.hid (HK8.out.below hb9 HK8.out.lt)
        clear hb9
        have HPK := Lib.hid (pack_back o0 o1 o2 o3 o4 rr)
        obtain ⟨nn, hnn⟩ : ∃ x, x = pkK [o0, o1, o2, o3, o4] (pk0 rr) 5 := ⟨_, rfl⟩
        rw [← hnn] at HPK ⊢
        clear hnn
        have s0 : decide (nn ≥ 0) = true := by have := HPK.out.1; simpa using this
        have s0' : decide (0 ≤ nn) = true := by have := HPK.out.1; simpa using this
        have s1 : decide (nn < 512) = true := by have := HPK.out.2.1; simpa using this
        go_wp2_with fail
        go_must (refine (unpack_any nn _).mono ?_)
        rintro e wt ⟨rfl, hbt⟩
        have HBt : Hid (Below w.heap.size w wt) := Lib.hid (HB9.out.trans (hbt.mono HB9.out.size))
        have HKt : Hid (Blk wt w.heap.size 47 #[.bool o0, .bool o1, .bool o2, .bool o3, .bool o4, .int .i64 rr]) := Lib.hid (HK9.out.below hbt HK9.out.lt)
        unfold oV
        rw [HPK.out.2.2.1, HPK.out.2.2.2.1, HPK.out.2.2.2.2.1, HPK.out.2.2.2.2.2.1, HPK.out.2.2.2.2.2.2.1]
        obtain ⟨qq, hqq⟩ : ∃ x, x = regsOf nn := ⟨_, rfl⟩
        rw [← hqq]
        have HQ : Hid (qq = min (max rr 1) 16) := Lib.hid (by rw [hqq]; exact HPK.out.2.2.2.2.2.2.2)
        clear hqq hbt
        have m0 : wt.cell? ⟨w.heap.size, 0, none⟩ = some (.bool o0) := HKt.out.cell 0
        have m1 : wt.cell? ⟨w.heap.size, 1, none⟩ = some (.bool o1) := HKt.out.cell 1
        have m2 : wt.cell? ⟨w.heap.size, 2, none⟩ = some (.bool o2) := HKt.out.cell 2
        have m3 : wt.cell? ⟨w.heap.size, 3, none⟩ = some (.bool o3) := HKt.out.cell 3
        have m4 : wt.cell? ⟨w.heap.size, 4, none⟩ = some (.bool o4) := HKt.out.cell 4
        have m5 : wt.cell? ⟨w.heap.size, 5, none⟩ = some (.int .i64 rr) := HKt.out.cell 5
        have hlt9 : w.heap.size < wt.heap.size := HKt.out.lt
        go_wp2
        all_goals go_ret
        all_goals (refine ⟨?_, HBt.out.alloc HBt.out.size _⟩)
        all_goals (have := HQ.out)
        all_goals (simp)
        all_goals omega
      · clear hrun hbad
        have k0 : w6.cell? ⟨w.heap.size, 0, none⟩ = some (.bool o0) := HK6.out.cell 0
        have k1 : w6.cell? ⟨w.heap.size, 1, none⟩ = some (.bool o1) := HK6.out.cell 1
        have k2 : w6.cell? ⟨w.heap.size, 2, none⟩ = some (.bool o2) := HK6.out.cell 2
        have k3 : w6.cell? ⟨w.heap.size, 3, none⟩ = some (.bool o3) := HK6.out.cell 3
        have k4 : w6.cell? ⟨w.heap.size, 4, none⟩ = some (.bool o4) := HK6.out.cell 4
        have k5 : w6.cell? ⟨w.heap.size, 5, none⟩ = some (.int .i64 rr) := HK6.out.cell 5
        go_wp2_with fail
        go_must (refine (pack_any o0 o1 o2 o3 o4 rr _).mono ?_)
        rintro e w9 ⟨rfl, hb9⟩
        have HB9 : Hid (Below w.heap.size w w9) := Lib.hid (HB6.out.trans (hb9.mono HB6.out.size))
        have HK9 : Hid (Blk w9 w.heap.size 47 #[.bool o0, .bool o1, .bool o2, .bool o3, .bool o4, .int .i64 rr]) := Lib.hid (HK6.out.below hb9 HK6.out.lt)
        clear hb9
        have HPK := Lib.hid (pack_back o0 o1 o2 o3 o4 rr)
        obtain ⟨nn, hnn⟩ : ∃ x, x = pkK [o0, o1, o2, o3, o4] (pk0 rr) 5 := ⟨_, rfl⟩
        rw [← hnn] at HPK ⊢
        clear hnn
        have s0 : decide (nn ≥ 0) = true := by have := HPK.out.1; simpa using this
        have s0' : decide (0 ≤ nn) = true := by have := HPK.out.1; simpa using this
        have s1 : decide (nn < 512) = true := by have := HPK.out.2.1; simpa using this
        go_wp2_with fail
        go_must (refine (unpack_any nn _).mono ?_)
        rintro e wt ⟨rfl, hbt⟩
        have HBt : Hid (Below w.heap.size w wt) := Lib.hid (HB9.out.trans (hbt.mono HB9.out.size))
        have HKt : Hid (Blk wt w.heap.size 47 #[.bool o0, .bool o1, .bool o2, .bool o3, .bool o4, .int .i64 rr]) := Lib.hid (HK9.out.below hbt HK9.out.lt)
        unfold oV
        rw [HPK.out.2.2.1, HPK.out.2.2.2.1, HPK.out.2.2.2.2.1, HPK.out.2.2.2.2.2.1, HPK.out.2.2.2.2.2.2.1]
        obtain ⟨qq, hqq⟩ : ∃ x, x = regsOf nn := ⟨_, rfl⟩
        rw [← hqq]
        have HQ : Hid (qq = min (max rr 1) 16) := Lib.hid (by rw [hqq]; exact HPK.out.2.2.2.2.2.2.2)
        clear hqq hbt
        have m0 : wt.cell? ⟨w.heap.size, 0, none⟩ = some (.bool o0) := HKt.out.cell 0
        have m1 : wt.cell? ⟨w.heap.size, 1, none⟩ = some (.bool o1) := HKt.out.cell 1
        have m2 : wt.cell? ⟨w.heap.size, 2, none⟩ = some (.bool o2) := HKt.out.cell 2
        have m3 : wt.cell? ⟨w.heap.size, 3, none⟩ = some (.bool o3) := HKt.out.cell 3
        have m4 : wt.cell? ⟨w.heap.size, 4, none⟩ = some (.bool o4) := HKt.out.cell 4
        have m5 : wt.cell? ⟨w.heap.size, 5, none⟩ = some (.int .i64 rr) := HKt.out.cell 5
        have hlt9 : w.heap.size < wt.heap.size := HKt.out.lt
        go_wp2
        all_goals go_ret
        all_goals (refine ⟨?_, HBt.out.alloc HBt.out.size _⟩)
        all_goals (have := HQ.out)
        all_goals (simp)
        all_goals omega
      · clear g1 g2 g3 g4 g6
        have k0 : w6.cell? ⟨w.heap.size, 0, none⟩ = some (.bool o0) := HK6.out.cell 0
        have k1 : w6.cell? ⟨w.heap.size, 1, none⟩ = some (.bool o1) := HK6.out.cell 1
        have k2 : w6.cell? ⟨w.heap.size, 2, none⟩ = some (.bool o2) := HK6.out.cell 2
        have k3 : w6.cell? ⟨w.heap.size, 3, none⟩ = some (.bool o3) := HK6.out.cell 3
        have k4 : w6.cell? ⟨w.heap.size, 4, none⟩ = some (.bool o4) := HK6.out.cell 4
        have k5 : w6.cell? ⟨w.heap.size, 5, none⟩ = some (.int .i64 rr) := HK6.out.cell 5
        go_wp2_with fail
        go_must (refine (pack_any o0 o1 o2 o3 o4 rr _).mono ?_)
        rintro e w9 ⟨rfl, hb9⟩
        have HB9 : Hid (Below w.heap.size w w9) := Lib.hid (HB6.out.trans (hb9.mono HB6.out.size))
        have HK9 : Hid (Blk w9 w.heap.size 47 #[.bool o0, .bool o1, .bool o2, .bool o3, .bool o4, .int .i64 rr]) := Lib.hid (HK6.out.below hb9 HK6.out.lt)
        clear hb9
        have HPK := Lib.hid (pack_back o0 o1 o2 o3 o4 rr)
        obtain ⟨nn, hnn⟩ : ∃ x, x = pkK [o0, o1, o2, o3, o4] (pk0 rr) 5 := ⟨_, rfl⟩
        rw [← hnn] at HPK ⊢
        clear hnn
        have s0 : decide (nn ≥ 0) = true := by have := HPK.out.1; simpa using this
        have s0' : decide (0 ≤ nn) = true := by have := HPK.out.1; simpa using this
        have s1 : decide (nn < 512) = true := by have := HPK.out.2.1; simpa using this
        go_wp2_with fail
        go_must (refine (unpack_any nn _).mono ?_)
        rintro e wt ⟨rfl, hbt⟩
        have HBt : Hid (Below w.heap.size w wt) := Lib.hid (HB9.out.trans (hbt.mono HB9.out.size))
        have HKt : Hid (Blk wt w.heap.size 47 #[.bool o0, .bool o1, .bool o2, .bool o3, .bool o4, .int .i64 rr]) := Lib.hid (HK9.out.below hbt HK9.out.lt)
        unfold oV
        rw [HPK.out.2.2.1, HPK.out.2.2.2.1, HPK.out.2.2.2.2.1, HPK.out.2.2.2.2.2.1, HPK.out.2.2.2.2.2.2.1]
        obtain ⟨qq, hqq⟩ : ∃ x, x = regsOf nn := ⟨_, rfl⟩
        rw [← hqq]
        have HQ : Hid (qq = min (max rr 1) 16) := Lib.hid (by rw [hqq]; exact HPK.out.2.2.2.2.2.2.2)
        clear hqq hbt
        have m0 : wt.cell? ⟨w.heap.size, 0, none⟩ = some (.bool o0) := HKt.out.cell 0
        have m1 : wt.cell? ⟨w.heap.size, 1, none⟩ = some (.bool o1) := HKt.out.cell 1
        have m2 : wt.cell? ⟨w.heap.size, 2, none⟩ = some (.bool o2) := HKt.out.cell 2
        have m3 : wt.cell? ⟨w.heap.size, 3, none⟩ = some (.bool o3) := HKt.out.cell 3
        have m4 : wt.cell? ⟨w.heap.size, 4, none⟩ = some (.bool o4) := HKt.out.cell 4
        have m5 : wt.cell? ⟨w.heap.size, 5, none⟩ = some (.int .i64 rr) := HKt.out.cell 5
        have hlt9 : w.heap.size < wt.heap.size := HKt.out.lt
        go_wp2
        all_goals go_ret
        all_goals (refine ⟨?_, HBt.out.alloc HBt.out.size _⟩)
        all_goals (have := HQ.out)
        all_goals (simp)
        all_goals omega
    · exfalso
      obtain rfl : z = z0 := run_uniq hrun HLB.out
      rcases hbad with hbad | hbad
      · have := HL0.out; omega
      · exact hbad HM.out
    · exact (run_stuck HLB.out g1 g2 (stepErr_none g3 _)).elim
  | some ic =>
    obtain ⟨ii, cc⟩ := ic
    have HM := Lib.hid hm
    clear hm
    go_enter Tryd.func6, Tryd.ntmps6
    go_wp2_with fail
    obtain ⟨w0, hu0⟩ : ∃ u, u = w.alloc (Obj.cells #[.bool o0, .bool o1, .bool o2, .bool o3, .bool o4, .int .i64 rr] 47) := ⟨_, rfl⟩
    rw [← hu0]
    have HB0 : Hid (Below w.heap.size w w0) := Lib.hid (by rw [hu0]; exact (Below.refl _ _).alloc (Nat.le_refl _) _)
    have HK0 : Hid (Blk w0 w.heap.size 47 #[.bool o0, .bool o1, .bool o2, .bool o3, .bool o4, .int .i64 rr]) := Lib.hid (by rw [hu0]; exact Blk.new _ _ _)
    clear hu0
    refine (first_any ak ai as_ _ (HE.out.below HB0.out).e3).mono ?_
    rintro e w1 ⟨rfl, hb1⟩
    have HB1 : Hid (Below w.heap.size w w1) := Lib.hid (HB0.out.trans (hb1.mono HB0.out.size))
    have HK1 : Hid (Blk w1 w.heap.size 47 #[.bool o0, .bool o1, .bool o2, .bool o3, .bool o4, .int .i64 rr]) := Lib.hid (HK0.out.below hb1 HK0.out.lt)
    clear hb1
    have HE1 := Lib.hid (HE.out.below HB1.out)
    go_wp2_with fail
    go_must (refine (print_bad A0 n0 c0 z0 ak ai as_ _ ((HR0.out.below HB1.out).more HB1.out.size) HL0.out (by omega) HE1.out.e3.hg HE1.out.e3.hk HE1.out.e3.hi HE1.out.e3.hs ii cc HM.out).mono ?_)
    rintro e w5 ⟨hb5, b5, rfl, _, _⟩
    have HB5 : Hid (Below w.heap.size w w5) := Lib.hid (HB1.out.trans (hb5.mono HB1.out.size))
    have HK5 : Hid (Blk w5 w.heap.size 47 #[.bool o0, .bool o1, .bool o2, .bool o3, .bool o4, .int .i64 rr]) := Lib.hid (HK1.out.below hb5 HK1.out.lt)
    clear hb5
    have HE5 := Lib.hid (HE.out.below HB5.out)
    go_wp2_with fail
    go_must (refine (parse_any A1 n1 c1 Z ad _ ((HR1.out.below HB5.out).more HB5.out.size) HZB.out (by omega) (by omega) (by omega) ak ai as_ HE5.out.e3 HE5.out.b HE5.out.e am HE5.out.m HE5.out.big).mono ?_)
    rintro e w6 ⟨hb6, hres⟩
    have HB6 : Hid (Below w.heap.size w w6) := Lib.hid (HB5.out.trans (hb6.mono HB5.out.size))
    have HK6 : Hid (Blk w6 w.heap.size 47 #[.bool o0, .bool o1, .bool o2, .bool o3, .bool o4, .int .i64 rr]) := Lib.hid (HK5.out.below hb6 HK5.out.lt)
    clear hb6
    rcases hres with ⟨z, le, hrun, hz4, hzm, PA, pc, rfl, hrz⟩ | ⟨z, le, hrun, hbad, tt, vv, rfl⟩ | ⟨out0, last0, a0, x, k, pos, p, g1, g2, g3, g4, rfl, g6⟩
    · have hprn : prn 0 z = Z := by have := (run_prn HZB.out hrun).1; rwa [List.take_length] at this
      have HE6 := Lib.hid (HE.out.below HB6.out)
      have HPR := Lib.hid hprn
      have HZM := Lib.hid hzm
      have HRZ := Lib.hid hrz
      clear hrun hzm hrz hprn
      obtain ⟨m, hmz⟩ : ∃ m, m = z.length := ⟨_, rfl⟩
      rw [← hmz] at HRZ hz4 ⊢
      have HMZ := Lib.hid hmz
      clear hmz
      go_wp2_with fail
      go_must (refine (print_ok2 PA m pc z ak ai as_ _ HRZ.out HMZ.out.symm hz4 HE6.out.e3.hg HE6.out.e3.hk HE6.out.e3.hi HE6.out.e3.hs HZM.out).mono ?_)
      rw [HPR.out]
      rintro e w7 ⟨CA, cc, rfl, hr7, hb7, _, _⟩
      have HR7 := Lib.hid hr7
      clear hr7
      have HB7 : Hid (Below w.heap.size w w7) := Lib.hid (HB6.out.trans (hb7.mono HB6.out.size))
      have HK7 : Hid (Blk w7 w.heap.size 47 #[.bool o0, .bool o1, .bool o2, .bool o3, .bool o4, .int .i64 rr]) := Lib.hid (HK6.out.below hb7 HK6.out.lt)
      clear hb7
      rw [HZL.out] at HR7 ⊢
      go_wp2_with fail
      go_must (refine (same_any CA A1 n1 n1 cc c1 Z Z _ HR7.out ((HR1.out.below HB7.out).more HB7.out.size) (by omega)).mono ?_)
      rintro e w8 ⟨rfl, hb8⟩
      rw [show sameB Z Z = true by simp [sameB]]
      have HB8 : Hid (Below w.heap.size w w8) := Lib.hid (HB7.out.trans (hb8.mono HB7.out.size))
      have HK8 : Hid (Blk w8 w.heap.size 47 #[.bool o0, .bool o1, .bool o2, .bool o3, .bool o4, .int .i64 rr]) := Lib.hid (HK7.out.below hb8 HK7.out.lt)
      clear hb8
      have k0 : w8.cell? ⟨w.heap.size, 0, none⟩ = some (.bool o0) := HK8.out.cell 0
      have k1 : w8.cell? ⟨w.heap.size, 1, none⟩ = some (.bool o1) := HK8.out.cell 1
      have k2 : w8.cell? ⟨w.heap.size, 2, none⟩ = some (.bool o2) := HK8.out.cell 2
      have k3 : w8.cell? ⟨w.heap.size, 3, none⟩ = some (.bool o3) := HK8.out.cell 3
      have k4 : w8.cell? ⟨w.heap.size, 4, none⟩ = some (.bool o4) := HK8.out.cell 4
      have k5 : w8.cell? ⟨w.heap.size, 5, none⟩ = some (.int .i64 rr) := HK8.out.cell 5
      go_wp2_with fail
      go_must (refine (pack_any o0 o1 o2 o3 o4 rr _).mono ?_)
      rintro e w9 ⟨rfl, hb9⟩
      have HB9 : Hid (Below w.heap.size w w9) := Lib.hid (HB8.out.trans (hb9.mono HB8.out.size))
      have HK9 : Hid (Blk w9 w.heap.size 47 #[.bool o0, .bool o1, .bool o2, .bool o3, .bool o4, .int .i64 rr]) := Lib.hid (HK8.out.below hb9 HK8.out.lt)
      clear hb9
      have HPK := Lib.hid (pack_back o0 o1 o2 o3 o4 rr)
      obtain ⟨nn, hnn⟩ : ∃ x, x = pkK [o0, o1, o2, o3, o4] (pk0 rr) 5 := ⟨_, rfl⟩
      rw [← hnn] at HPK ⊢
      clear hnn
      have s0 : decide (nn ≥ 0) = true := by have := HPK.out.1; simpa using this
      have s0' : decide (0 ≤ nn) = true := by have := HPK.out.1; simpa using this
      have s1 : decide (nn < 512) = true := by have := HPK.out.2.1; simpa using this
      go_wp2_with fail
      go_must (refine (unpack_any nn _).mono ?_)
      rintro e wt ⟨rfl, hbt⟩
      have HBt : Hid (Below w.heap.size w wt) := Lib.hid (HB9.out.trans (hbt.mono HB9.out.size))
      have HKt : Hid (Blk wt w.heap.size 47 #[.bool o0, .bool o1, .bool o2, .bool o3, .bool o4, .int .i64 rr]) := Lib.hid (HK9.out.below hbt HK9.out.lt)
      unfold oV
      rw [HPK.out.2.2.1, HPK.out.2.2.2.1, HPK.out.2.2.2.2.1, HPK.out.2.2.2.2.2.1, HPK.out.2.2.2.2.2.2.1]
      obtain ⟨qq, hqq⟩ : ∃ x, x = regsOf nn := ⟨_, rfl⟩
      rw [← hqq]
      have HQ : Hid (qq = min (max rr 1) 16) := Lib.hid (by rw [hqq]; exact HPK.out.2.2.2.2.2.2.2)
      clear hqq hbt
      have m0 : wt.cell? ⟨w.heap.size, 0, none⟩ = some (.bool o0) := HKt.out.cell 0
      have m1 : wt.cell? ⟨w.heap.size, 1, none⟩ = some (.bool o1) := HKt.out.cell 1
      have m2 : wt.cell? ⟨w.heap.size, 2, none⟩ = some (.bool o2) := HKt.out.cell 2
      have m3 : wt.cell? ⟨w.heap.size, 3, none⟩ = some (.bool o3) := HKt.out.cell 3
      have m4 : wt.cell? ⟨w.heap.size, 4, none⟩ = some (.bool o4) := HKt.out.cell 4
      have m5 : wt.cell? ⟨w.heap.size, 5, none⟩ = some (.int .i64 rr) := HKt.out.cell 5
      have hlt9 : w.heap.size < wt.heap.size := HKt.out.lt
      go_wp2
      all_goals go_ret
      all_goals (refine ⟨?_, HBt.out.alloc HBt.out.size _⟩)
      all_goals (have := HQ.out)
      all_goals (simp)
      all_goals omega
    · clear hrun hbad
      have k0 : w6.cell? ⟨w.heap.size, 0, none⟩ = some (.bool o0) := HK6.out.cell 0
      have k1 : w6.cell? ⟨w.heap.size, 1, none⟩ = some (.bool o1) := HK6.out.cell 1
      have k2 : w6.cell? ⟨w.heap.size, 2, none⟩ = some (.bool o2) := HK6.out.cell 2
      have k3 : w6.cell? ⟨w.heap.size, 3, none⟩ = some (.bool o3) := HK6.out.cell 3
      have k4 : w6.cell? ⟨w.heap.size, 4, none⟩ = some (.bool o4) := HK6.out.cell 4
      have k5 : w6.cell? ⟨w.heap.size, 5, none⟩ = some (.int .i64 rr) := HK6.out.cell 5
      go_wp2_with fail
      go_must (refine (pack_any o0 o1 o2 o3 o4 rr _).mono ?_)
      rintro e w9 ⟨rfl, hb9⟩
      have HB9 : Hid (Below w.heap.size w w9) := Lib.hid (HB6.out.trans (hb9.mono HB6.out.size))
      have HK9 : Hid (Blk w9 w.heap.size 47 #[.bool o0, .bool o1, .bool o2, .bool o3, .bool o4, .int .i64 rr]) := Lib.hid (HK6.out.below hb9 HK6.out.lt)
      clear hb9
      have HPK := Lib.hid (pack_back o0 o1 o2 o3 o4 rr)
      obtain ⟨nn, hnn⟩ : ∃ x, x = pkK [o0, o1, o2, o3, o4] (pk0 rr) 5 := ⟨_, rfl⟩
      rw [← hnn] at HPK ⊢
      clear hnn
      have s0 : decide (nn ≥ 0) = true := by have := HPK.out.1; simpa using this
      have s0' : decide (0 ≤ nn) = true := by have := HPK.out.1; simpa using this
      have s1 : decide (nn < 512) = true := by have := HPK.out.2.1; simpa using this
      go_wp2_with fail
      go_must (refine (unpack_any nn _).mono ?_)
      rintro e wt ⟨rfl, hbt⟩
      have HBt : Hid (Below w.heap.size w wt) := Lib.hid (HB9.out.trans (hbt.mono HB9.out.size))
      have HKt : Hid (Blk wt w.heap.size 47 #[.bool o0, .bool o1, .bool o2, .bool o3, .bool o4, .int .i64 rr]) := Lib.hid (HK9.out.below hbt HK9.out.lt)
      unfold oV
      rw [HPK.out.2.2.1, HPK.out.2.2.2.1, HPK.out.2.2.2.2.1, HPK.out.2.2.2.2.2.1, HPK.out.2.2.2.2.2.2.1]
      obtain ⟨qq, hqq⟩ : ∃ x, x = regsOf nn := ⟨_, rfl⟩
      rw [← hqq]
      have HQ : Hid (qq = min (max rr 1) 16) := Lib.hid (by rw [hqq]; exact HPK.out.2.2.2.2.2.2.2)
      clear hqq hbt
      have m0 : wt.cell? ⟨w.heap.size, 0, none⟩ = some (.bool o0) := HKt.out.cell 0
      have m1 : wt.cell? ⟨w.heap.size, 1, none⟩ = some (.bool o1) := HKt.out.cell 1
      have m2 : wt.cell? ⟨w.heap.size, 2, none⟩ = some (.bool o2) := HKt.out.cell 2
      have m3 : wt.cell? ⟨w.heap.size, 3, none⟩ = some (.bool o3) := HKt.out.cell 3
      have m4 : wt.cell? ⟨w.heap.size, 4, none⟩ = some (.bool o4) := HKt.out.cell 4
      have m5 : wt.cell? ⟨w.heap.size, 5, none⟩ = some (.int .i64 rr) := HKt.out.cell 5
      have hlt9 : w.heap.size < wt.heap.size := HKt.out.lt
      go_wp2
      all_goals go_ret
      all_goals (refine ⟨?_, HBt.out.alloc HBt.out.size _⟩)
      all_goals (have := HQ.out)
      all_goals (simp)
      all_goals omega
    · clear g1 g2 g3 g4 g6
      have k0 : w6.cell? ⟨w.heap.size, 0, none⟩ = some (.bool o0) := HK6.out.cell 0
      have k1 : w6.cell? ⟨w.heap.size, 1, none⟩ = some (.bool o1) := HK6.out.cell 1
      have k2 : w6.cell? ⟨w.heap.size, 2, none⟩ = some (.bool o2) := HK6.out.cell 2
      have k3 : w6.cell? ⟨w.heap.size, 3, none⟩ = some (.bool o3) := HK6.out.cell 3
      have k4 : w6.cell? ⟨w.heap.size, 4, none⟩ = some (.bool o4) := HK6.out.cell 4
      have k5 : w6.cell? ⟨w.heap.size, 5, none⟩ = some (.int .i64 rr) := HK6.out.cell 5
      go_wp2_with fail
      go_must (refine (pack_any o0 o1 o2 o3 o4 rr _).mono ?_)
      rintro e w9 ⟨rfl, hb9⟩
      have HB9 : Hid (Below w.heap.size w w9) := Lib.hid (HB6.out.trans (hb9.mono HB6.out.size))
      have HK9 : Hid (Blk w9 w.heap.size 47 #[.bool o0, .bool o1, .bool o2, .bool o3, .bool o4, .int .i64 rr]) := Lib.hid (HK6.out.below hb9 HK6.out.lt)
      clear hb9
      have HPK := Lib.hid (pack_back o0 o1 o2 o3 o4 rr)
      obtain ⟨nn, hnn⟩ : ∃ x, x = pkK [o0, o1, o2, o3, o4] (pk0 rr) 5 := ⟨_, rfl⟩
      rw [← hnn] at HPK ⊢
      clear hnn
      have s0 : decide (nn ≥ 0) = true := by have := HPK.out.1; simpa using this
      have s0' : decide (0 ≤ nn) = true := by have := HPK.out.1; simpa using this
      have s1 : decide (nn < 512) = true := by have := HPK.out.2.1; simpa using this
      go_wp2_with fail
      go_must (refine (unpack_any nn _).mono ?_)
      rintro e wt ⟨rfl, hbt⟩
      have HBt : Hid (Below w.heap.size w wt) := Lib.hid (HB9.out.trans (hbt.mono HB9.out.size))
      have HKt : Hid (Blk wt w.heap.size 47 #[.bool o0, .bool o1, .bool o2, .bool o3, .bool o4, .int .i64 rr]) := Lib.hid (HK9.out.below hbt HK9.out.lt)
      unfold oV
      rw [HPK.out.2.2.1, HPK.out.2.2.2.1, HPK.out.2.2.2.2.1, HPK.out.2.2.2.2.2.1, HPK.out.2.2.2.2.2.2.1]
      obtain ⟨qq, hqq⟩ : ∃ x, x = regsOf nn := ⟨_, rfl⟩
      rw [← hqq]
      have HQ : Hid (qq = min (max rr 1) 16) := Lib.hid (by rw [hqq]; exact HPK.out.2.2.2.2.2.2.2)
      clear hqq hbt
      have m0 : wt.cell? ⟨w.heap.size, 0, none⟩ = some (.bool o0) := HKt.out.cell 0
      have m1 : wt.cell? ⟨w.heap.size, 1, none⟩ = some (.bool o1) := HKt.out.cell 1
      have m2 : wt.cell? ⟨w.heap.size, 2, none⟩ = some (.bool o2) := HKt.out.cell 2
      have m3 : wt.cell? ⟨w.heap.size, 3, none⟩ = some (.bool o3) := HKt.out.cell 3
      have m4 : wt.cell? ⟨w.heap.size, 4, none⟩ = some (.bool o4) := HKt.out.cell 4
      have m5 : wt.cell? ⟨w.heap.size, 5, none⟩ = some (.int .i64 rr) := HKt.out.cell 5
      have hlt9 : w.heap.size < wt.heap.size := HKt.out.lt
      go_wp2
      all_goals go_ret
      all_goals (refine ⟨?_, HBt.out.alloc HBt.out.size _⟩)
      all_goals (have := HQ.out)
      all_goals (simp)
      all_goals omega

theorem contract (H : Type) (enc : TypeId × Value → H) (W : World) (base : Nat) (args : Array Value) (ds gs : List (DataW H)) (before : List MemPlace)
    (hval : ∀ (j : Nat) t v, Tryd.f6.params[j]? = some t → args[j]? = some v → Value.okWide Tryd.prog W .any base t v)
    (hW : DataW.Whole enc Tryd.prog Tryd.f6.params.toList Rows.scriptBackSpec.vars false W args.toList ds gs before) (hL : laidMetH Tryd.prog Rows.scriptBackRow.laid W) :
    Calls Tryd.prog 6 args W fun e W' => ∃ v, e = .returned v ∧ Rows.scriptBackSpec.post enc Tryd.prog Tryd.f6 false true false false W args v W' := by
  have hW' := hW
  obtain ⟨p, q, hA0, hV, rfl, hfz, hnd⟩ := hW
  have hA : DataW.TrodAll enc Tryd.prog W 0 (fun _ => true) true Tryd.f6.params.toList args.toList ds p := hA0
  rw [Tryd.params6] at hA hval
  obtain ⟨v0, vs0, d0, ds0, p0, q0, hargs, rfl, rfl, h0, r0⟩ := trodAll_cons hA
  obtain ⟨v1, vs1, d1, ds1, p1, q1, rfl, rfl, rfl, h1, r1⟩ := trodAll_cons r0
  obtain ⟨v2, vs2, d2, ds2, p2, q2, rfl, rfl, rfl, h2, r2⟩ := trodAll_cons r1
  obtain ⟨rfl, rfl, rfl⟩ := trodAll_nil r2
  obtain rfl : args = #[v0, v1, v2] := by cases args; simp_all
  obtain ⟨rfl, rfl⟩ := trodVars_none hV
  obtain ⟨A0, n0, c0, z0, rfl, hc0, hn0, hl0, hr0⟩ := open_picks (hval 0 24 v0 rfl rfl) h0
  obtain ⟨A1, n1, c1, z1, rfl, hc1, hn1, hl1, hr1, hw1⟩ := open_row_ints Tryd.underlying45 Tryd.underlying5 (by kernel_rfl) (hval 1 45 v1 rfl rfl) h1
  obtain ⟨o0, o1, o2, o3, o4, rr, rfl⟩ := open_opts (hval 2 47 v2 rfl rfl) h2
  clear hA0
  obtain ⟨ads, e1, e2, e3⟩ := scriptBack_errs hL
  refine (walk W ads e1 e2 e3 A0 n0 c0 z0 hc0 hn0 hl0 hr0 A1 n1 c1 z1 hc1 hn1 hl1 hr1 hw1 o0 o1 o2 o3 o4 rr).mono fun e W' ⟨he, hg⟩ => ?_
  subst he
  exact ⟨_, rfl, post_law kids full (by rw [Tryd.params6]; decide +kernel) rfl hW' rfl rfl rfl hg (by kernel_rfl) Tryd.underlying4⟩

theorem reads (os : Os) {H : Type} (enc : TypeId × Value → H) : ∃ places, DataW.whole enc Tryd.prog ((laidWorld os).forCall (fun _ _ => 0) ⟨#[], #[.slice none 0 0, .slice none 0 0, .agg #[.bool false, .bool false, .bool false, .bool false, .bool false, .int .i64 0]], []⟩).memory Tryd.f6.params.toList Rows.scriptBackSpec.vars false #[.slice none 0 0, .slice none 0 0, .agg #[.bool false, .bool false, .bool false, .bool false, .bool false, .int .i64 0]].toList 8 = some ([.nil, .nil, .agg [.lit (.bool false), .lit (.bool false), .lit (.bool false), .lit (.bool false), .lit (.bool false), .lit (.int .i64 0)]], [], places) :=
  ⟨[], by kernel_rfl⟩

set_option maxRecDepth 100000 in
theorem lifted (os : Os) (started : os.Started) (H : Type) (enc : TypeId × Value → H) (F : Stop.Interp) :
    ReturnsInHanded {} Tryd.checked os 6 .any ((OpenSpec.ofChange Rows.scriptBackSpec).preRow enc Tryd.prog Tryd.f6 Rows.scriptBackRow.domain false Rows.scriptBackRow.laid) (((OpenSpec.ofChange Rows.scriptBackSpec).at F).post enc Tryd.prog Tryd.f6 false true false false) := by
  obtain ⟨places, hx⟩ := reads os enc
  refine returnsInHanded_of_row (C := Tryd.checked) (s := OpenSpec.ofChange Rows.scriptBackSpec) own started (by kernel_rfl) Tryd.func6
    (witness_row_atRef (enc := enc) (C := Tryd.checked) false (laidWorld os) #[.slice none 0 0, .slice none 0 0, .agg #[.bool false, .bool false, .bool false, .bool false, .bool false, .int .i64 0]] rfl (by kernel_rfl) (by kernel_rfl) (by kernel_rfl)
      (OpenSpec.preRow_of_cond 8 hx (by kernel_rfl) (fun k hk => by cases hk) (by kernel_rfl) (scriptBack_met os _))) ?_
  intro W base args ds gs before hval hW _ _ _ hL _ _
  exact contract H enc W base args ds gs before hval hW hL

theorem said : Rows.ScriptBackSaid :=
  OpenClaim.holds_of_cond 6 Tryd.f6 rfl rfl rfl rfl rfl rfl rfl ⟨rfl, rfl, rfl, rfl, rfl⟩ rfl rfl rfl rfl rfl (by kernel_rfl) Tryd.func6 (by kernel_rfl)
    (of_decide_eq_true (by kernel_rfl)) (by unfold Func.isWrapper; first | (rw [if_pos (by decide +kernel)]; kernel_rfl) | (rw [if_neg (by decide +kernel)]; exact ⟨rfl, rfl⟩))
    (fun os started H enc _ F => by rw [OpenClaim.pre_eq_preRow]; exact lifted os started H enc F)

theorem plain (f : FuncId) (fn : Func) (hf : Tryd.pinned.checked.prog.funcNamed "overdrive/overdrivelaw15.ScriptBack" = some f) (hfn : Tryd.pinned.checked.prog.funcs[f]? = some fn) :
    true = Tryd.pinned.checked.prog.looks [] ∧ ∀ (j : Nat) t, fn.params[j]? = some t → Tryd.pinned.checked.prog.wantsStandIn t = false := by
  obtain rfl : f = 6 := Option.some.inj ((show Tryd.prog.funcNamed "overdrive/overdrivelaw15.ScriptBack" = some 6 by kernel_rfl).symm.trans hf) |>.symm
  obtain rfl : fn = Tryd.f6 := (Option.some.inj (Tryd.func6.symm.trans hfn)).symm
  refine ⟨by kernel_rfl, fun j t ht => ?_⟩
  have hm := Array.mem_of_getElem? ht
  have hall : (Tryd.f6.params.toList.all fun t => Tryd.prog.wantsStandIn t == false) = true := by kernel_rfl
  have hw : Tryd.prog.wantsStandIn t = false := by simpa using List.all_eq_true.1 hall t (by simpa using hm)
  exact hw

theorem card : Rows.ScriptBackCardSaid :=
  Claim7.holds_tied_plain_at .later [] _ _ _ _ said (fun _ h => by cases h) (by kernel_rfl) (fun _ h => by cases h) scriptBack_row_tie rfl ⟨rfl, rfl⟩ (by kernel_rfl) rfl plain (by kernel_rfl)
#print axioms card
end Go.Proofs.YtomabogjoampnaaDoor.scriptBack
