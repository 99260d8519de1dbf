/- The contracts of overdriveref.Instrs, Method, Methods, Classes, Program: copies in new memory. -/
import Derived.Test.YtnojejplckhifaaDoorDecS
import Derived.Deep.RegionHeld3
import Derived.StillTailTactics
namespace Go.Proofs.YtnojejplckhifaaDoor
open Go.RowKit
set_option linter.unusedVariables false

/-- a copy of a list in new memory -/
def RowPost (t : TypeId) (s : Nat) (w : World) (n : Nat) (xs : List Value) (e : Ending) (w' : World) : Prop :=
  ∃ A c, e = .returned (.slice A n c) ∧ w'.ownsRow w.heap.size t s (.slice A n c) n xs ∧ Below w.heap.size w w'
theorem rowPost_of {t : TypeId} {s : Nat} {w w2 : World} {v : Value} {n : Nat} {xs : List Value} (h : w2.ownsRow w.heap.size t s v n xs) (hb : Below w.heap.size w w2) : RowPost t s w n xs (.returned v) w2 := by
  obtain ⟨A, c, hv, _⟩ := own_reads h
  subst hv
  exact ⟨A, c, rfl, h, hb⟩
def CiRel (w : World) (l : List Ins) (out si : Value) (wr : World) : Prop :=
  ∃ k : Nat, k ≤ l.length ∧ si = .int .i64 (k : Int) ∧ wr.ownsRow w.heap.size 56 4 out k (insL (l.take k)) ∧ Below w.heap.size w wr
theorem insL_take (l : List Ins) (k : Nat) (x : Ins) (h : l[k]? = some x) : insL (l.take (k + 1)) = insL (l.take k) ++ insC x := by
  unfold insL
  rw [List.take_add_one, h]
  simp
set_option maxRecDepth 100000 in
set_option maxHeartbeats 1000000 in
theorem instrs_any (A : Option Addr) (n c : Nat) (l : List Ins) (w : World) (ha : Reads w w.heap.size 4 A n (insL l)) (hl : l.length = n) (hn : n ≤ 65000) :
    Calls Tryd.prog 82 #[.slice A n c] w (RowPost 56 4 w n (insL l)) := by
  obtain ⟨i0, hi0, hz0, hz1, hz2⟩ := info_parts ins_info
  subst hl
  go_enter Tryd.func82, Tryd.ntmps82
  go_wp2_with (at_make
               go_must (refine wpList_make_own _ rfl _ _ 52 rfl w.heap.size 56 i0 (.agg #[.int .i64 0, .int .i64 0, .int .i64 0, .int .i64 0]) 4 Tryd.underlying52 hi0 hz0 hz1 _ _ _ l.length rfl rfl (by omega) (by rw [hz2]; omega) (by unfold maxLen; omega) (Nat.le_refl _) ?_)
               intro w0 hown0 hg0
               have hb0 : Below w.heap.size w w0 := (Below.refl _ _).grown hg0 (Nat.le_refl _) (fun k h => by cases h))
  go_loopw [3, 4] (fun out si wr => CiRel w l out si wr) (fun _ si _ => l.length - (intOf si).toNat)
  case atStart => exact ⟨0, Nat.zero_le _, rfl, by simpa [insL] using hown0, hb0⟩
  case round =>
    obtain ⟨k, hk, rfl, hown, hbr⟩ := hrel
    by_cases hlt : k < l.length
    · obtain ⟨x, hx⟩ : ∃ x, l[k]? = some x := ⟨_, List.getElem?_eq_getElem hlt⟩
      obtain ⟨ad, rfl, had, q0, q1, q2, q3⟩ := (ha.below hbr).four insC_len hx rfl
      have HX := Lib.hid hx
      clear hx
      go_wp2_with (at_builtin
                   go_must (refine wpList_append_any _ rfl (.tmp 14) (.tmp 19) _ rfl w.heap.size 56 i0 _ 4 32 Tryd.underlying52 hi0 hz0 hz1 hz2 rfl (by omega) u3 k (insL (l.take k)) rfl (hown.alloc _) _ (some ⟨wr.heap.size, 0, none⟩) 1 1 (insC x) rfl (by exact reads_newS _ _ _ 4 1 _ rfl rfl) (insC_one x) (by unfold maxLen; omega) (by omega) (by have := hbr.size; simp; omega) ?_)
                   intro v2 w2 hown2 hg2 hat2)
      go_roundw
      case rel => exact ⟨k + 1, by omega, by go_num, by rw [insL_take l k x HX.out]; exact hown2, (hbr.alloc hbr.size _).grown hg2 (by have := hbr.size; simp; omega) (fun k hk => own_ge hown hk)⟩
      case measure => simp [intOf]; omega
    · obtain rfl : k = l.length := by omega
      go_wp2
      go_ret
      rw [List.take_of_length_le (Nat.le_refl _)] at hown
      exact rowPost_of hown hbr
def CcRel (w : World) (l : List (List UInt8)) (out si : Value) (wr : World) : Prop :=
  ∃ k : Nat, k ≤ l.length ∧ si = .int .i64 (k : Int) ∧ wr.ownsRow w.heap.size 65 1 out k ((l.take k).map strV) ∧ Below w.heap.size w wr
theorem strV_one (s : List UInt8) : ∀ u ∈ [strV s], u.oneCell' = true := by
  intro u hu
  simp [strV] at hu
  subst hu
  rfl
set_option maxRecDepth 100000 in
set_option maxHeartbeats 1000000 in
theorem classes_any (A : Option Addr) (n c : Nat) (l : List (List UInt8)) (w : World) (ha : Reads w w.heap.size 1 A n (l.map strV)) (hl : l.length = n) (hn : n ≤ 65000) :
    Calls Tryd.prog 57 #[.slice A n c] w (RowPost 65 1 w n (l.map strV)) := by
  obtain ⟨i0, hi0, hz0, hz1, hz2⟩ := info_parts cls_info
  subst hl
  go_enter Tryd.func57, Tryd.ntmps57
  go_wp2_with (at_make
               go_must (refine wpList_make_own _ rfl _ _ 22 rfl w.heap.size 65 i0 (.agg #[.string ⟨#[]⟩]) 1 Tryd.underlying22 hi0 hz0 hz1 _ _ _ l.length rfl rfl (by omega) (by rw [hz2]; omega) (by unfold maxLen; omega) (Nat.le_refl _) ?_)
               intro w0 hown0 hg0
               have hb0 : Below w.heap.size w w0 := (Below.refl _ _).grown hg0 (Nat.le_refl _) (fun k h => by cases h))
  go_loopw [3, 4] (fun out si wr => CcRel w l out si wr) (fun _ si _ => l.length - (intOf si).toNat)
  case atStart => exact ⟨0, Nat.zero_le _, rfl, by simpa using hown0, hb0⟩
  case round =>
    obtain ⟨k, hk, rfl, hown, hbr⟩ := hrel
    by_cases hlt : k < l.length
    · obtain ⟨x, hx⟩ : ∃ x, l[k]? = some x := ⟨_, List.getElem?_eq_getElem hlt⟩
      obtain ⟨ad, u, rfl, had, hu, hcell⟩ := (ha.below hbr).at_ hlt
      rw [List.getElem?_map, hx] at hu
      obtain rfl : strV x = u := by simpa using hu
      unfold strV at hcell
      have HX := Lib.hid hx
      clear hx hu
      go_wp2_with (at_builtin
                   go_must (refine wpList_append_any _ rfl (.tmp 14) (.tmp 19) _ rfl w.heap.size 65 i0 _ 1 16 Tryd.underlying22 hi0 hz0 hz1 hz2 rfl (by omega) u3 k ((l.take k).map strV) rfl (hown.alloc _) _ (some ⟨wr.heap.size, 0, none⟩) 1 1 [strV x] rfl (by exact reads_newS _ _ _ 1 1 _ rfl rfl) (strV_one x) (by unfold maxLen; omega) (by omega) (by have := hbr.size; simp; omega) ?_)
                   intro v2 w2 hown2 hg2 hat2)
      go_roundw
      case rel => exact ⟨k + 1, by omega, by go_num, by rw [List.take_add_one, HX.out]; simpa using hown2, (hbr.alloc hbr.size _).grown hg2 (by have := hbr.size; simp; omega) (fun k hk => own_ge hown hk)⟩
      case measure => simp [intOf]; omega
    · obtain rfl : k = l.length := by omega
      go_wp2
      go_ret
      rw [List.take_of_length_le (Nat.le_refl _)] at hown
      exact rowPost_of hown hbr
/-- a copy of a method: the same data, its instructions in new memory -/
def MetPost (w : World) (m : Met) (e : Ending) (w' : World) : Prop :=
  ∃ A c, e = .returned (metAgg ⟨m, A, c⟩) ∧ codeOwn w' w.heap.size ⟨m, A, c⟩ ∧ Below w.heap.size w w'
set_option maxRecDepth 100000 in
set_option maxHeartbeats 1000000 in
theorem method_any (x : MV) (q0 q1 q2 : ByteArray) (n : Nat) (h0 : strV x.m.par = .string q0) (h1 : strV x.m.loc = .string q1) (h2 : strV x.m.ret = .string q2) (hn : x.m.code.length = n) (w : World) (ha : Reads w w.heap.size 4 x.A n (insL x.m.code)) (hl : n ≤ 65000) :
    Calls Tryd.prog 71 #[.agg #[.string q0, .string q1, .string q2, .slice x.A n x.c]] w (MetPost w x.m) := by
  obtain ⟨W, hW⟩ : ∃ W, W = (w.alloc (.cells #[.string q0, .string q1, .string q2, .slice x.A n x.c] 54)).alloc (.cells #[.string ⟨#[]⟩, .string ⟨#[]⟩, .string ⟨#[]⟩, .slice none 0 0] 54) := ⟨_, rfl⟩
  have HB : Hid (Below w.heap.size w W) := Lib.hid (by rw [hW]; exact ((Below.refl _ _).alloc (Nat.le_refl _) _).alloc (by simp) _)
  have HK : Hid (Blk W w.heap.size 54 #[.string q0, .string q1, .string q2, .slice x.A n x.c]) := Lib.hid (by rw [hW]; exact (Blk.new _ _ _).alloc _)
  have HR : Hid (Blk W (w.heap.size + 1) 54 #[.string ⟨#[]⟩, .string ⟨#[]⟩, .string ⟨#[]⟩, .slice none 0 0]) := Lib.hid (by
    rw [hW]
    have := Blk.new (w.alloc (.cells #[.string q0, .string q1, .string q2, .slice x.A n x.c] 54)) 54 #[.string ⟨#[]⟩, .string ⟨#[]⟩, .string ⟨#[]⟩, .slice none 0 0]
    simpa using this)
  have HA : Hid (Reads W.drew W.drew.heap.size 4 x.A n (insL x.m.code)) := Lib.hid ((ha.below HB.out).more HB.out.size)
  have HMA : Hid (∀ A c, metAgg ⟨x.m, A, c⟩ = .agg #[.string q0, .string q1, .string q2, .slice A n c]) := Lib.hid (fun A c => by unfold metAgg; rw [h0, h1, h2]; show _ = _; rw [← hn])
  have HN := Lib.hid hn
  obtain ⟨gm, hgm⟩ : ∃ g, g = w.heap.size := ⟨_, rfl⟩
  obtain ⟨gr, hgr⟩ : ∃ g, g = w.heap.size + 1 := ⟨_, rfl⟩
  have HG : Hid (w.heap.size ≤ gr) := Lib.hid (by omega)
  have HG2 : Hid (gr = gm + 1) := Lib.hid (by omega)
  clear h0 h1 h2 hn ha
  go_enter Tryd.func71, Tryd.ntmps71
  go_wp2_with fail
  rw [← hW]
  rw [← hgr] at HR ⊢
  rw [← hgm] at HK ⊢
  clear hW hgr hgm
  have x0 : W.cell? ⟨gm, 0, none⟩ = some (.string q0) := HK.out.cell 0
  have x1 : W.cell? ⟨gm, 1, none⟩ = some (.string q1) := HK.out.cell 1
  have x2 : W.cell? ⟨gm, 2, none⟩ = some (.string q2) := HK.out.cell 2
  have x3 : W.cell? ⟨gm, 3, none⟩ = some (.slice x.A n x.c) := HK.out.cell 3
  have gml := HK.out.lt
  have hne : gm ≠ gr := by have := HG2.out; omega
  go_region_held3 (fun w' => w'.cell? ⟨gm, 0, none⟩ = some (.string q0) ∧ w'.cell? ⟨gm, 1, none⟩ = some (.string q1) ∧ w'.cell? ⟨gm, 2, none⟩ = some (.string q2) ∧ w'.cell? ⟨gm, 3, none⟩ = some (.slice x.A n x.c)) (first | go_keep | exact HS.out | exact ⟨(HS2.out _ _ _ _).cell 0, (HS2.out _ _ _ _).cell 1, (HS2.out _ _ _ _).cell 2, (HS2.out _ _ _ _).cell 3⟩) ((go_at_call 82; refine (instrs_any x.A n x.c x.m.code _ HA.out HN.out hl).mono ?_; rintro e w2 ⟨A2, c2, rfl, hown2, hb2⟩; have HO2 := Lib.hid hown2; have HB2 : Hid (Below W.heap.size W w2) := Lib.hid ((Below.refl _ _).drew.trans hb2); clear hown2 hb2; have HK2 := Lib.hid (HK.out.below HB2.out HK.out.lt); have HR2 := Lib.hid (HR.out.below HB2.out HR.out.lt); have HS := Lib.hid (show _ ∧ _ ∧ _ ∧ _ from ⟨HK2.out.cell 0, HK2.out.cell 1, HK2.out.cell 2, HK2.out.cell 3⟩); have HS2 := Lib.hid (show ∀ u0 u1 u2 u3, Blk ((((w2.setCell ⟨gr, 0, none⟩ u0).setCell ⟨gr, 1, none⟩ u1).setCell ⟨gr, 2, none⟩ u2).setCell ⟨gr, 3, none⟩ u3) gm 54 #[.string q0, .string q1, .string q2, .slice x.A n x.c] from fun _ _ _ _ => (((HK2.out.far (p := ⟨gr, 0, none⟩) hne _).far (p := ⟨gr, 1, none⟩) hne _).far (p := ⟨gr, 2, none⟩) hne _).far (p := ⟨gr, 3, none⟩) hne _); have c0 : w2.cell? ⟨gr, 0, none⟩ = some (.string ⟨#[]⟩) := HR2.out.cell 0; have c1 : w2.cell? ⟨gr, 1, none⟩ = some (.string ⟨#[]⟩) := HR2.out.cell 1; have c2' : w2.cell? ⟨gr, 2, none⟩ = some (.string ⟨#[]⟩) := HR2.out.cell 2; have c3 : w2.cell? ⟨gr, 3, none⟩ = some (.slice none 0 0) := HR2.out.cell 3; have f0 := HR2.out.frozen 0; have f1 := HR2.out.frozen 1; have f2 := HR2.out.frozen 2; have f3 := HR2.out.frozen 3; have g2 := HR2.out.lt; have k0 : w2.cell? ⟨gm, 0, none⟩ = some (.string q0) := HK2.out.cell 0; have k1 : w2.cell? ⟨gm, 1, none⟩ = some (.string q1) := HK2.out.cell 1; have k2 : w2.cell? ⟨gm, 2, none⟩ = some (.string q2) := HK2.out.cell 2; have k3 : w2.cell? ⟨gm, 3, none⟩ = some (.slice x.A n x.c) := HK2.out.cell 3))
  all_goals (
    go_wp2
    refine bodyPost_ret (v := .agg #[.string q0, .string q1, .string q2, .slice A2 n c2]) ?_ rfl ?_
    · simp [results, Tryd.results71, go_sem, c0, c1, c2', c3]
    · have e1 := HR2.out.set_ 0 (.string q0)
      have e2 := e1.set_ 1 (.string q1)
      have e3 := e2.set_ 2 (.string q2)
      have o1 := own_far (i := 3) (own_far (i := 2) (own_far (i := 1) (own_far (i := 0) HO2.out HR2.out (by decide) (.string q0)) e1 (by decide) (.string q1)) e2 (by decide) (.string q2)) e3 (by decide) (.slice A2 n c2)
      refine ⟨A2, c2, by rw [HMA.out], ?_, (((((HB.out.trans (HB2.out.mono HB.out.size)).setCell (p := ⟨gr, 0, none⟩) HG.out _).setCell (p := ⟨gr, 1, none⟩) HG.out _).setCell (p := ⟨gr, 2, none⟩) HG.out _).setCell (p := ⟨gr, 3, none⟩) HG.out _)⟩
      unfold codeOwn
      rw [HN.out]
      exact own_base o1 HB.out.size)
def CmRel (w : World) (l : List MV) (out si : Value) (wr : World) : Prop :=
  ∃ (k : Nat) (ys : List MV), k ≤ l.length ∧ si = .int .i64 (k : Int) ∧ ys.map (·.m) = (l.take k).map (·.m) ∧ wr.ownsRow w.heap.size 54 4 out k (ys.flatMap mvC) ∧ (∀ y ∈ ys, codeOwn wr w.heap.size y) ∧ Below w.heap.size w wr
def MsPost (w : World) (l : List MV) (n : Nat) (e : Ending) (w' : World) : Prop :=
  ∃ (A : Option Addr) (c : Nat) (ys : List MV), e = .returned (.slice A n c) ∧ ys.map (·.m) = l.map (·.m) ∧ w'.ownsRow w.heap.size 54 4 (.slice A n c) n (ys.flatMap mvC) ∧ (∀ y ∈ ys, codeOwn w' w.heap.size y) ∧ Below w.heap.size w w'
set_option maxRecDepth 100000 in
set_option maxHeartbeats 1000000 in
theorem methods_any (A : Option Addr) (n c : Nat) (l : List MV) (w : World) (ha : Reads w w.heap.size 4 A n (l.flatMap mvC)) (hc : ∀ x ∈ l, Reads w w.heap.size 4 x.A x.m.code.length (insL x.m.code)) (hl : l.length = n) (hn : n ≤ 65000) (hcl : ∀ x ∈ l, x.m.code.length ≤ 65000) :
    Calls Tryd.prog 58 #[.slice A n c] w (MsPost w l n) := by
  obtain ⟨i0, hi0, hz0, hz1, hz2⟩ := info_parts met_info
  subst hl
  have HC := Lib.hid hc
  have HCL := Lib.hid hcl
  clear hc hcl
  go_enter Tryd.func58, Tryd.ntmps58
  go_wp2_with (at_make
               go_must (refine wpList_make_own _ rfl _ _ 23 rfl w.heap.size 54 i0 (.agg #[.string ⟨#[]⟩, .string ⟨#[]⟩, .string ⟨#[]⟩, .slice none 0 0]) 4 Tryd.underlying23 hi0 hz0 hz1 _ _ _ l.length rfl rfl (by omega) (by rw [hz2]; omega) (by unfold maxLen; omega) (Nat.le_refl _) ?_)
               intro w0 hown0 hg0
               have hb0 : Below w.heap.size w w0 := (Below.refl _ _).grown hg0 (Nat.le_refl _) (fun k h => by cases h))
  go_loopw [3, 4] (fun out si wr => CmRel w l out si wr) (fun _ si _ => l.length - (intOf si).toNat)
  case atStart => exact ⟨0, [], Nat.zero_le _, rfl, rfl, by simpa using hown0, (fun y hy => by cases hy), hb0⟩
  case round =>
    obtain ⟨k, ys, hk, rfl, hys, hown, hco, hbr⟩ := hrel
    have HYS := Lib.hid hys
    have HCO := Lib.hid hco
    have HOW := Lib.hid hown
    have HBR := Lib.hid hbr
    clear hys hco hown
    by_cases hlt : k < l.length
    · obtain ⟨x, hx⟩ : ∃ x, l[k]? = some x := ⟨_, List.getElem?_eq_getElem hlt⟩
      obtain ⟨ad, rfl, had, m0, m1, m2, m3⟩ := (ha.below hbr).four mvC_len hx rfl
      obtain ⟨q0, hq0⟩ : ∃ q, q = (⟨x.m.par.toArray⟩ : ByteArray) := ⟨_, rfl⟩
      obtain ⟨q1, hq1⟩ : ∃ q, q = (⟨x.m.loc.toArray⟩ : ByteArray) := ⟨_, rfl⟩
      obtain ⟨q2, hq2⟩ : ∃ q, q = (⟨x.m.ret.toArray⟩ : ByteArray) := ⟨_, rfl⟩
      obtain ⟨M, hM⟩ : ∃ q, q = x.m.code.length := ⟨_, rfl⟩
      have HS : Hid (strV x.m.par = .string q0 ∧ strV x.m.loc = .string q1 ∧ strV x.m.ret = .string q2) := Lib.hid ⟨by rw [hq0]; rfl, by rw [hq1]; rfl, by rw [hq2]; rfl⟩
      rw [HS.out.1] at m0
      rw [HS.out.2.1] at m1
      rw [HS.out.2.2] at m2
      rw [← hM] at m3
      have HM := Lib.hid hM
      have HX := Lib.hid hx
      have HXM := Lib.hid (List.mem_of_getElem? hx)
      have HR : Hid (Reads wr wr.heap.size 4 x.A M (insL x.m.code)) := Lib.hid (by rw [hM]; exact ((HC.out x HXM.out).below hbr).more hbr.size)
      have hM65 : M ≤ 65000 := by rw [hM]; exact HCL.out x HXM.out
      clear hq0 hq1 hq2 hM hx hbr
      go_wp2_with fail
      refine (method_any x q0 q1 q2 M HS.out.1 HS.out.2.1 HS.out.2.2 HM.out.symm _ HR.out hM65).mono ?_
      rintro e w2 ⟨A2, c2, rfl, hco2, hb2⟩
      have HMV : Hid (metAgg ⟨x.m, A2, c2⟩ = .agg #[.string q0, .string q1, .string q2, .slice A2 M c2] ∧ mvC ⟨x.m, A2, c2⟩ = [.string q0, .string q1, .string q2, .slice A2 M c2]) := Lib.hid (by
        unfold metAgg mvC
        rw [HS.out.1, HS.out.2.1, HS.out.2.2, HM.out]
        exact ⟨rfl, rfl⟩)
      rw [HMV.out.1]
      have HO2 := Lib.hid (own_below HOW.out hb2)
      have HB2 : Hid (Below w.heap.size w w2) := Lib.hid (HBR.out.trans (hb2.mono HBR.out.size))
      have HC2 : Hid (∀ y ∈ ys ++ [(⟨x.m, A2, c2⟩ : MV)], codeOwn w2 w.heap.size y) := Lib.hid (fun y hy => by
        rcases List.mem_append.1 hy with hy | hy
        · exact own_below (HCO.out y hy) hb2
        · obtain rfl := List.mem_singleton.1 hy
          exact own_base hco2 HBR.out.size)
      clear hco2 hb2
      go_wp2_with (at_builtin
                   go_must (refine wpList_append_any _ rfl (.tmp 14) (.tmp 20) _ rfl w.heap.size 54 i0 _ 4 72 Tryd.underlying23 hi0 hz0 hz1 hz2 rfl (by omega) u3 k (ys.flatMap mvC) rfl (HO2.out.alloc _) _ (some ⟨w2.heap.size, 0, none⟩) 1 1 [.string q0, .string q1, .string q2, .slice A2 M c2] rfl (by exact reads_newS _ _ _ 4 1 _ rfl rfl) (by intro u hu; simp at hu; rcases hu with rfl | rfl | rfl | rfl <;> rfl) (by unfold maxLen; omega) (by omega) (by have := HB2.out.size; simp; omega) ?_)
                   intro v3 w3 hown3 hg3 hat3)
      have HO3 : Hid (w3.ownsRow w.heap.size 54 4 v3 (k + 1) ((ys ++ [(⟨x.m, A2, c2⟩ : MV)]).flatMap mvC)) := Lib.hid (by rw [List.flatMap_append]; simp only [List.flatMap_cons, List.flatMap_nil, List.append_nil]; rw [HMV.out.2]; exact hown3)
      have HB3 : Hid (Below w.heap.size w w3) := Lib.hid ((HB2.out.alloc HB2.out.size _).grown hg3 (by have := HB2.out.size; simp; omega) (fun k hk => own_ge HO2.out hk))
      have HC3 : Hid (∀ y ∈ ys ++ [(⟨x.m, A2, c2⟩ : MV)], codeOwn w3 w.heap.size y) := Lib.hid (fun y hy => own_apart (own_below (HC2.out y hy) ((Below.refl _ _).alloc (Nat.le_refl _) _)) (own_below HO2.out ((Below.refl _ _).alloc (Nat.le_refl _) _)) (by decide) hg3)
      have HY3 : Hid ((ys ++ [(⟨x.m, A2, c2⟩ : MV)]).map (·.m) = (l.take (k + 1)).map (·.m)) := Lib.hid (by rw [List.take_add_one, HX.out, List.map_append, HYS.out]; simp)
      clear hown3 hg3 hat3
      go_roundw
      case rel => exact ⟨k + 1, _, by omega, by go_num, HY3.out, HO3.out, HC3.out, HB3.out⟩
      case measure => simp [intOf]; omega
    · obtain rfl : k = l.length := by omega
      have HY : Hid (ys.map (·.m) = l.map (·.m)) := Lib.hid (by have := HYS.out; rwa [List.take_of_length_le (Nat.le_refl _)] at this)
      obtain ⟨A3, c3, hv3, hrr⟩ := own_reads HOW.out
      subst hv3
      clear hrr
      go_wp2
      go_ret
      exact ⟨A3, c3, ys, rfl, HY.out, HOW.out, HCO.out, HBR.out⟩
/-- a copy of a program in new memory -/
def CPost (w : World) (P : Prg) (e : Ending) (w' : World) : Prop := Below w.heap.size w w' ∧ ∃ p : PV, p.prg = P ∧ e = .returned p.val ∧ PAt w' w'.heap.size p
theorem copy_fin {w wL : World} {gr N1 N2 : Nat} {p : PV} {AC AM : Option Addr} {cC cM : Nat} {ys : List MV} {x y : Value} (u v : Value) (hb : Below w.heap.size w wL) (hgr : w.heap.size ≤ gr) (hR : Blk wL gr 25 #[x, y])
    (h1 : wL.ownsRow w.heap.size 65 1 (.slice AC N1 cC) N1 (p.cls.map strV)) (h2 : wL.ownsRow w.heap.size 54 4 (.slice AM N2 cM) N2 (ys.flatMap mvC)) (h3 : ∀ y ∈ ys, codeOwn wL w.heap.size y)
    (hys : ys.map (·.m) = p.ms.map (·.m)) (hN1 : N1 = p.cls.length) (hN2 : N2 = p.ms.length) : CPost w p.prg (.returned (.agg #[.slice AC N1 cC, .slice AM N2 cM])) ((wL.setCell ⟨gr, 0, none⟩ u).setCell ⟨gr, 1, none⟩ v) := by
  have e1 := hR.set_ 0 u
  have o1 := own_far (i := 1) (own_far (i := 0) h1 hR (by decide) u) e1 (by decide) v
  have o2 := own_far (i := 1) (own_far (i := 0) h2 hR (by decide) u) e1 (by decide) v
  have o3 : ∀ y ∈ ys, codeOwn ((wL.setCell ⟨gr, 0, none⟩ u).setCell ⟨gr, 1, none⟩ v) w.heap.size y := fun y hy => own_far (i := 1) (own_far (i := 0) (h3 y hy) hR (by decide) u) e1 (by decide) v
  have hlen : ys.length = p.ms.length := by have := congrArg List.length hys; simpa using this
  subst hN1 hN2
  refine ⟨(hb.setCell (p := ⟨gr, 0, none⟩) hgr u).setCell (p := ⟨gr, 1, none⟩) hgr v, ⟨p.cls, AC, cC, ys, AM, cM⟩, ?_, ?_, ⟨Reads.of_own o1, ?_, fun y hy => Reads.of_own (o3 y hy)⟩⟩
  · unfold PV.prg; rw [hys]
  · unfold PV.val; rw [hlen]
  · have := Reads.of_own o2
    rw [← hlen] at this
    exact this
set_option maxRecDepth 100000 in
set_option maxHeartbeats 2000000 in
theorem program_any (p : PV) (v : Value) (hv : v = p.val) (w : World) (hp : PAt w w.heap.size p) (h1 : p.cls.length ≤ 65000) (h2 : p.ms.length ≤ 65000) (h3 : ∀ x ∈ p.ms, x.m.code.length ≤ 65000) :
    Calls Tryd.prog 26 #[v] w (CPost w p.prg) := by
  subst hv
  obtain ⟨N1, hN1⟩ : ∃ n, n = p.cls.length := ⟨_, rfl⟩
  obtain ⟨N2, hN2⟩ : ∃ n, n = p.ms.length := ⟨_, rfl⟩
  obtain ⟨W, hW⟩ : ∃ W, W = (w.alloc (.cells #[.slice p.A N1 p.c, .slice p.B N2 p.d] 25)).alloc (.cells #[.slice none 0 0, .slice none 0 0] 25) := ⟨_, rfl⟩
  have HB : Hid (Below w.heap.size w W) := Lib.hid (by rw [hW]; exact ((Below.refl _ _).alloc (Nat.le_refl _) _).alloc (by simp) _)
  have HK : Hid (Blk W w.heap.size 25 #[.slice p.A N1 p.c, .slice p.B N2 p.d]) := Lib.hid (by rw [hW]; exact (Blk.new _ _ _).alloc _)
  have HR : Hid (Blk W (w.heap.size + 1) 25 #[.slice none 0 0, .slice none 0 0]) := Lib.hid (by
    rw [hW]
    have := Blk.new (w.alloc (.cells #[.slice p.A N1 p.c, .slice p.B N2 p.d] 25)) 25 #[.slice none 0 0, .slice none 0 0]
    simpa using this)
  have HCA : Hid (∀ X, Below w.heap.size w X → Calls Tryd.prog 57 #[.slice p.A N1 p.c] X (RowPost 65 1 X N1 (p.cls.map strV))) := Lib.hid (fun X hX => classes_any _ _ _ _ X (by rw [hN1]; exact (hp.cls.below hX).more hX.size) hN1.symm (by omega))
  have HMA : Hid (∀ X, Below w.heap.size w X → Calls Tryd.prog 58 #[.slice p.B N2 p.d] X (MsPost X p.ms N2)) := Lib.hid (fun X hX => methods_any _ _ _ _ X (by rw [hN2]; exact (hp.ms.below hX).more hX.size) (fun x hx => ((hp.code x hx).below hX).more hX.size) hN2.symm (by omega) h3)
  have HN : Hid (N1 = p.cls.length ∧ N2 = p.ms.length) := Lib.hid ⟨hN1, hN2⟩
  have HD : Hid (Below W.heap.size W W.drew) := Lib.hid (Below.refl _ _).drew
  obtain ⟨gm, hgm⟩ : ∃ g, g = w.heap.size := ⟨_, rfl⟩
  obtain ⟨gr, hgr⟩ : ∃ g, g = w.heap.size + 1 := ⟨_, rfl⟩
  have HG : Hid (w.heap.size ≤ gr) := Lib.hid (by omega)
  have hne : gm ≠ gr := by omega
  unfold PV.val
  rw [← hN1, ← hN2]
  clear hp h1 h2 h3 hN1 hN2
  go_enter Tryd.func26, Tryd.ntmps26
  go_wp2_with fail
  rw [← hW]
  rw [← hgr] at HR ⊢
  rw [← hgm] at HK ⊢
  clear hW hgr hgm
  have x0 : W.cell? ⟨gm, 0, none⟩ = some (.slice p.A N1 p.c) := HK.out.cell 0
  have x1 : W.cell? ⟨gm, 1, none⟩ = some (.slice p.B N2 p.d) := HK.out.cell 1
  have gml := HK.out.lt
  go_region_held3 (fun w' => w'.cell? ⟨gm, 0, none⟩ = some (.slice p.A N1 p.c) ∧ w'.cell? ⟨gm, 1, none⟩ = some (.slice p.B N2 p.d)) (first | go_keep | (have HZ := HSM.out; exact HZ) | (have HZ := HSC.out; exact HZ) | (have HZ := HTM.out; exact ⟨(HZ _ _).cell 0, (HZ _ _).cell 1⟩) | (have HZ := HTC.out; exact ⟨(HZ _ _).cell 0, (HZ _ _).cell 1⟩)) (first
    | (go_at_call 57; refine (HCA.out _ (by first | (have HZ := HBM.out; exact HB.out.trans (HZ.mono HB.out.size)) | exact HB.out.drew)).mono ?_; rintro e wC ⟨AC, cC, rfl, hoC, hbC⟩; have HBC : Hid (Below W.heap.size W wC) := Lib.hid (by first | (have HZ := HBM.out; exact HZ.trans (hbC.mono HZ.size)) | exact HD.out.trans (hbC.mono HD.out.size)); have HOC : Hid (wC.ownsRow w.heap.size 65 1 (.slice AC N1 cC) N1 (p.cls.map strV)) := Lib.hid (own_base hoC (by first | (have HZ := HBM.out; exact Nat.le_trans HB.out.size HZ.size) | exact HB.out.size)); have HLC := Lib.hid hbC; clear hoC hbC; have HKC := Lib.hid (HK.out.below HBC.out HK.out.lt); have HRC := Lib.hid (HR.out.below HBC.out HR.out.lt); have HSC := Lib.hid (show _ ∧ _ from ⟨HKC.out.cell 0, HKC.out.cell 1⟩); have HTC := Lib.hid (show ∀ u0 u1, Blk ((wC.setCell ⟨gr, 0, none⟩ u0).setCell ⟨gr, 1, none⟩ u1) gm 25 #[.slice p.A N1 p.c, .slice p.B N2 p.d] from fun _ _ => (HKC.out.far (p := ⟨gr, 0, none⟩) hne _).far (p := ⟨gr, 1, none⟩) hne _); have C0 : wC.cell? ⟨gm, 0, none⟩ = some (.slice p.A N1 p.c) := HKC.out.cell 0; have C1 : wC.cell? ⟨gm, 1, none⟩ = some (.slice p.B N2 p.d) := HKC.out.cell 1; have D0 : wC.cell? ⟨gr, 0, none⟩ = some (.slice none 0 0) := HRC.out.cell 0; have D1 : wC.cell? ⟨gr, 1, none⟩ = some (.slice none 0 0) := HRC.out.cell 1; have F0 := HRC.out.frozen 0; have F1 := HRC.out.frozen 1; have G0 := HRC.out.lt)
    | (go_at_call 58; refine (HMA.out _ (by first | (have HZ := HBC.out; exact HB.out.trans (HZ.mono HB.out.size)) | exact HB.out.drew)).mono ?_; rintro e wM ⟨AM, cM, ys, rfl, hys, hoM, hcM, hbM⟩; have HBM : Hid (Below W.heap.size W wM) := Lib.hid (by first | (have HZ := HBC.out; exact HZ.trans (hbM.mono HZ.size)) | exact HD.out.trans (hbM.mono HD.out.size)); have hbs := (by first | (have HZ := HBC.out; exact Nat.le_trans HB.out.size HZ.size) | exact HB.out.size); have HOM : Hid (wM.ownsRow w.heap.size 54 4 (.slice AM N2 cM) N2 (ys.flatMap mvC)) := Lib.hid (own_base hoM hbs); have HCM : Hid (∀ y ∈ ys, codeOwn wM w.heap.size y) := Lib.hid (fun y hy => own_base (hcM y hy) hbs); have HYS := Lib.hid hys; have HLM := Lib.hid hbM; clear hoM hcM hbM hbs hys; have HKM := Lib.hid (HK.out.below HBM.out HK.out.lt); have HRM := Lib.hid (HR.out.below HBM.out HR.out.lt); have HSM := Lib.hid (show _ ∧ _ from ⟨HKM.out.cell 0, HKM.out.cell 1⟩); have HTM := Lib.hid (show ∀ u0 u1, Blk ((wM.setCell ⟨gr, 0, none⟩ u0).setCell ⟨gr, 1, none⟩ u1) gm 25 #[.slice p.A N1 p.c, .slice p.B N2 p.d] from fun _ _ => (HKM.out.far (p := ⟨gr, 0, none⟩) hne _).far (p := ⟨gr, 1, none⟩) hne _); have M0 : wM.cell? ⟨gm, 0, none⟩ = some (.slice p.A N1 p.c) := HKM.out.cell 0; have M1 : wM.cell? ⟨gm, 1, none⟩ = some (.slice p.B N2 p.d) := HKM.out.cell 1; have E0 : wM.cell? ⟨gr, 0, none⟩ = some (.slice none 0 0) := HRM.out.cell 0; have E1 : wM.cell? ⟨gr, 1, none⟩ = some (.slice none 0 0) := HRM.out.cell 1; have FM0 := HRM.out.frozen 0; have FM1 := HRM.out.frozen 1; have GM0 := HRM.out.lt))
  all_goals (
    go_wp2
    refine bodyPost_ret (v := .agg #[.slice AC N1 cC, .slice AM N2 cM]) ?_ rfl ?_
    · simp [results, Tryd.results26, go_sem, E0, E1]
    · first
        | exact copy_fin _ _ (HB.out.trans (HBM.out.mono HB.out.size)) HG.out HRM.out (own_below HOC.out HLM.out) HOM.out HCM.out HYS.out HN.out.1 HN.out.2
        | exact copy_fin _ _ (HB.out.trans (HBC.out.mono HB.out.size)) HG.out HRC.out HOC.out (own_below HOM.out HLC.out) (fun y hy => own_below (HCM.out y hy) HLC.out) HYS.out HN.out.1 HN.out.2)
end Go.Proofs.YtnojejplckhifaaDoor
