/- ScriptOne, the card: for every input the call returns true and each argument reads afterwards as it read before; no further conditions. -/
import Derived.Test.YtomabogjoampnaaDoorNew
import Derived.Test.YtomabogjoampnaaDoorDoor
import Derived.Test.YtomabogjoampnaaDoorCards
import Derived.Test.YtomabogjoampnaaDoorTie
namespace Go.Proofs.YtomabogjoampnaaDoor.scriptOne
open Go.RowKit Go.ChangeShapes Go.WideShapes Go.ChangeAt
set_option linter.unusedVariables false

theorem own : ownKnob Tryd.prog.godebug = none := by kernel_rfl
theorem kids : Kids Tryd.prog (· < Tryd.prog.types.size) := kids_rows (by kernel_rfl) (by kernel_rfl)
theorem full : ∀ t e, t < Tryd.prog.types.size → Tryd.prog.underlying t = some (.slice e) → 0 < Tryd.prog.cellsOf e := slices_full_of Tryd.prog (by kernel_rfl)

set_option maxRecDepth 100000 in
set_option maxHeartbeats 4000000 in
theorem walk (w : World) (ads : List Addr) (e1 : ads.length = lst14.length) (e2 : ads.Nodup) (e3 : ∀ (i : Nat) x a g, lst14[i]? = some x → ads[i]? = some a → Tryd.prog.globalNamed x.1 = some g → SentAt w g a) (a0 : Int) (w0 : (Lit.int .i64 a0).wf = true) (a1 : Int) (w1 : (Lit.int .i64 a1).wf = true) (a2 : Int) (w2 : (Lit.int .i64 a2).wf = true) (a3 : Int) (w3 : (Lit.int .i64 a3).wf = true) :
    Calls Tryd.prog 4 #[.int .i64 a0, .int .i64 a1, .int .i64 a2, .int .i64 a3] w fun e w' => e = .returned (.bool true) ∧ Below w.heap.size w w' := by
  have hE := errs_of e1 e2 e3
  obtain ⟨ad, had⟩ : ∃ ad : Nat → Addr, ad = fun i => ads.getD i ⟨0, 0, none⟩ := ⟨_, rfl⟩
  rw [← had] at hE
  have HE := Lib.hid hE
  clear e1 e2 e3 hE had w0 w1 w2 w3
  by_cases h1 : a1 < 1
  · have t1a : decide (a1 < 1) = true := by simp; omega
    have t3 : (a1 == 3) = false := by simp; omega
    have t5 : (a1 == 5) = false := by simp; omega
    have HM : Hid (mayF 0 0 [⟨a0, a1, a2, a3⟩] = some (0, 1)) := Lib.hid (by rw [one_may]; (repeat' split); all_goals first | rfl | (exfalso; omega))
    clear h1
    go_enter Tryd.func4, Tryd.ntmps4
    go_wp2_with fail
    refine (first_any _ _ _ _ HE.out.e3).mono ?_
    rintro e w1 ⟨rfl, hb1⟩
    have HB1 := Lib.hid hb1
    clear hb1
    go_wp2_with fail
    obtain ⟨W, hW⟩ : ∃ W, W = w1.alloc (Obj.cells #[.int .i64 a0, .int .i64 a1, .int .i64 a2, .int .i64 a3] 26) := ⟨_, rfl⟩
    rw [← hW]
    have HBW : Hid (Below w.heap.size w W) := Lib.hid (by rw [hW]; exact HB1.out.alloc HB1.out.size _)
    have HRW : Hid (Reads W W.heap.size 4 (some ⟨w1.heap.size, 0, none⟩) 1 (pks [⟨a0, a1, a2, a3⟩])) := Lib.hid (by rw [hW]; exact reads_newS _ _ _ _ _ _ rfl rfl)
    clear hW
    have HEW := Lib.hid (HE.out.below HBW.out).e3
    go_must (refine (mayL_in _ 1 1 [⟨a0, a1, a2, a3⟩] (ad 1) (ad 2) (ad 4) _ HRW.out rfl (by decide) HEW.out.hg HEW.out.hk HEW.out.hi HEW.out.hs).mono ?_)
    rintro e w2 ⟨hb2, he⟩
    rw [HM.out] at he
    have HB2 : Hid (Below w.heap.size w w2) := Lib.hid (HBW.out.trans (hb2.mono HBW.out.size))
    have HR2 : Hid (Reads w2 w2.heap.size 4 (some ⟨w1.heap.size, 0, none⟩) 1 (pks [⟨a0, a1, a2, a3⟩])) := Lib.hid ((HRW.out.below hb2).more hb2.size)
    have HE2 := Lib.hid (HE.out.below HB2.out).e3
    clear hb2
    obtain ⟨b2, rfl, _, hk2⟩ := he
    have HK2 := Lib.hid hk2
    clear hk2
    go_wp2_with fail
    go_must (refine (new_bad _ 1 1 [⟨a0, a1, a2, a3⟩] (ad 1) (ad 2) (ad 4) _ HR2.out rfl (by decide) HE2.out 0 1 HM.out).mono ?_)
    rintro e w3 ⟨hb3, b3, rfl, _, hk3⟩
    have HB3 : Hid (Below w.heap.size w w3) := Lib.hid (HB2.out.trans (hb3.mono HB2.out.size))
    have HK3 : Hid (Blk w3 b3 _ _ ∧ Blk w3 b2 _ _) := Lib.hid ⟨hk3, HK2.out.below hb3 HK2.out.lt⟩
    clear hb3 hk3
    go_wp2_with fail
    go_must (refine (placed_any 102 0 _ (by decide)).mono ?_)
    rintro e w4 ⟨b4, rfl, hge4, hk4, hb4⟩
    have HB4 : Hid (Below w.heap.size w w4) := Lib.hid (HB3.out.trans (hb4.mono HB3.out.size))
    have HK4 : Hid (Blk w4 b3 _ _ ∧ Blk w4 b2 _ _ ∧ Blk w4 b4 _ _) := Lib.hid ⟨HK3.out.1.below hb4 HK3.out.1.lt, HK3.out.2.below hb4 HK3.out.2.lt, hk4⟩
    clear hk4 hb4
    unfold fV
    go_wp2_with fail
    obtain ⟨V, hV⟩ : ∃ V, V = w4.alloc (Obj.cells #[.int .i64 102, .slice (some ⟨b4, 0, none⟩) 1 1] 32) := ⟨_, rfl⟩
    rw [← hV]
    have HBV : Hid (Below w.heap.size w V) := Lib.hid (by rw [hV]; exact HB4.out.alloc HB4.out.size _)
    have HKV : Hid (Blk V w4.heap.size 32 #[.int .i64 102, .slice (some ⟨b4, 0, none⟩) 1 1] ∧ Blk V b3 _ _ ∧ Blk V b2 _ _ ∧ Blk V b4 _ _) := Lib.hid (by rw [hV]; exact ⟨Blk.new _ _ _, HK4.out.1.alloc _, HK4.out.2.1.alloc _, HK4.out.2.2.alloc _⟩)
    clear hV
    go_must (refine (Same_any _ _ 102 102 [0] [0] _ 1 1 _ (by exact faulty_at ad 1 (by decide) b2 0 _ (HE.out.below HBV.out) HKV.out.2.2.1) (by exact reads_blk1 HKV.out.2.2.2) (by decide)).mono ?_)
    rintro e w6 ⟨rfl, hb6⟩
    have HB6 : Hid (Below w.heap.size w w6) := Lib.hid (HBV.out.trans (hb6.mono HBV.out.size))
    have HK6 : Hid (Blk w6 w4.heap.size 32 #[.int .i64 102, .slice (some ⟨b4, 0, none⟩) 1 1] ∧ Blk w6 b3 _ _ ∧ Blk w6 b4 _ _) := Lib.hid ⟨HKV.out.1.below hb6 HKV.out.1.lt, HKV.out.2.1.below hb6 HKV.out.2.1.lt, HKV.out.2.2.2.below hb6 HKV.out.2.2.2.lt⟩
    clear hb6
    rw [show (decide ((102 : Int) = 102) && sameI [0] [0]) = true by decide]
    have k0 : w6.cell? ⟨w4.heap.size, 0, none⟩ = some (.int .i64 102) := HK6.out.1.cell 0
    have k1 : w6.cell? ⟨w4.heap.size, 1, none⟩ = some (.slice (some ⟨b4, 0, none⟩) 1 1) := HK6.out.1.cell 1
    go_wp2_with fail
    go_must (refine (Same_any _ _ 102 102 [0] [0] _ 1 1 _ (by exact faulty_at ad 1 (by decide) b3 0 _ (HE.out.below HB6.out) HK6.out.2.1) (by exact reads_blk1 HK6.out.2.2) (by decide)).mono ?_)
    rintro e w7 ⟨rfl, hb7⟩
    rw [show (decide ((102 : Int) = 102) && sameI [0] [0]) = true by decide]
    go_wp2
    go_ret
    exact ⟨rfl, HB6.out.trans (hb7.mono HB6.out.size)⟩
  · have t1a : decide (a1 < 1) = false := by simp; omega
    by_cases h2 : 5 < a1
    · have t2a : decide (a1 > 5) = true := by simp; omega
      have t2b : decide (5 < a1) = true := by simp; omega
      have t3 : (a1 == 3) = false := by simp; omega
      have t5 : (a1 == 5) = false := by simp; omega
      have HM : Hid (mayF 0 0 [⟨a0, a1, a2, a3⟩] = some (0, 1)) := Lib.hid (by rw [one_may]; (repeat' split); all_goals first | rfl | (exfalso; omega))
      clear h1 h2
      go_enter Tryd.func4, Tryd.ntmps4
      go_wp2_with fail
      refine (first_any _ _ _ _ HE.out.e3).mono ?_
      rintro e w1 ⟨rfl, hb1⟩
      have HB1 := Lib.hid hb1
      clear hb1
      go_wp2_with fail
      obtain ⟨W, hW⟩ : ∃ W, W = w1.alloc (Obj.cells #[.int .i64 a0, .int .i64 a1, .int .i64 a2, .int .i64 a3] 26) := ⟨_, rfl⟩
      rw [← hW]
      have HBW : Hid (Below w.heap.size w W) := Lib.hid (by rw [hW]; exact HB1.out.alloc HB1.out.size _)
      have HRW : Hid (Reads W W.heap.size 4 (some ⟨w1.heap.size, 0, none⟩) 1 (pks [⟨a0, a1, a2, a3⟩])) := Lib.hid (by rw [hW]; exact reads_newS _ _ _ _ _ _ rfl rfl)
      clear hW
      have HEW := Lib.hid (HE.out.below HBW.out).e3
      go_must (refine (mayL_in _ 1 1 [⟨a0, a1, a2, a3⟩] (ad 1) (ad 2) (ad 4) _ HRW.out rfl (by decide) HEW.out.hg HEW.out.hk HEW.out.hi HEW.out.hs).mono ?_)
      rintro e w2 ⟨hb2, he⟩
      rw [HM.out] at he
      have HB2 : Hid (Below w.heap.size w w2) := Lib.hid (HBW.out.trans (hb2.mono HBW.out.size))
      have HR2 : Hid (Reads w2 w2.heap.size 4 (some ⟨w1.heap.size, 0, none⟩) 1 (pks [⟨a0, a1, a2, a3⟩])) := Lib.hid ((HRW.out.below hb2).more hb2.size)
      have HE2 := Lib.hid (HE.out.below HB2.out).e3
      clear hb2
      obtain ⟨b2, rfl, _, hk2⟩ := he
      have HK2 := Lib.hid hk2
      clear hk2
      go_wp2_with fail
      go_must (refine (new_bad _ 1 1 [⟨a0, a1, a2, a3⟩] (ad 1) (ad 2) (ad 4) _ HR2.out rfl (by decide) HE2.out 0 1 HM.out).mono ?_)
      rintro e w3 ⟨hb3, b3, rfl, _, hk3⟩
      have HB3 : Hid (Below w.heap.size w w3) := Lib.hid (HB2.out.trans (hb3.mono HB2.out.size))
      have HK3 : Hid (Blk w3 b3 _ _ ∧ Blk w3 b2 _ _) := Lib.hid ⟨hk3, HK2.out.below hb3 HK2.out.lt⟩
      clear hb3 hk3
      go_wp2_with fail
      go_must (refine (placed_any 102 0 _ (by decide)).mono ?_)
      rintro e w4 ⟨b4, rfl, hge4, hk4, hb4⟩
      have HB4 : Hid (Below w.heap.size w w4) := Lib.hid (HB3.out.trans (hb4.mono HB3.out.size))
      have HK4 : Hid (Blk w4 b3 _ _ ∧ Blk w4 b2 _ _ ∧ Blk w4 b4 _ _) := Lib.hid ⟨HK3.out.1.below hb4 HK3.out.1.lt, HK3.out.2.below hb4 HK3.out.2.lt, hk4⟩
      clear hk4 hb4
      unfold fV
      go_wp2_with fail
      obtain ⟨V, hV⟩ : ∃ V, V = w4.alloc (Obj.cells #[.int .i64 102, .slice (some ⟨b4, 0, none⟩) 1 1] 32) := ⟨_, rfl⟩
      rw [← hV]
      have HBV : Hid (Below w.heap.size w V) := Lib.hid (by rw [hV]; exact HB4.out.alloc HB4.out.size _)
      have HKV : Hid (Blk V w4.heap.size 32 #[.int .i64 102, .slice (some ⟨b4, 0, none⟩) 1 1] ∧ Blk V b3 _ _ ∧ Blk V b2 _ _ ∧ Blk V b4 _ _) := Lib.hid (by rw [hV]; exact ⟨Blk.new _ _ _, HK4.out.1.alloc _, HK4.out.2.1.alloc _, HK4.out.2.2.alloc _⟩)
      clear hV
      go_must (refine (Same_any _ _ 102 102 [0] [0] _ 1 1 _ (by exact faulty_at ad 1 (by decide) b2 0 _ (HE.out.below HBV.out) HKV.out.2.2.1) (by exact reads_blk1 HKV.out.2.2.2) (by decide)).mono ?_)
      rintro e w6 ⟨rfl, hb6⟩
      have HB6 : Hid (Below w.heap.size w w6) := Lib.hid (HBV.out.trans (hb6.mono HBV.out.size))
      have HK6 : Hid (Blk w6 w4.heap.size 32 #[.int .i64 102, .slice (some ⟨b4, 0, none⟩) 1 1] ∧ Blk w6 b3 _ _ ∧ Blk w6 b4 _ _) := Lib.hid ⟨HKV.out.1.below hb6 HKV.out.1.lt, HKV.out.2.1.below hb6 HKV.out.2.1.lt, HKV.out.2.2.2.below hb6 HKV.out.2.2.2.lt⟩
      clear hb6
      rw [show (decide ((102 : Int) = 102) && sameI [0] [0]) = true by decide]
      have k0 : w6.cell? ⟨w4.heap.size, 0, none⟩ = some (.int .i64 102) := HK6.out.1.cell 0
      have k1 : w6.cell? ⟨w4.heap.size, 1, none⟩ = some (.slice (some ⟨b4, 0, none⟩) 1 1) := HK6.out.1.cell 1
      go_wp2_with fail
      go_must (refine (Same_any _ _ 102 102 [0] [0] _ 1 1 _ (by exact faulty_at ad 1 (by decide) b3 0 _ (HE.out.below HB6.out) HK6.out.2.1) (by exact reads_blk1 HK6.out.2.2) (by decide)).mono ?_)
      rintro e w7 ⟨rfl, hb7⟩
      rw [show (decide ((102 : Int) = 102) && sameI [0] [0]) = true by decide]
      go_wp2
      go_ret
      exact ⟨rfl, HB6.out.trans (hb7.mono HB6.out.size)⟩
    · have t2a : decide (a1 > 5) = false := by simp; omega
      have t2b : decide (5 < a1) = false := by simp; omega
      by_cases h3 : a1 = 3
      · have t3a : (a1 == 3) = true := by simp; omega
        have t3b : (a1 != 3) = false := by simp; omega
        by_cases h4 : a0 < 0
        · have t4a : decide (a0 < 0) = true := by simp; omega
          have HM : Hid (mayF 0 0 [⟨a0, a1, a2, a3⟩] = some (0, 2)) := Lib.hid (by rw [one_may]; (repeat' split); all_goals first | rfl | (exfalso; omega))
          clear h1 h2 h3 h4
          go_enter Tryd.func4, Tryd.ntmps4
          go_wp2_with fail
          refine (first_any _ _ _ _ HE.out.e3).mono ?_
          rintro e w1 ⟨rfl, hb1⟩
          have HB1 := Lib.hid hb1
          clear hb1
          go_wp2_with fail
          obtain ⟨W, hW⟩ : ∃ W, W = w1.alloc (Obj.cells #[.int .i64 a0, .int .i64 a1, .int .i64 a2, .int .i64 a3] 26) := ⟨_, rfl⟩
          rw [← hW]
          have HBW : Hid (Below w.heap.size w W) := Lib.hid (by rw [hW]; exact HB1.out.alloc HB1.out.size _)
          have HRW : Hid (Reads W W.heap.size 4 (some ⟨w1.heap.size, 0, none⟩) 1 (pks [⟨a0, a1, a2, a3⟩])) := Lib.hid (by rw [hW]; exact reads_newS _ _ _ _ _ _ rfl rfl)
          clear hW
          have HEW := Lib.hid (HE.out.below HBW.out).e3
          go_must (refine (mayL_in _ 1 1 [⟨a0, a1, a2, a3⟩] (ad 1) (ad 2) (ad 4) _ HRW.out rfl (by decide) HEW.out.hg HEW.out.hk HEW.out.hi HEW.out.hs).mono ?_)
          rintro e w2 ⟨hb2, he⟩
          rw [HM.out] at he
          have HB2 : Hid (Below w.heap.size w w2) := Lib.hid (HBW.out.trans (hb2.mono HBW.out.size))
          have HR2 : Hid (Reads w2 w2.heap.size 4 (some ⟨w1.heap.size, 0, none⟩) 1 (pks [⟨a0, a1, a2, a3⟩])) := Lib.hid ((HRW.out.below hb2).more hb2.size)
          have HE2 := Lib.hid (HE.out.below HB2.out).e3
          clear hb2
          obtain ⟨b2, rfl, _, hk2⟩ := he
          have HK2 := Lib.hid hk2
          clear hk2
          go_wp2_with fail
          go_must (refine (new_bad _ 1 1 [⟨a0, a1, a2, a3⟩] (ad 1) (ad 2) (ad 4) _ HR2.out rfl (by decide) HE2.out 0 2 HM.out).mono ?_)
          rintro e w3 ⟨hb3, b3, rfl, _, hk3⟩
          have HB3 : Hid (Below w.heap.size w w3) := Lib.hid (HB2.out.trans (hb3.mono HB2.out.size))
          have HK3 : Hid (Blk w3 b3 _ _ ∧ Blk w3 b2 _ _) := Lib.hid ⟨hk3, HK2.out.below hb3 HK2.out.lt⟩
          clear hb3 hk3
          go_wp2_with fail
          go_must (refine (placed_any 103 0 _ (by decide)).mono ?_)
          rintro e w4 ⟨b4, rfl, hge4, hk4, hb4⟩
          have HB4 : Hid (Below w.heap.size w w4) := Lib.hid (HB3.out.trans (hb4.mono HB3.out.size))
          have HK4 : Hid (Blk w4 b3 _ _ ∧ Blk w4 b2 _ _ ∧ Blk w4 b4 _ _) := Lib.hid ⟨HK3.out.1.below hb4 HK3.out.1.lt, HK3.out.2.below hb4 HK3.out.2.lt, hk4⟩
          clear hk4 hb4
          unfold fV
          go_wp2_with fail
          obtain ⟨V, hV⟩ : ∃ V, V = w4.alloc (Obj.cells #[.int .i64 103, .slice (some ⟨b4, 0, none⟩) 1 1] 32) := ⟨_, rfl⟩
          rw [← hV]
          have HBV : Hid (Below w.heap.size w V) := Lib.hid (by rw [hV]; exact HB4.out.alloc HB4.out.size _)
          have HKV : Hid (Blk V w4.heap.size 32 #[.int .i64 103, .slice (some ⟨b4, 0, none⟩) 1 1] ∧ Blk V b3 _ _ ∧ Blk V b2 _ _ ∧ Blk V b4 _ _) := Lib.hid (by rw [hV]; exact ⟨Blk.new _ _ _, HK4.out.1.alloc _, HK4.out.2.1.alloc _, HK4.out.2.2.alloc _⟩)
          clear hV
          go_must (refine (Same_any _ _ 103 103 [0] [0] _ 1 1 _ (by exact faulty_at ad 2 (by decide) b2 0 _ (HE.out.below HBV.out) HKV.out.2.2.1) (by exact reads_blk1 HKV.out.2.2.2) (by decide)).mono ?_)
          rintro e w6 ⟨rfl, hb6⟩
          have HB6 : Hid (Below w.heap.size w w6) := Lib.hid (HBV.out.trans (hb6.mono HBV.out.size))
          have HK6 : Hid (Blk w6 w4.heap.size 32 #[.int .i64 103, .slice (some ⟨b4, 0, none⟩) 1 1] ∧ Blk w6 b3 _ _ ∧ Blk w6 b4 _ _) := Lib.hid ⟨HKV.out.1.below hb6 HKV.out.1.lt, HKV.out.2.1.below hb6 HKV.out.2.1.lt, HKV.out.2.2.2.below hb6 HKV.out.2.2.2.lt⟩
          clear hb6
          rw [show (decide ((103 : Int) = 103) && sameI [0] [0]) = true by decide]
          have k0 : w6.cell? ⟨w4.heap.size, 0, none⟩ = some (.int .i64 103) := HK6.out.1.cell 0
          have k1 : w6.cell? ⟨w4.heap.size, 1, none⟩ = some (.slice (some ⟨b4, 0, none⟩) 1 1) := HK6.out.1.cell 1
          go_wp2_with fail
          go_must (refine (Same_any _ _ 103 103 [0] [0] _ 1 1 _ (by exact faulty_at ad 2 (by decide) b3 0 _ (HE.out.below HB6.out) HK6.out.2.1) (by exact reads_blk1 HK6.out.2.2) (by decide)).mono ?_)
          rintro e w7 ⟨rfl, hb7⟩
          rw [show (decide ((103 : Int) = 103) && sameI [0] [0]) = true by decide]
          go_wp2
          go_ret
          exact ⟨rfl, HB6.out.trans (hb7.mono HB6.out.size)⟩
        · have t4a : decide (a0 < 0) = false := by simp; omega
          by_cases h5 : 1048576 < a0
          · have t5a : decide (a0 > 1048576) = true := by simp; omega
            have t5b : decide (1048576 < a0) = true := by simp; omega
            have HM : Hid (mayF 0 0 [⟨a0, a1, a2, a3⟩] = some (0, 2)) := Lib.hid (by rw [one_may]; (repeat' split); all_goals first | rfl | (exfalso; omega))
            clear h1 h2 h3 h4 h5
            go_enter Tryd.func4, Tryd.ntmps4
            go_wp2_with fail
            refine (first_any _ _ _ _ HE.out.e3).mono ?_
            rintro e w1 ⟨rfl, hb1⟩
            have HB1 := Lib.hid hb1
            clear hb1
            go_wp2_with fail
            obtain ⟨W, hW⟩ : ∃ W, W = w1.alloc (Obj.cells #[.int .i64 a0, .int .i64 a1, .int .i64 a2, .int .i64 a3] 26) := ⟨_, rfl⟩
            rw [← hW]
            have HBW : Hid (Below w.heap.size w W) := Lib.hid (by rw [hW]; exact HB1.out.alloc HB1.out.size _)
            have HRW : Hid (Reads W W.heap.size 4 (some ⟨w1.heap.size, 0, none⟩) 1 (pks [⟨a0, a1, a2, a3⟩])) := Lib.hid (by rw [hW]; exact reads_newS _ _ _ _ _ _ rfl rfl)
            clear hW
            have HEW := Lib.hid (HE.out.below HBW.out).e3
            go_must (refine (mayL_in _ 1 1 [⟨a0, a1, a2, a3⟩] (ad 1) (ad 2) (ad 4) _ HRW.out rfl (by decide) HEW.out.hg HEW.out.hk HEW.out.hi HEW.out.hs).mono ?_)
            rintro e w2 ⟨hb2, he⟩
            rw [HM.out] at he
            have HB2 : Hid (Below w.heap.size w w2) := Lib.hid (HBW.out.trans (hb2.mono HBW.out.size))
            have HR2 : Hid (Reads w2 w2.heap.size 4 (some ⟨w1.heap.size, 0, none⟩) 1 (pks [⟨a0, a1, a2, a3⟩])) := Lib.hid ((HRW.out.below hb2).more hb2.size)
            have HE2 := Lib.hid (HE.out.below HB2.out).e3
            clear hb2
            obtain ⟨b2, rfl, _, hk2⟩ := he
            have HK2 := Lib.hid hk2
            clear hk2
            go_wp2_with fail
            go_must (refine (new_bad _ 1 1 [⟨a0, a1, a2, a3⟩] (ad 1) (ad 2) (ad 4) _ HR2.out rfl (by decide) HE2.out 0 2 HM.out).mono ?_)
            rintro e w3 ⟨hb3, b3, rfl, _, hk3⟩
            have HB3 : Hid (Below w.heap.size w w3) := Lib.hid (HB2.out.trans (hb3.mono HB2.out.size))
            have HK3 : Hid (Blk w3 b3 _ _ ∧ Blk w3 b2 _ _) := Lib.hid ⟨hk3, HK2.out.below hb3 HK2.out.lt⟩
            clear hb3 hk3
            go_wp2_with fail
            go_must (refine (placed_any 103 0 _ (by decide)).mono ?_)
            rintro e w4 ⟨b4, rfl, hge4, hk4, hb4⟩
            have HB4 : Hid (Below w.heap.size w w4) := Lib.hid (HB3.out.trans (hb4.mono HB3.out.size))
            have HK4 : Hid (Blk w4 b3 _ _ ∧ Blk w4 b2 _ _ ∧ Blk w4 b4 _ _) := Lib.hid ⟨HK3.out.1.below hb4 HK3.out.1.lt, HK3.out.2.below hb4 HK3.out.2.lt, hk4⟩
            clear hk4 hb4
            unfold fV
            go_wp2_with fail
            obtain ⟨V, hV⟩ : ∃ V, V = w4.alloc (Obj.cells #[.int .i64 103, .slice (some ⟨b4, 0, none⟩) 1 1] 32) := ⟨_, rfl⟩
            rw [← hV]
            have HBV : Hid (Below w.heap.size w V) := Lib.hid (by rw [hV]; exact HB4.out.alloc HB4.out.size _)
            have HKV : Hid (Blk V w4.heap.size 32 #[.int .i64 103, .slice (some ⟨b4, 0, none⟩) 1 1] ∧ Blk V b3 _ _ ∧ Blk V b2 _ _ ∧ Blk V b4 _ _) := Lib.hid (by rw [hV]; exact ⟨Blk.new _ _ _, HK4.out.1.alloc _, HK4.out.2.1.alloc _, HK4.out.2.2.alloc _⟩)
            clear hV
            go_must (refine (Same_any _ _ 103 103 [0] [0] _ 1 1 _ (by exact faulty_at ad 2 (by decide) b2 0 _ (HE.out.below HBV.out) HKV.out.2.2.1) (by exact reads_blk1 HKV.out.2.2.2) (by decide)).mono ?_)
            rintro e w6 ⟨rfl, hb6⟩
            have HB6 : Hid (Below w.heap.size w w6) := Lib.hid (HBV.out.trans (hb6.mono HBV.out.size))
            have HK6 : Hid (Blk w6 w4.heap.size 32 #[.int .i64 103, .slice (some ⟨b4, 0, none⟩) 1 1] ∧ Blk w6 b3 _ _ ∧ Blk w6 b4 _ _) := Lib.hid ⟨HKV.out.1.below hb6 HKV.out.1.lt, HKV.out.2.1.below hb6 HKV.out.2.1.lt, HKV.out.2.2.2.below hb6 HKV.out.2.2.2.lt⟩
            clear hb6
            rw [show (decide ((103 : Int) = 103) && sameI [0] [0]) = true by decide]
            have k0 : w6.cell? ⟨w4.heap.size, 0, none⟩ = some (.int .i64 103) := HK6.out.1.cell 0
            have k1 : w6.cell? ⟨w4.heap.size, 1, none⟩ = some (.slice (some ⟨b4, 0, none⟩) 1 1) := HK6.out.1.cell 1
            go_wp2_with fail
            go_must (refine (Same_any _ _ 103 103 [0] [0] _ 1 1 _ (by exact faulty_at ad 2 (by decide) b3 0 _ (HE.out.below HB6.out) HK6.out.2.1) (by exact reads_blk1 HK6.out.2.2) (by decide)).mono ?_)
            rintro e w7 ⟨rfl, hb7⟩
            rw [show (decide ((103 : Int) = 103) && sameI [0] [0]) = true by decide]
            go_wp2
            go_ret
            exact ⟨rfl, HB6.out.trans (hb7.mono HB6.out.size)⟩
          · have t5a : decide (a0 > 1048576) = false := by simp; omega
            have t5b : decide (1048576 < a0) = false := by simp; omega
            by_cases h6 : a2 < 0
            · have t6a : decide (a2 < 0) = true := by simp; omega
              have HM : Hid (mayF 0 0 [⟨a0, a1, a2, a3⟩] = some (0, 2)) := Lib.hid (by rw [one_may]; (repeat' split); all_goals first | rfl | (exfalso; omega))
              clear h1 h2 h3 h4 h5 h6
              go_enter Tryd.func4, Tryd.ntmps4
              go_wp2_with fail
              refine (first_any _ _ _ _ HE.out.e3).mono ?_
              rintro e w1 ⟨rfl, hb1⟩
              have HB1 := Lib.hid hb1
              clear hb1
              go_wp2_with fail
              obtain ⟨W, hW⟩ : ∃ W, W = w1.alloc (Obj.cells #[.int .i64 a0, .int .i64 a1, .int .i64 a2, .int .i64 a3] 26) := ⟨_, rfl⟩
              rw [← hW]
              have HBW : Hid (Below w.heap.size w W) := Lib.hid (by rw [hW]; exact HB1.out.alloc HB1.out.size _)
              have HRW : Hid (Reads W W.heap.size 4 (some ⟨w1.heap.size, 0, none⟩) 1 (pks [⟨a0, a1, a2, a3⟩])) := Lib.hid (by rw [hW]; exact reads_newS _ _ _ _ _ _ rfl rfl)
              clear hW
              have HEW := Lib.hid (HE.out.below HBW.out).e3
              go_must (refine (mayL_in _ 1 1 [⟨a0, a1, a2, a3⟩] (ad 1) (ad 2) (ad 4) _ HRW.out rfl (by decide) HEW.out.hg HEW.out.hk HEW.out.hi HEW.out.hs).mono ?_)
              rintro e w2 ⟨hb2, he⟩
              rw [HM.out] at he
              have HB2 : Hid (Below w.heap.size w w2) := Lib.hid (HBW.out.trans (hb2.mono HBW.out.size))
              have HR2 : Hid (Reads w2 w2.heap.size 4 (some ⟨w1.heap.size, 0, none⟩) 1 (pks [⟨a0, a1, a2, a3⟩])) := Lib.hid ((HRW.out.below hb2).more hb2.size)
              have HE2 := Lib.hid (HE.out.below HB2.out).e3
              clear hb2
              obtain ⟨b2, rfl, _, hk2⟩ := he
              have HK2 := Lib.hid hk2
              clear hk2
              go_wp2_with fail
              go_must (refine (new_bad _ 1 1 [⟨a0, a1, a2, a3⟩] (ad 1) (ad 2) (ad 4) _ HR2.out rfl (by decide) HE2.out 0 2 HM.out).mono ?_)
              rintro e w3 ⟨hb3, b3, rfl, _, hk3⟩
              have HB3 : Hid (Below w.heap.size w w3) := Lib.hid (HB2.out.trans (hb3.mono HB2.out.size))
              have HK3 : Hid (Blk w3 b3 _ _ ∧ Blk w3 b2 _ _) := Lib.hid ⟨hk3, HK2.out.below hb3 HK2.out.lt⟩
              clear hb3 hk3
              go_wp2_with fail
              go_must (refine (placed_any 103 0 _ (by decide)).mono ?_)
              rintro e w4 ⟨b4, rfl, hge4, hk4, hb4⟩
              have HB4 : Hid (Below w.heap.size w w4) := Lib.hid (HB3.out.trans (hb4.mono HB3.out.size))
              have HK4 : Hid (Blk w4 b3 _ _ ∧ Blk w4 b2 _ _ ∧ Blk w4 b4 _ _) := Lib.hid ⟨HK3.out.1.below hb4 HK3.out.1.lt, HK3.out.2.below hb4 HK3.out.2.lt, hk4⟩
              clear hk4 hb4
              unfold fV
              go_wp2_with fail
              obtain ⟨V, hV⟩ : ∃ V, V = w4.alloc (Obj.cells #[.int .i64 103, .slice (some ⟨b4, 0, none⟩) 1 1] 32) := ⟨_, rfl⟩
              rw [← hV]
              have HBV : Hid (Below w.heap.size w V) := Lib.hid (by rw [hV]; exact HB4.out.alloc HB4.out.size _)
              have HKV : Hid (Blk V w4.heap.size 32 #[.int .i64 103, .slice (some ⟨b4, 0, none⟩) 1 1] ∧ Blk V b3 _ _ ∧ Blk V b2 _ _ ∧ Blk V b4 _ _) := Lib.hid (by rw [hV]; exact ⟨Blk.new _ _ _, HK4.out.1.alloc _, HK4.out.2.1.alloc _, HK4.out.2.2.alloc _⟩)
              clear hV
              go_must (refine (Same_any _ _ 103 103 [0] [0] _ 1 1 _ (by exact faulty_at ad 2 (by decide) b2 0 _ (HE.out.below HBV.out) HKV.out.2.2.1) (by exact reads_blk1 HKV.out.2.2.2) (by decide)).mono ?_)
              rintro e w6 ⟨rfl, hb6⟩
              have HB6 : Hid (Below w.heap.size w w6) := Lib.hid (HBV.out.trans (hb6.mono HBV.out.size))
              have HK6 : Hid (Blk w6 w4.heap.size 32 #[.int .i64 103, .slice (some ⟨b4, 0, none⟩) 1 1] ∧ Blk w6 b3 _ _ ∧ Blk w6 b4 _ _) := Lib.hid ⟨HKV.out.1.below hb6 HKV.out.1.lt, HKV.out.2.1.below hb6 HKV.out.2.1.lt, HKV.out.2.2.2.below hb6 HKV.out.2.2.2.lt⟩
              clear hb6
              rw [show (decide ((103 : Int) = 103) && sameI [0] [0]) = true by decide]
              have k0 : w6.cell? ⟨w4.heap.size, 0, none⟩ = some (.int .i64 103) := HK6.out.1.cell 0
              have k1 : w6.cell? ⟨w4.heap.size, 1, none⟩ = some (.slice (some ⟨b4, 0, none⟩) 1 1) := HK6.out.1.cell 1
              go_wp2_with fail
              go_must (refine (Same_any _ _ 103 103 [0] [0] _ 1 1 _ (by exact faulty_at ad 2 (by decide) b3 0 _ (HE.out.below HB6.out) HK6.out.2.1) (by exact reads_blk1 HK6.out.2.2) (by decide)).mono ?_)
              rintro e w7 ⟨rfl, hb7⟩
              rw [show (decide ((103 : Int) = 103) && sameI [0] [0]) = true by decide]
              go_wp2
              go_ret
              exact ⟨rfl, HB6.out.trans (hb7.mono HB6.out.size)⟩
            · have t6a : decide (a2 < 0) = false := by simp; omega
              by_cases h7 : 11 < a2
              · have t7a : decide (a2 > 11) = true := by simp; omega
                have t7b : decide (11 < a2) = true := by simp; omega
                have HM : Hid (mayF 0 0 [⟨a0, a1, a2, a3⟩] = some (0, 2)) := Lib.hid (by rw [one_may]; (repeat' split); all_goals first | rfl | (exfalso; omega))
                clear h1 h2 h3 h4 h5 h6 h7
                go_enter Tryd.func4, Tryd.ntmps4
                go_wp2_with fail
                refine (first_any _ _ _ _ HE.out.e3).mono ?_
                rintro e w1 ⟨rfl, hb1⟩
                have HB1 := Lib.hid hb1
                clear hb1
                go_wp2_with fail
                obtain ⟨W, hW⟩ : ∃ W, W = w1.alloc (Obj.cells #[.int .i64 a0, .int .i64 a1, .int .i64 a2, .int .i64 a3] 26) := ⟨_, rfl⟩
                rw [← hW]
                have HBW : Hid (Below w.heap.size w W) := Lib.hid (by rw [hW]; exact HB1.out.alloc HB1.out.size _)
                have HRW : Hid (Reads W W.heap.size 4 (some ⟨w1.heap.size, 0, none⟩) 1 (pks [⟨a0, a1, a2, a3⟩])) := Lib.hid (by rw [hW]; exact reads_newS _ _ _ _ _ _ rfl rfl)
                clear hW
                have HEW := Lib.hid (HE.out.below HBW.out).e3
                go_must (refine (mayL_in _ 1 1 [⟨a0, a1, a2, a3⟩] (ad 1) (ad 2) (ad 4) _ HRW.out rfl (by decide) HEW.out.hg HEW.out.hk HEW.out.hi HEW.out.hs).mono ?_)
                rintro e w2 ⟨hb2, he⟩
                rw [HM.out] at he
                have HB2 : Hid (Below w.heap.size w w2) := Lib.hid (HBW.out.trans (hb2.mono HBW.out.size))
                have HR2 : Hid (Reads w2 w2.heap.size 4 (some ⟨w1.heap.size, 0, none⟩) 1 (pks [⟨a0, a1, a2, a3⟩])) := Lib.hid ((HRW.out.below hb2).more hb2.size)
                have HE2 := Lib.hid (HE.out.below HB2.out).e3
                clear hb2
                obtain ⟨b2, rfl, _, hk2⟩ := he
                have HK2 := Lib.hid hk2
                clear hk2
                go_wp2_with fail
                go_must (refine (new_bad _ 1 1 [⟨a0, a1, a2, a3⟩] (ad 1) (ad 2) (ad 4) _ HR2.out rfl (by decide) HE2.out 0 2 HM.out).mono ?_)
                rintro e w3 ⟨hb3, b3, rfl, _, hk3⟩
                have HB3 : Hid (Below w.heap.size w w3) := Lib.hid (HB2.out.trans (hb3.mono HB2.out.size))
                have HK3 : Hid (Blk w3 b3 _ _ ∧ Blk w3 b2 _ _) := Lib.hid ⟨hk3, HK2.out.below hb3 HK2.out.lt⟩
                clear hb3 hk3
                go_wp2_with fail
                go_must (refine (placed_any 103 0 _ (by decide)).mono ?_)
                rintro e w4 ⟨b4, rfl, hge4, hk4, hb4⟩
                have HB4 : Hid (Below w.heap.size w w4) := Lib.hid (HB3.out.trans (hb4.mono HB3.out.size))
                have HK4 : Hid (Blk w4 b3 _ _ ∧ Blk w4 b2 _ _ ∧ Blk w4 b4 _ _) := Lib.hid ⟨HK3.out.1.below hb4 HK3.out.1.lt, HK3.out.2.below hb4 HK3.out.2.lt, hk4⟩
                clear hk4 hb4
                unfold fV
                go_wp2_with fail
                obtain ⟨V, hV⟩ : ∃ V, V = w4.alloc (Obj.cells #[.int .i64 103, .slice (some ⟨b4, 0, none⟩) 1 1] 32) := ⟨_, rfl⟩
                rw [← hV]
                have HBV : Hid (Below w.heap.size w V) := Lib.hid (by rw [hV]; exact HB4.out.alloc HB4.out.size _)
                have HKV : Hid (Blk V w4.heap.size 32 #[.int .i64 103, .slice (some ⟨b4, 0, none⟩) 1 1] ∧ Blk V b3 _ _ ∧ Blk V b2 _ _ ∧ Blk V b4 _ _) := Lib.hid (by rw [hV]; exact ⟨Blk.new _ _ _, HK4.out.1.alloc _, HK4.out.2.1.alloc _, HK4.out.2.2.alloc _⟩)
                clear hV
                go_must (refine (Same_any _ _ 103 103 [0] [0] _ 1 1 _ (by exact faulty_at ad 2 (by decide) b2 0 _ (HE.out.below HBV.out) HKV.out.2.2.1) (by exact reads_blk1 HKV.out.2.2.2) (by decide)).mono ?_)
                rintro e w6 ⟨rfl, hb6⟩
                have HB6 : Hid (Below w.heap.size w w6) := Lib.hid (HBV.out.trans (hb6.mono HBV.out.size))
                have HK6 : Hid (Blk w6 w4.heap.size 32 #[.int .i64 103, .slice (some ⟨b4, 0, none⟩) 1 1] ∧ Blk w6 b3 _ _ ∧ Blk w6 b4 _ _) := Lib.hid ⟨HKV.out.1.below hb6 HKV.out.1.lt, HKV.out.2.1.below hb6 HKV.out.2.1.lt, HKV.out.2.2.2.below hb6 HKV.out.2.2.2.lt⟩
                clear hb6
                rw [show (decide ((103 : Int) = 103) && sameI [0] [0]) = true by decide]
                have k0 : w6.cell? ⟨w4.heap.size, 0, none⟩ = some (.int .i64 103) := HK6.out.1.cell 0
                have k1 : w6.cell? ⟨w4.heap.size, 1, none⟩ = some (.slice (some ⟨b4, 0, none⟩) 1 1) := HK6.out.1.cell 1
                go_wp2_with fail
                go_must (refine (Same_any _ _ 103 103 [0] [0] _ 1 1 _ (by exact faulty_at ad 2 (by decide) b3 0 _ (HE.out.below HB6.out) HK6.out.2.1) (by exact reads_blk1 HK6.out.2.2) (by decide)).mono ?_)
                rintro e w7 ⟨rfl, hb7⟩
                rw [show (decide ((103 : Int) = 103) && sameI [0] [0]) = true by decide]
                go_wp2
                go_ret
                exact ⟨rfl, HB6.out.trans (hb7.mono HB6.out.size)⟩
              · have t7a : decide (a2 > 11) = false := by simp; omega
                have t7b : decide (11 < a2) = false := by simp; omega
                by_cases h8 : a3 < 0
                · have t8a : decide (a3 < 0) = true := by simp; omega
                  have HM : Hid (mayF 0 0 [⟨a0, a1, a2, a3⟩] = some (0, 2)) := Lib.hid (by rw [one_may]; (repeat' split); all_goals first | rfl | (exfalso; omega))
                  clear h1 h2 h3 h4 h5 h6 h7 h8
                  go_enter Tryd.func4, Tryd.ntmps4
                  go_wp2_with fail
                  refine (first_any _ _ _ _ HE.out.e3).mono ?_
                  rintro e w1 ⟨rfl, hb1⟩
                  have HB1 := Lib.hid hb1
                  clear hb1
                  go_wp2_with fail
                  obtain ⟨W, hW⟩ : ∃ W, W = w1.alloc (Obj.cells #[.int .i64 a0, .int .i64 a1, .int .i64 a2, .int .i64 a3] 26) := ⟨_, rfl⟩
                  rw [← hW]
                  have HBW : Hid (Below w.heap.size w W) := Lib.hid (by rw [hW]; exact HB1.out.alloc HB1.out.size _)
                  have HRW : Hid (Reads W W.heap.size 4 (some ⟨w1.heap.size, 0, none⟩) 1 (pks [⟨a0, a1, a2, a3⟩])) := Lib.hid (by rw [hW]; exact reads_newS _ _ _ _ _ _ rfl rfl)
                  clear hW
                  have HEW := Lib.hid (HE.out.below HBW.out).e3
                  go_must (refine (mayL_in _ 1 1 [⟨a0, a1, a2, a3⟩] (ad 1) (ad 2) (ad 4) _ HRW.out rfl (by decide) HEW.out.hg HEW.out.hk HEW.out.hi HEW.out.hs).mono ?_)
                  rintro e w2 ⟨hb2, he⟩
                  rw [HM.out] at he
                  have HB2 : Hid (Below w.heap.size w w2) := Lib.hid (HBW.out.trans (hb2.mono HBW.out.size))
                  have HR2 : Hid (Reads w2 w2.heap.size 4 (some ⟨w1.heap.size, 0, none⟩) 1 (pks [⟨a0, a1, a2, a3⟩])) := Lib.hid ((HRW.out.below hb2).more hb2.size)
                  have HE2 := Lib.hid (HE.out.below HB2.out).e3
                  clear hb2
                  obtain ⟨b2, rfl, _, hk2⟩ := he
                  have HK2 := Lib.hid hk2
                  clear hk2
                  go_wp2_with fail
                  go_must (refine (new_bad _ 1 1 [⟨a0, a1, a2, a3⟩] (ad 1) (ad 2) (ad 4) _ HR2.out rfl (by decide) HE2.out 0 2 HM.out).mono ?_)
                  rintro e w3 ⟨hb3, b3, rfl, _, hk3⟩
                  have HB3 : Hid (Below w.heap.size w w3) := Lib.hid (HB2.out.trans (hb3.mono HB2.out.size))
                  have HK3 : Hid (Blk w3 b3 _ _ ∧ Blk w3 b2 _ _) := Lib.hid ⟨hk3, HK2.out.below hb3 HK2.out.lt⟩
                  clear hb3 hk3
                  go_wp2_with fail
                  go_must (refine (placed_any 103 0 _ (by decide)).mono ?_)
                  rintro e w4 ⟨b4, rfl, hge4, hk4, hb4⟩
                  have HB4 : Hid (Below w.heap.size w w4) := Lib.hid (HB3.out.trans (hb4.mono HB3.out.size))
                  have HK4 : Hid (Blk w4 b3 _ _ ∧ Blk w4 b2 _ _ ∧ Blk w4 b4 _ _) := Lib.hid ⟨HK3.out.1.below hb4 HK3.out.1.lt, HK3.out.2.below hb4 HK3.out.2.lt, hk4⟩
                  clear hk4 hb4
                  unfold fV
                  go_wp2_with fail
                  obtain ⟨V, hV⟩ : ∃ V, V = w4.alloc (Obj.cells #[.int .i64 103, .slice (some ⟨b4, 0, none⟩) 1 1] 32) := ⟨_, rfl⟩
                  rw [← hV]
                  have HBV : Hid (Below w.heap.size w V) := Lib.hid (by rw [hV]; exact HB4.out.alloc HB4.out.size _)
                  have HKV : Hid (Blk V w4.heap.size 32 #[.int .i64 103, .slice (some ⟨b4, 0, none⟩) 1 1] ∧ Blk V b3 _ _ ∧ Blk V b2 _ _ ∧ Blk V b4 _ _) := Lib.hid (by rw [hV]; exact ⟨Blk.new _ _ _, HK4.out.1.alloc _, HK4.out.2.1.alloc _, HK4.out.2.2.alloc _⟩)
                  clear hV
                  go_must (refine (Same_any _ _ 103 103 [0] [0] _ 1 1 _ (by exact faulty_at ad 2 (by decide) b2 0 _ (HE.out.below HBV.out) HKV.out.2.2.1) (by exact reads_blk1 HKV.out.2.2.2) (by decide)).mono ?_)
                  rintro e w6 ⟨rfl, hb6⟩
                  have HB6 : Hid (Below w.heap.size w w6) := Lib.hid (HBV.out.trans (hb6.mono HBV.out.size))
                  have HK6 : Hid (Blk w6 w4.heap.size 32 #[.int .i64 103, .slice (some ⟨b4, 0, none⟩) 1 1] ∧ Blk w6 b3 _ _ ∧ Blk w6 b4 _ _) := Lib.hid ⟨HKV.out.1.below hb6 HKV.out.1.lt, HKV.out.2.1.below hb6 HKV.out.2.1.lt, HKV.out.2.2.2.below hb6 HKV.out.2.2.2.lt⟩
                  clear hb6
                  rw [show (decide ((103 : Int) = 103) && sameI [0] [0]) = true by decide]
                  have k0 : w6.cell? ⟨w4.heap.size, 0, none⟩ = some (.int .i64 103) := HK6.out.1.cell 0
                  have k1 : w6.cell? ⟨w4.heap.size, 1, none⟩ = some (.slice (some ⟨b4, 0, none⟩) 1 1) := HK6.out.1.cell 1
                  go_wp2_with fail
                  go_must (refine (Same_any _ _ 103 103 [0] [0] _ 1 1 _ (by exact faulty_at ad 2 (by decide) b3 0 _ (HE.out.below HB6.out) HK6.out.2.1) (by exact reads_blk1 HK6.out.2.2) (by decide)).mono ?_)
                  rintro e w7 ⟨rfl, hb7⟩
                  rw [show (decide ((103 : Int) = 103) && sameI [0] [0]) = true by decide]
                  go_wp2
                  go_ret
                  exact ⟨rfl, HB6.out.trans (hb7.mono HB6.out.size)⟩
                · have t8a : decide (a3 < 0) = false := by simp; omega
                  by_cases h9 : 2047 < a3
                  · have t9a : decide (a3 > 2047) = true := by simp; omega
                    have t9b : decide (2047 < a3) = true := by simp; omega
                    have HM : Hid (mayF 0 0 [⟨a0, a1, a2, a3⟩] = some (0, 2)) := Lib.hid (by rw [one_may]; (repeat' split); all_goals first | rfl | (exfalso; omega))
                    clear h1 h2 h3 h4 h5 h6 h7 h8 h9
                    go_enter Tryd.func4, Tryd.ntmps4
                    go_wp2_with fail
                    refine (first_any _ _ _ _ HE.out.e3).mono ?_
                    rintro e w1 ⟨rfl, hb1⟩
                    have HB1 := Lib.hid hb1
                    clear hb1
                    go_wp2_with fail
                    obtain ⟨W, hW⟩ : ∃ W, W = w1.alloc (Obj.cells #[.int .i64 a0, .int .i64 a1, .int .i64 a2, .int .i64 a3] 26) := ⟨_, rfl⟩
                    rw [← hW]
                    have HBW : Hid (Below w.heap.size w W) := Lib.hid (by rw [hW]; exact HB1.out.alloc HB1.out.size _)
                    have HRW : Hid (Reads W W.heap.size 4 (some ⟨w1.heap.size, 0, none⟩) 1 (pks [⟨a0, a1, a2, a3⟩])) := Lib.hid (by rw [hW]; exact reads_newS _ _ _ _ _ _ rfl rfl)
                    clear hW
                    have HEW := Lib.hid (HE.out.below HBW.out).e3
                    go_must (refine (mayL_in _ 1 1 [⟨a0, a1, a2, a3⟩] (ad 1) (ad 2) (ad 4) _ HRW.out rfl (by decide) HEW.out.hg HEW.out.hk HEW.out.hi HEW.out.hs).mono ?_)
                    rintro e w2 ⟨hb2, he⟩
                    rw [HM.out] at he
                    have HB2 : Hid (Below w.heap.size w w2) := Lib.hid (HBW.out.trans (hb2.mono HBW.out.size))
                    have HR2 : Hid (Reads w2 w2.heap.size 4 (some ⟨w1.heap.size, 0, none⟩) 1 (pks [⟨a0, a1, a2, a3⟩])) := Lib.hid ((HRW.out.below hb2).more hb2.size)
                    have HE2 := Lib.hid (HE.out.below HB2.out).e3
                    clear hb2
                    obtain ⟨b2, rfl, _, hk2⟩ := he
                    have HK2 := Lib.hid hk2
                    clear hk2
                    go_wp2_with fail
                    go_must (refine (new_bad _ 1 1 [⟨a0, a1, a2, a3⟩] (ad 1) (ad 2) (ad 4) _ HR2.out rfl (by decide) HE2.out 0 2 HM.out).mono ?_)
                    rintro e w3 ⟨hb3, b3, rfl, _, hk3⟩
                    have HB3 : Hid (Below w.heap.size w w3) := Lib.hid (HB2.out.trans (hb3.mono HB2.out.size))
                    have HK3 : Hid (Blk w3 b3 _ _ ∧ Blk w3 b2 _ _) := Lib.hid ⟨hk3, HK2.out.below hb3 HK2.out.lt⟩
                    clear hb3 hk3
                    go_wp2_with fail
                    go_must (refine (placed_any 103 0 _ (by decide)).mono ?_)
                    rintro e w4 ⟨b4, rfl, hge4, hk4, hb4⟩
                    have HB4 : Hid (Below w.heap.size w w4) := Lib.hid (HB3.out.trans (hb4.mono HB3.out.size))
                    have HK4 : Hid (Blk w4 b3 _ _ ∧ Blk w4 b2 _ _ ∧ Blk w4 b4 _ _) := Lib.hid ⟨HK3.out.1.below hb4 HK3.out.1.lt, HK3.out.2.below hb4 HK3.out.2.lt, hk4⟩
                    clear hk4 hb4
                    unfold fV
                    go_wp2_with fail
                    obtain ⟨V, hV⟩ : ∃ V, V = w4.alloc (Obj.cells #[.int .i64 103, .slice (some ⟨b4, 0, none⟩) 1 1] 32) := ⟨_, rfl⟩
                    rw [← hV]
                    have HBV : Hid (Below w.heap.size w V) := Lib.hid (by rw [hV]; exact HB4.out.alloc HB4.out.size _)
                    have HKV : Hid (Blk V w4.heap.size 32 #[.int .i64 103, .slice (some ⟨b4, 0, none⟩) 1 1] ∧ Blk V b3 _ _ ∧ Blk V b2 _ _ ∧ Blk V b4 _ _) := Lib.hid (by rw [hV]; exact ⟨Blk.new _ _ _, HK4.out.1.alloc _, HK4.out.2.1.alloc _, HK4.out.2.2.alloc _⟩)
                    clear hV
                    go_must (refine (Same_any _ _ 103 103 [0] [0] _ 1 1 _ (by exact faulty_at ad 2 (by decide) b2 0 _ (HE.out.below HBV.out) HKV.out.2.2.1) (by exact reads_blk1 HKV.out.2.2.2) (by decide)).mono ?_)
                    rintro e w6 ⟨rfl, hb6⟩
                    have HB6 : Hid (Below w.heap.size w w6) := Lib.hid (HBV.out.trans (hb6.mono HBV.out.size))
                    have HK6 : Hid (Blk w6 w4.heap.size 32 #[.int .i64 103, .slice (some ⟨b4, 0, none⟩) 1 1] ∧ Blk w6 b3 _ _ ∧ Blk w6 b4 _ _) := Lib.hid ⟨HKV.out.1.below hb6 HKV.out.1.lt, HKV.out.2.1.below hb6 HKV.out.2.1.lt, HKV.out.2.2.2.below hb6 HKV.out.2.2.2.lt⟩
                    clear hb6
                    rw [show (decide ((103 : Int) = 103) && sameI [0] [0]) = true by decide]
                    have k0 : w6.cell? ⟨w4.heap.size, 0, none⟩ = some (.int .i64 103) := HK6.out.1.cell 0
                    have k1 : w6.cell? ⟨w4.heap.size, 1, none⟩ = some (.slice (some ⟨b4, 0, none⟩) 1 1) := HK6.out.1.cell 1
                    go_wp2_with fail
                    go_must (refine (Same_any _ _ 103 103 [0] [0] _ 1 1 _ (by exact faulty_at ad 2 (by decide) b3 0 _ (HE.out.below HB6.out) HK6.out.2.1) (by exact reads_blk1 HK6.out.2.2) (by decide)).mono ?_)
                    rintro e w7 ⟨rfl, hb7⟩
                    rw [show (decide ((103 : Int) = 103) && sameI [0] [0]) = true by decide]
                    go_wp2
                    go_ret
                    exact ⟨rfl, HB6.out.trans (hb7.mono HB6.out.size)⟩
                  · have t9a : decide (a3 > 2047) = false := by simp; omega
                    have t9b : decide (2047 < a3) = false := by simp; omega
                    have HM : Hid (mayF 0 0 [⟨a0, a1, a2, a3⟩] = none) := Lib.hid (by rw [one_may]; (repeat' split); all_goals first | rfl | (exfalso; omega))
                    clear h1 h2 h3 h4 h5 h6 h7 h8 h9
                    go_enter Tryd.func4, Tryd.ntmps4
                    go_wp2_with fail
                    refine (first_any _ _ _ _ HE.out.e3).mono ?_
                    rintro e w1 ⟨rfl, hb1⟩
                    have HB1 := Lib.hid hb1
                    clear hb1
                    go_wp2_with fail
                    obtain ⟨W, hW⟩ : ∃ W, W = w1.alloc (Obj.cells #[.int .i64 a0, .int .i64 a1, .int .i64 a2, .int .i64 a3] 26) := ⟨_, rfl⟩
                    rw [← hW]
                    have HBW : Hid (Below w.heap.size w W) := Lib.hid (by rw [hW]; exact HB1.out.alloc HB1.out.size _)
                    have HRW : Hid (Reads W W.heap.size 4 (some ⟨w1.heap.size, 0, none⟩) 1 (pks [⟨a0, a1, a2, a3⟩])) := Lib.hid (by rw [hW]; exact reads_newS _ _ _ _ _ _ rfl rfl)
                    clear hW
                    have HEW := Lib.hid (HE.out.below HBW.out).e3
                    go_must (refine (mayL_in _ 1 1 [⟨a0, a1, a2, a3⟩] (ad 1) (ad 2) (ad 4) _ HRW.out rfl (by decide) HEW.out.hg HEW.out.hk HEW.out.hi HEW.out.hs).mono ?_)
                    rintro e w2 ⟨hb2, he⟩
                    rw [HM.out] at he
                    have HB2 : Hid (Below w.heap.size w w2) := Lib.hid (HBW.out.trans (hb2.mono HBW.out.size))
                    have HR2 : Hid (Reads w2 w2.heap.size 4 (some ⟨w1.heap.size, 0, none⟩) 1 (pks [⟨a0, a1, a2, a3⟩])) := Lib.hid ((HRW.out.below hb2).more hb2.size)
                    have HE2 := Lib.hid (HE.out.below HB2.out).e3
                    clear hb2
                    replace he : e = .returned .nilIface := he
                    subst he
                    go_wp2_with fail
                    go_must (refine (new_ok _ 1 1 [⟨a0, a1, a2, a3⟩] (ad 1) (ad 2) (ad 4) _ HR2.out rfl (by decide) HE2.out HM.out).mono ?_)
                    rintro e w3 ⟨b3, A3, c3, rfl, _, _, _, hb3⟩
                    go_wp2
                    go_ret
                    exact ⟨rfl, HB2.out.trans (hb3.mono HB2.out.size)⟩
      · have t3a : (a1 == 3) = false := by simp; omega
        have t3b : (a1 != 3) = true := by simp; omega
        by_cases h10 : a1 = 5
        · have t10a : (a1 == 5) = true := by simp; omega
          have t10b : (a1 != 5) = false := by simp; omega
          by_cases h11 : a0 < 0
          · have t11a : decide (a0 < 0) = true := by simp; omega
            have HM : Hid (mayF 0 0 [⟨a0, a1, a2, a3⟩] = some (0, 2)) := Lib.hid (by rw [one_may]; (repeat' split); all_goals first | rfl | (exfalso; omega))
            clear h1 h2 h3 h10 h11
            go_enter Tryd.func4, Tryd.ntmps4
            go_wp2_with fail
            refine (first_any _ _ _ _ HE.out.e3).mono ?_
            rintro e w1 ⟨rfl, hb1⟩
            have HB1 := Lib.hid hb1
            clear hb1
            go_wp2_with fail
            obtain ⟨W, hW⟩ : ∃ W, W = w1.alloc (Obj.cells #[.int .i64 a0, .int .i64 a1, .int .i64 a2, .int .i64 a3] 26) := ⟨_, rfl⟩
            rw [← hW]
            have HBW : Hid (Below w.heap.size w W) := Lib.hid (by rw [hW]; exact HB1.out.alloc HB1.out.size _)
            have HRW : Hid (Reads W W.heap.size 4 (some ⟨w1.heap.size, 0, none⟩) 1 (pks [⟨a0, a1, a2, a3⟩])) := Lib.hid (by rw [hW]; exact reads_newS _ _ _ _ _ _ rfl rfl)
            clear hW
            have HEW := Lib.hid (HE.out.below HBW.out).e3
            go_must (refine (mayL_in _ 1 1 [⟨a0, a1, a2, a3⟩] (ad 1) (ad 2) (ad 4) _ HRW.out rfl (by decide) HEW.out.hg HEW.out.hk HEW.out.hi HEW.out.hs).mono ?_)
            rintro e w2 ⟨hb2, he⟩
            rw [HM.out] at he
            have HB2 : Hid (Below w.heap.size w w2) := Lib.hid (HBW.out.trans (hb2.mono HBW.out.size))
            have HR2 : Hid (Reads w2 w2.heap.size 4 (some ⟨w1.heap.size, 0, none⟩) 1 (pks [⟨a0, a1, a2, a3⟩])) := Lib.hid ((HRW.out.below hb2).more hb2.size)
            have HE2 := Lib.hid (HE.out.below HB2.out).e3
            clear hb2
            obtain ⟨b2, rfl, _, hk2⟩ := he
            have HK2 := Lib.hid hk2
            clear hk2
            go_wp2_with fail
            go_must (refine (new_bad _ 1 1 [⟨a0, a1, a2, a3⟩] (ad 1) (ad 2) (ad 4) _ HR2.out rfl (by decide) HE2.out 0 2 HM.out).mono ?_)
            rintro e w3 ⟨hb3, b3, rfl, _, hk3⟩
            have HB3 : Hid (Below w.heap.size w w3) := Lib.hid (HB2.out.trans (hb3.mono HB2.out.size))
            have HK3 : Hid (Blk w3 b3 _ _ ∧ Blk w3 b2 _ _) := Lib.hid ⟨hk3, HK2.out.below hb3 HK2.out.lt⟩
            clear hb3 hk3
            go_wp2_with fail
            go_must (refine (placed_any 103 0 _ (by decide)).mono ?_)
            rintro e w4 ⟨b4, rfl, hge4, hk4, hb4⟩
            have HB4 : Hid (Below w.heap.size w w4) := Lib.hid (HB3.out.trans (hb4.mono HB3.out.size))
            have HK4 : Hid (Blk w4 b3 _ _ ∧ Blk w4 b2 _ _ ∧ Blk w4 b4 _ _) := Lib.hid ⟨HK3.out.1.below hb4 HK3.out.1.lt, HK3.out.2.below hb4 HK3.out.2.lt, hk4⟩
            clear hk4 hb4
            unfold fV
            go_wp2_with fail
            obtain ⟨V, hV⟩ : ∃ V, V = w4.alloc (Obj.cells #[.int .i64 103, .slice (some ⟨b4, 0, none⟩) 1 1] 32) := ⟨_, rfl⟩
            rw [← hV]
            have HBV : Hid (Below w.heap.size w V) := Lib.hid (by rw [hV]; exact HB4.out.alloc HB4.out.size _)
            have HKV : Hid (Blk V w4.heap.size 32 #[.int .i64 103, .slice (some ⟨b4, 0, none⟩) 1 1] ∧ Blk V b3 _ _ ∧ Blk V b2 _ _ ∧ Blk V b4 _ _) := Lib.hid (by rw [hV]; exact ⟨Blk.new _ _ _, HK4.out.1.alloc _, HK4.out.2.1.alloc _, HK4.out.2.2.alloc _⟩)
            clear hV
            go_must (refine (Same_any _ _ 103 103 [0] [0] _ 1 1 _ (by exact faulty_at ad 2 (by decide) b2 0 _ (HE.out.below HBV.out) HKV.out.2.2.1) (by exact reads_blk1 HKV.out.2.2.2) (by decide)).mono ?_)
            rintro e w6 ⟨rfl, hb6⟩
            have HB6 : Hid (Below w.heap.size w w6) := Lib.hid (HBV.out.trans (hb6.mono HBV.out.size))
            have HK6 : Hid (Blk w6 w4.heap.size 32 #[.int .i64 103, .slice (some ⟨b4, 0, none⟩) 1 1] ∧ Blk w6 b3 _ _ ∧ Blk w6 b4 _ _) := Lib.hid ⟨HKV.out.1.below hb6 HKV.out.1.lt, HKV.out.2.1.below hb6 HKV.out.2.1.lt, HKV.out.2.2.2.below hb6 HKV.out.2.2.2.lt⟩
            clear hb6
            rw [show (decide ((103 : Int) = 103) && sameI [0] [0]) = true by decide]
            have k0 : w6.cell? ⟨w4.heap.size, 0, none⟩ = some (.int .i64 103) := HK6.out.1.cell 0
            have k1 : w6.cell? ⟨w4.heap.size, 1, none⟩ = some (.slice (some ⟨b4, 0, none⟩) 1 1) := HK6.out.1.cell 1
            go_wp2_with fail
            go_must (refine (Same_any _ _ 103 103 [0] [0] _ 1 1 _ (by exact faulty_at ad 2 (by decide) b3 0 _ (HE.out.below HB6.out) HK6.out.2.1) (by exact reads_blk1 HK6.out.2.2) (by decide)).mono ?_)
            rintro e w7 ⟨rfl, hb7⟩
            rw [show (decide ((103 : Int) = 103) && sameI [0] [0]) = true by decide]
            go_wp2
            go_ret
            exact ⟨rfl, HB6.out.trans (hb7.mono HB6.out.size)⟩
          · have t11a : decide (a0 < 0) = false := by simp; omega
            by_cases h12 : 1048576 < a0
            · have t12a : decide (a0 > 1048576) = true := by simp; omega
              have t12b : decide (1048576 < a0) = true := by simp; omega
              have HM : Hid (mayF 0 0 [⟨a0, a1, a2, a3⟩] = some (0, 2)) := Lib.hid (by rw [one_may]; (repeat' split); all_goals first | rfl | (exfalso; omega))
              clear h1 h2 h3 h10 h11 h12
              go_enter Tryd.func4, Tryd.ntmps4
              go_wp2_with fail
              refine (first_any _ _ _ _ HE.out.e3).mono ?_
              rintro e w1 ⟨rfl, hb1⟩
              have HB1 := Lib.hid hb1
              clear hb1
              go_wp2_with fail
              obtain ⟨W, hW⟩ : ∃ W, W = w1.alloc (Obj.cells #[.int .i64 a0, .int .i64 a1, .int .i64 a2, .int .i64 a3] 26) := ⟨_, rfl⟩
              rw [← hW]
              have HBW : Hid (Below w.heap.size w W) := Lib.hid (by rw [hW]; exact HB1.out.alloc HB1.out.size _)
              have HRW : Hid (Reads W W.heap.size 4 (some ⟨w1.heap.size, 0, none⟩) 1 (pks [⟨a0, a1, a2, a3⟩])) := Lib.hid (by rw [hW]; exact reads_newS _ _ _ _ _ _ rfl rfl)
              clear hW
              have HEW := Lib.hid (HE.out.below HBW.out).e3
              go_must (refine (mayL_in _ 1 1 [⟨a0, a1, a2, a3⟩] (ad 1) (ad 2) (ad 4) _ HRW.out rfl (by decide) HEW.out.hg HEW.out.hk HEW.out.hi HEW.out.hs).mono ?_)
              rintro e w2 ⟨hb2, he⟩
              rw [HM.out] at he
              have HB2 : Hid (Below w.heap.size w w2) := Lib.hid (HBW.out.trans (hb2.mono HBW.out.size))
              have HR2 : Hid (Reads w2 w2.heap.size 4 (some ⟨w1.heap.size, 0, none⟩) 1 (pks [⟨a0, a1, a2, a3⟩])) := Lib.hid ((HRW.out.below hb2).more hb2.size)
              have HE2 := Lib.hid (HE.out.below HB2.out).e3
              clear hb2
              obtain ⟨b2, rfl, _, hk2⟩ := he
              have HK2 := Lib.hid hk2
              clear hk2
              go_wp2_with fail
              go_must (refine (new_bad _ 1 1 [⟨a0, a1, a2, a3⟩] (ad 1) (ad 2) (ad 4) _ HR2.out rfl (by decide) HE2.out 0 2 HM.out).mono ?_)
              rintro e w3 ⟨hb3, b3, rfl, _, hk3⟩
              have HB3 : Hid (Below w.heap.size w w3) := Lib.hid (HB2.out.trans (hb3.mono HB2.out.size))
              have HK3 : Hid (Blk w3 b3 _ _ ∧ Blk w3 b2 _ _) := Lib.hid ⟨hk3, HK2.out.below hb3 HK2.out.lt⟩
              clear hb3 hk3
              go_wp2_with fail
              go_must (refine (placed_any 103 0 _ (by decide)).mono ?_)
              rintro e w4 ⟨b4, rfl, hge4, hk4, hb4⟩
              have HB4 : Hid (Below w.heap.size w w4) := Lib.hid (HB3.out.trans (hb4.mono HB3.out.size))
              have HK4 : Hid (Blk w4 b3 _ _ ∧ Blk w4 b2 _ _ ∧ Blk w4 b4 _ _) := Lib.hid ⟨HK3.out.1.below hb4 HK3.out.1.lt, HK3.out.2.below hb4 HK3.out.2.lt, hk4⟩
              clear hk4 hb4
              unfold fV
              go_wp2_with fail
              obtain ⟨V, hV⟩ : ∃ V, V = w4.alloc (Obj.cells #[.int .i64 103, .slice (some ⟨b4, 0, none⟩) 1 1] 32) := ⟨_, rfl⟩
              rw [← hV]
              have HBV : Hid (Below w.heap.size w V) := Lib.hid (by rw [hV]; exact HB4.out.alloc HB4.out.size _)
              have HKV : Hid (Blk V w4.heap.size 32 #[.int .i64 103, .slice (some ⟨b4, 0, none⟩) 1 1] ∧ Blk V b3 _ _ ∧ Blk V b2 _ _ ∧ Blk V b4 _ _) := Lib.hid (by rw [hV]; exact ⟨Blk.new _ _ _, HK4.out.1.alloc _, HK4.out.2.1.alloc _, HK4.out.2.2.alloc _⟩)
              clear hV
              go_must (refine (Same_any _ _ 103 103 [0] [0] _ 1 1 _ (by exact faulty_at ad 2 (by decide) b2 0 _ (HE.out.below HBV.out) HKV.out.2.2.1) (by exact reads_blk1 HKV.out.2.2.2) (by decide)).mono ?_)
              rintro e w6 ⟨rfl, hb6⟩
              have HB6 : Hid (Below w.heap.size w w6) := Lib.hid (HBV.out.trans (hb6.mono HBV.out.size))
              have HK6 : Hid (Blk w6 w4.heap.size 32 #[.int .i64 103, .slice (some ⟨b4, 0, none⟩) 1 1] ∧ Blk w6 b3 _ _ ∧ Blk w6 b4 _ _) := Lib.hid ⟨HKV.out.1.below hb6 HKV.out.1.lt, HKV.out.2.1.below hb6 HKV.out.2.1.lt, HKV.out.2.2.2.below hb6 HKV.out.2.2.2.lt⟩
              clear hb6
              rw [show (decide ((103 : Int) = 103) && sameI [0] [0]) = true by decide]
              have k0 : w6.cell? ⟨w4.heap.size, 0, none⟩ = some (.int .i64 103) := HK6.out.1.cell 0
              have k1 : w6.cell? ⟨w4.heap.size, 1, none⟩ = some (.slice (some ⟨b4, 0, none⟩) 1 1) := HK6.out.1.cell 1
              go_wp2_with fail
              go_must (refine (Same_any _ _ 103 103 [0] [0] _ 1 1 _ (by exact faulty_at ad 2 (by decide) b3 0 _ (HE.out.below HB6.out) HK6.out.2.1) (by exact reads_blk1 HK6.out.2.2) (by decide)).mono ?_)
              rintro e w7 ⟨rfl, hb7⟩
              rw [show (decide ((103 : Int) = 103) && sameI [0] [0]) = true by decide]
              go_wp2
              go_ret
              exact ⟨rfl, HB6.out.trans (hb7.mono HB6.out.size)⟩
            · have t12a : decide (a0 > 1048576) = false := by simp; omega
              have t12b : decide (1048576 < a0) = false := by simp; omega
              by_cases h13 : a2 = 0
              · have t13a : (a2 == 0) = true := by simp; omega
                have t13b : (a2 != 0) = false := by simp; omega
                by_cases h14 : a3 < 0
                · have t14a : decide (a3 < 0) = true := by simp; omega
                  have HM : Hid (mayF 0 0 [⟨a0, a1, a2, a3⟩] = some (0, 2)) := Lib.hid (by rw [one_may]; (repeat' split); all_goals first | rfl | (exfalso; omega))
                  clear h1 h2 h3 h10 h11 h12 h13 h14
                  go_enter Tryd.func4, Tryd.ntmps4
                  go_wp2_with fail
                  refine (first_any _ _ _ _ HE.out.e3).mono ?_
                  rintro e w1 ⟨rfl, hb1⟩
                  have HB1 := Lib.hid hb1
                  clear hb1
                  go_wp2_with fail
                  obtain ⟨W, hW⟩ : ∃ W, W = w1.alloc (Obj.cells #[.int .i64 a0, .int .i64 a1, .int .i64 a2, .int .i64 a3] 26) := ⟨_, rfl⟩
                  rw [← hW]
                  have HBW : Hid (Below w.heap.size w W) := Lib.hid (by rw [hW]; exact HB1.out.alloc HB1.out.size _)
                  have HRW : Hid (Reads W W.heap.size 4 (some ⟨w1.heap.size, 0, none⟩) 1 (pks [⟨a0, a1, a2, a3⟩])) := Lib.hid (by rw [hW]; exact reads_newS _ _ _ _ _ _ rfl rfl)
                  clear hW
                  have HEW := Lib.hid (HE.out.below HBW.out).e3
                  go_must (refine (mayL_in _ 1 1 [⟨a0, a1, a2, a3⟩] (ad 1) (ad 2) (ad 4) _ HRW.out rfl (by decide) HEW.out.hg HEW.out.hk HEW.out.hi HEW.out.hs).mono ?_)
                  rintro e w2 ⟨hb2, he⟩
                  rw [HM.out] at he
                  have HB2 : Hid (Below w.heap.size w w2) := Lib.hid (HBW.out.trans (hb2.mono HBW.out.size))
                  have HR2 : Hid (Reads w2 w2.heap.size 4 (some ⟨w1.heap.size, 0, none⟩) 1 (pks [⟨a0, a1, a2, a3⟩])) := Lib.hid ((HRW.out.below hb2).more hb2.size)
                  have HE2 := Lib.hid (HE.out.below HB2.out).e3
                  clear hb2
                  obtain ⟨b2, rfl, _, hk2⟩ := he
                  have HK2 := Lib.hid hk2
                  clear hk2
                  go_wp2_with fail
                  go_must (refine (new_bad _ 1 1 [⟨a0, a1, a2, a3⟩] (ad 1) (ad 2) (ad 4) _ HR2.out rfl (by decide) HE2.out 0 2 HM.out).mono ?_)
                  rintro e w3 ⟨hb3, b3, rfl, _, hk3⟩
                  have HB3 : Hid (Below w.heap.size w w3) := Lib.hid (HB2.out.trans (hb3.mono HB2.out.size))
                  have HK3 : Hid (Blk w3 b3 _ _ ∧ Blk w3 b2 _ _) := Lib.hid ⟨hk3, HK2.out.below hb3 HK2.out.lt⟩
                  clear hb3 hk3
                  go_wp2_with fail
                  go_must (refine (placed_any 103 0 _ (by decide)).mono ?_)
                  rintro e w4 ⟨b4, rfl, hge4, hk4, hb4⟩
                  have HB4 : Hid (Below w.heap.size w w4) := Lib.hid (HB3.out.trans (hb4.mono HB3.out.size))
                  have HK4 : Hid (Blk w4 b3 _ _ ∧ Blk w4 b2 _ _ ∧ Blk w4 b4 _ _) := Lib.hid ⟨HK3.out.1.below hb4 HK3.out.1.lt, HK3.out.2.below hb4 HK3.out.2.lt, hk4⟩
                  clear hk4 hb4
                  unfold fV
                  go_wp2_with fail
                  obtain ⟨V, hV⟩ : ∃ V, V = w4.alloc (Obj.cells #[.int .i64 103, .slice (some ⟨b4, 0, none⟩) 1 1] 32) := ⟨_, rfl⟩
                  rw [← hV]
                  have HBV : Hid (Below w.heap.size w V) := Lib.hid (by rw [hV]; exact HB4.out.alloc HB4.out.size _)
                  have HKV : Hid (Blk V w4.heap.size 32 #[.int .i64 103, .slice (some ⟨b4, 0, none⟩) 1 1] ∧ Blk V b3 _ _ ∧ Blk V b2 _ _ ∧ Blk V b4 _ _) := Lib.hid (by rw [hV]; exact ⟨Blk.new _ _ _, HK4.out.1.alloc _, HK4.out.2.1.alloc _, HK4.out.2.2.alloc _⟩)
                  clear hV
                  go_must (refine (Same_any _ _ 103 103 [0] [0] _ 1 1 _ (by exact faulty_at ad 2 (by decide) b2 0 _ (HE.out.below HBV.out) HKV.out.2.2.1) (by exact reads_blk1 HKV.out.2.2.2) (by decide)).mono ?_)
                  rintro e w6 ⟨rfl, hb6⟩
                  have HB6 : Hid (Below w.heap.size w w6) := Lib.hid (HBV.out.trans (hb6.mono HBV.out.size))
                  have HK6 : Hid (Blk w6 w4.heap.size 32 #[.int .i64 103, .slice (some ⟨b4, 0, none⟩) 1 1] ∧ Blk w6 b3 _ _ ∧ Blk w6 b4 _ _) := Lib.hid ⟨HKV.out.1.below hb6 HKV.out.1.lt, HKV.out.2.1.below hb6 HKV.out.2.1.lt, HKV.out.2.2.2.below hb6 HKV.out.2.2.2.lt⟩
                  clear hb6
                  rw [show (decide ((103 : Int) = 103) && sameI [0] [0]) = true by decide]
                  have k0 : w6.cell? ⟨w4.heap.size, 0, none⟩ = some (.int .i64 103) := HK6.out.1.cell 0
                  have k1 : w6.cell? ⟨w4.heap.size, 1, none⟩ = some (.slice (some ⟨b4, 0, none⟩) 1 1) := HK6.out.1.cell 1
                  go_wp2_with fail
                  go_must (refine (Same_any _ _ 103 103 [0] [0] _ 1 1 _ (by exact faulty_at ad 2 (by decide) b3 0 _ (HE.out.below HB6.out) HK6.out.2.1) (by exact reads_blk1 HK6.out.2.2) (by decide)).mono ?_)
                  rintro e w7 ⟨rfl, hb7⟩
                  rw [show (decide ((103 : Int) = 103) && sameI [0] [0]) = true by decide]
                  go_wp2
                  go_ret
                  exact ⟨rfl, HB6.out.trans (hb7.mono HB6.out.size)⟩
                · have t14a : decide (a3 < 0) = false := by simp; omega
                  by_cases h15 : 2047 < a3
                  · have t15a : decide (a3 > 2047) = true := by simp; omega
                    have t15b : decide (2047 < a3) = true := by simp; omega
                    have HM : Hid (mayF 0 0 [⟨a0, a1, a2, a3⟩] = some (0, 2)) := Lib.hid (by rw [one_may]; (repeat' split); all_goals first | rfl | (exfalso; omega))
                    clear h1 h2 h3 h10 h11 h12 h13 h14 h15
                    go_enter Tryd.func4, Tryd.ntmps4
                    go_wp2_with fail
                    refine (first_any _ _ _ _ HE.out.e3).mono ?_
                    rintro e w1 ⟨rfl, hb1⟩
                    have HB1 := Lib.hid hb1
                    clear hb1
                    go_wp2_with fail
                    obtain ⟨W, hW⟩ : ∃ W, W = w1.alloc (Obj.cells #[.int .i64 a0, .int .i64 a1, .int .i64 a2, .int .i64 a3] 26) := ⟨_, rfl⟩
                    rw [← hW]
                    have HBW : Hid (Below w.heap.size w W) := Lib.hid (by rw [hW]; exact HB1.out.alloc HB1.out.size _)
                    have HRW : Hid (Reads W W.heap.size 4 (some ⟨w1.heap.size, 0, none⟩) 1 (pks [⟨a0, a1, a2, a3⟩])) := Lib.hid (by rw [hW]; exact reads_newS _ _ _ _ _ _ rfl rfl)
                    clear hW
                    have HEW := Lib.hid (HE.out.below HBW.out).e3
                    go_must (refine (mayL_in _ 1 1 [⟨a0, a1, a2, a3⟩] (ad 1) (ad 2) (ad 4) _ HRW.out rfl (by decide) HEW.out.hg HEW.out.hk HEW.out.hi HEW.out.hs).mono ?_)
                    rintro e w2 ⟨hb2, he⟩
                    rw [HM.out] at he
                    have HB2 : Hid (Below w.heap.size w w2) := Lib.hid (HBW.out.trans (hb2.mono HBW.out.size))
                    have HR2 : Hid (Reads w2 w2.heap.size 4 (some ⟨w1.heap.size, 0, none⟩) 1 (pks [⟨a0, a1, a2, a3⟩])) := Lib.hid ((HRW.out.below hb2).more hb2.size)
                    have HE2 := Lib.hid (HE.out.below HB2.out).e3
                    clear hb2
                    obtain ⟨b2, rfl, _, hk2⟩ := he
                    have HK2 := Lib.hid hk2
                    clear hk2
                    go_wp2_with fail
                    go_must (refine (new_bad _ 1 1 [⟨a0, a1, a2, a3⟩] (ad 1) (ad 2) (ad 4) _ HR2.out rfl (by decide) HE2.out 0 2 HM.out).mono ?_)
                    rintro e w3 ⟨hb3, b3, rfl, _, hk3⟩
                    have HB3 : Hid (Below w.heap.size w w3) := Lib.hid (HB2.out.trans (hb3.mono HB2.out.size))
                    have HK3 : Hid (Blk w3 b3 _ _ ∧ Blk w3 b2 _ _) := Lib.hid ⟨hk3, HK2.out.below hb3 HK2.out.lt⟩
                    clear hb3 hk3
                    go_wp2_with fail
                    go_must (refine (placed_any 103 0 _ (by decide)).mono ?_)
                    rintro e w4 ⟨b4, rfl, hge4, hk4, hb4⟩
                    have HB4 : Hid (Below w.heap.size w w4) := Lib.hid (HB3.out.trans (hb4.mono HB3.out.size))
                    have HK4 : Hid (Blk w4 b3 _ _ ∧ Blk w4 b2 _ _ ∧ Blk w4 b4 _ _) := Lib.hid ⟨HK3.out.1.below hb4 HK3.out.1.lt, HK3.out.2.below hb4 HK3.out.2.lt, hk4⟩
                    clear hk4 hb4
                    unfold fV
                    go_wp2_with fail
                    obtain ⟨V, hV⟩ : ∃ V, V = w4.alloc (Obj.cells #[.int .i64 103, .slice (some ⟨b4, 0, none⟩) 1 1] 32) := ⟨_, rfl⟩
                    rw [← hV]
                    have HBV : Hid (Below w.heap.size w V) := Lib.hid (by rw [hV]; exact HB4.out.alloc HB4.out.size _)
                    have HKV : Hid (Blk V w4.heap.size 32 #[.int .i64 103, .slice (some ⟨b4, 0, none⟩) 1 1] ∧ Blk V b3 _ _ ∧ Blk V b2 _ _ ∧ Blk V b4 _ _) := Lib.hid (by rw [hV]; exact ⟨Blk.new _ _ _, HK4.out.1.alloc _, HK4.out.2.1.alloc _, HK4.out.2.2.alloc _⟩)
                    clear hV
                    go_must (refine (Same_any _ _ 103 103 [0] [0] _ 1 1 _ (by exact faulty_at ad 2 (by decide) b2 0 _ (HE.out.below HBV.out) HKV.out.2.2.1) (by exact reads_blk1 HKV.out.2.2.2) (by decide)).mono ?_)
                    rintro e w6 ⟨rfl, hb6⟩
                    have HB6 : Hid (Below w.heap.size w w6) := Lib.hid (HBV.out.trans (hb6.mono HBV.out.size))
                    have HK6 : Hid (Blk w6 w4.heap.size 32 #[.int .i64 103, .slice (some ⟨b4, 0, none⟩) 1 1] ∧ Blk w6 b3 _ _ ∧ Blk w6 b4 _ _) := Lib.hid ⟨HKV.out.1.below hb6 HKV.out.1.lt, HKV.out.2.1.below hb6 HKV.out.2.1.lt, HKV.out.2.2.2.below hb6 HKV.out.2.2.2.lt⟩
                    clear hb6
                    rw [show (decide ((103 : Int) = 103) && sameI [0] [0]) = true by decide]
                    have k0 : w6.cell? ⟨w4.heap.size, 0, none⟩ = some (.int .i64 103) := HK6.out.1.cell 0
                    have k1 : w6.cell? ⟨w4.heap.size, 1, none⟩ = some (.slice (some ⟨b4, 0, none⟩) 1 1) := HK6.out.1.cell 1
                    go_wp2_with fail
                    go_must (refine (Same_any _ _ 103 103 [0] [0] _ 1 1 _ (by exact faulty_at ad 2 (by decide) b3 0 _ (HE.out.below HB6.out) HK6.out.2.1) (by exact reads_blk1 HK6.out.2.2) (by decide)).mono ?_)
                    rintro e w7 ⟨rfl, hb7⟩
                    rw [show (decide ((103 : Int) = 103) && sameI [0] [0]) = true by decide]
                    go_wp2
                    go_ret
                    exact ⟨rfl, HB6.out.trans (hb7.mono HB6.out.size)⟩
                  · have t15a : decide (a3 > 2047) = false := by simp; omega
                    have t15b : decide (2047 < a3) = false := by simp; omega
                    have HM : Hid (mayF 0 0 [⟨a0, a1, a2, a3⟩] = none) := Lib.hid (by rw [one_may]; (repeat' split); all_goals first | rfl | (exfalso; omega))
                    clear h1 h2 h3 h10 h11 h12 h13 h14 h15
                    go_enter Tryd.func4, Tryd.ntmps4
                    go_wp2_with fail
                    refine (first_any _ _ _ _ HE.out.e3).mono ?_
                    rintro e w1 ⟨rfl, hb1⟩
                    have HB1 := Lib.hid hb1
                    clear hb1
                    go_wp2_with fail
                    obtain ⟨W, hW⟩ : ∃ W, W = w1.alloc (Obj.cells #[.int .i64 a0, .int .i64 a1, .int .i64 a2, .int .i64 a3] 26) := ⟨_, rfl⟩
                    rw [← hW]
                    have HBW : Hid (Below w.heap.size w W) := Lib.hid (by rw [hW]; exact HB1.out.alloc HB1.out.size _)
                    have HRW : Hid (Reads W W.heap.size 4 (some ⟨w1.heap.size, 0, none⟩) 1 (pks [⟨a0, a1, a2, a3⟩])) := Lib.hid (by rw [hW]; exact reads_newS _ _ _ _ _ _ rfl rfl)
                    clear hW
                    have HEW := Lib.hid (HE.out.below HBW.out).e3
                    go_must (refine (mayL_in _ 1 1 [⟨a0, a1, a2, a3⟩] (ad 1) (ad 2) (ad 4) _ HRW.out rfl (by decide) HEW.out.hg HEW.out.hk HEW.out.hi HEW.out.hs).mono ?_)
                    rintro e w2 ⟨hb2, he⟩
                    rw [HM.out] at he
                    have HB2 : Hid (Below w.heap.size w w2) := Lib.hid (HBW.out.trans (hb2.mono HBW.out.size))
                    have HR2 : Hid (Reads w2 w2.heap.size 4 (some ⟨w1.heap.size, 0, none⟩) 1 (pks [⟨a0, a1, a2, a3⟩])) := Lib.hid ((HRW.out.below hb2).more hb2.size)
                    have HE2 := Lib.hid (HE.out.below HB2.out).e3
                    clear hb2
                    replace he : e = .returned .nilIface := he
                    subst he
                    go_wp2_with fail
                    go_must (refine (new_ok _ 1 1 [⟨a0, a1, a2, a3⟩] (ad 1) (ad 2) (ad 4) _ HR2.out rfl (by decide) HE2.out HM.out).mono ?_)
                    rintro e w3 ⟨b3, A3, c3, rfl, _, _, _, hb3⟩
                    go_wp2
                    go_ret
                    exact ⟨rfl, HB2.out.trans (hb3.mono HB2.out.size)⟩
              · have t13a : (a2 == 0) = false := by simp; omega
                have t13b : (a2 != 0) = true := by simp; omega
                have HM : Hid (mayF 0 0 [⟨a0, a1, a2, a3⟩] = some (0, 2)) := Lib.hid (by rw [one_may]; (repeat' split); all_goals first | rfl | (exfalso; omega))
                clear h1 h2 h3 h10 h11 h12 h13
                go_enter Tryd.func4, Tryd.ntmps4
                go_wp2_with fail
                refine (first_any _ _ _ _ HE.out.e3).mono ?_
                rintro e w1 ⟨rfl, hb1⟩
                have HB1 := Lib.hid hb1
                clear hb1
                go_wp2_with fail
                obtain ⟨W, hW⟩ : ∃ W, W = w1.alloc (Obj.cells #[.int .i64 a0, .int .i64 a1, .int .i64 a2, .int .i64 a3] 26) := ⟨_, rfl⟩
                rw [← hW]
                have HBW : Hid (Below w.heap.size w W) := Lib.hid (by rw [hW]; exact HB1.out.alloc HB1.out.size _)
                have HRW : Hid (Reads W W.heap.size 4 (some ⟨w1.heap.size, 0, none⟩) 1 (pks [⟨a0, a1, a2, a3⟩])) := Lib.hid (by rw [hW]; exact reads_newS _ _ _ _ _ _ rfl rfl)
                clear hW
                have HEW := Lib.hid (HE.out.below HBW.out).e3
                go_must (refine (mayL_in _ 1 1 [⟨a0, a1, a2, a3⟩] (ad 1) (ad 2) (ad 4) _ HRW.out rfl (by decide) HEW.out.hg HEW.out.hk HEW.out.hi HEW.out.hs).mono ?_)
                rintro e w2 ⟨hb2, he⟩
                rw [HM.out] at he
                have HB2 : Hid (Below w.heap.size w w2) := Lib.hid (HBW.out.trans (hb2.mono HBW.out.size))
                have HR2 : Hid (Reads w2 w2.heap.size 4 (some ⟨w1.heap.size, 0, none⟩) 1 (pks [⟨a0, a1, a2, a3⟩])) := Lib.hid ((HRW.out.below hb2).more hb2.size)
                have HE2 := Lib.hid (HE.out.below HB2.out).e3
                clear hb2
                obtain ⟨b2, rfl, _, hk2⟩ := he
                have HK2 := Lib.hid hk2
                clear hk2
                go_wp2_with fail
                go_must (refine (new_bad _ 1 1 [⟨a0, a1, a2, a3⟩] (ad 1) (ad 2) (ad 4) _ HR2.out rfl (by decide) HE2.out 0 2 HM.out).mono ?_)
                rintro e w3 ⟨hb3, b3, rfl, _, hk3⟩
                have HB3 : Hid (Below w.heap.size w w3) := Lib.hid (HB2.out.trans (hb3.mono HB2.out.size))
                have HK3 : Hid (Blk w3 b3 _ _ ∧ Blk w3 b2 _ _) := Lib.hid ⟨hk3, HK2.out.below hb3 HK2.out.lt⟩
                clear hb3 hk3
                go_wp2_with fail
                go_must (refine (placed_any 103 0 _ (by decide)).mono ?_)
                rintro e w4 ⟨b4, rfl, hge4, hk4, hb4⟩
                have HB4 : Hid (Below w.heap.size w w4) := Lib.hid (HB3.out.trans (hb4.mono HB3.out.size))
                have HK4 : Hid (Blk w4 b3 _ _ ∧ Blk w4 b2 _ _ ∧ Blk w4 b4 _ _) := Lib.hid ⟨HK3.out.1.below hb4 HK3.out.1.lt, HK3.out.2.below hb4 HK3.out.2.lt, hk4⟩
                clear hk4 hb4
                unfold fV
                go_wp2_with fail
                obtain ⟨V, hV⟩ : ∃ V, V = w4.alloc (Obj.cells #[.int .i64 103, .slice (some ⟨b4, 0, none⟩) 1 1] 32) := ⟨_, rfl⟩
                rw [← hV]
                have HBV : Hid (Below w.heap.size w V) := Lib.hid (by rw [hV]; exact HB4.out.alloc HB4.out.size _)
                have HKV : Hid (Blk V w4.heap.size 32 #[.int .i64 103, .slice (some ⟨b4, 0, none⟩) 1 1] ∧ Blk V b3 _ _ ∧ Blk V b2 _ _ ∧ Blk V b4 _ _) := Lib.hid (by rw [hV]; exact ⟨Blk.new _ _ _, HK4.out.1.alloc _, HK4.out.2.1.alloc _, HK4.out.2.2.alloc _⟩)
                clear hV
                go_must (refine (Same_any _ _ 103 103 [0] [0] _ 1 1 _ (by exact faulty_at ad 2 (by decide) b2 0 _ (HE.out.below HBV.out) HKV.out.2.2.1) (by exact reads_blk1 HKV.out.2.2.2) (by decide)).mono ?_)
                rintro e w6 ⟨rfl, hb6⟩
                have HB6 : Hid (Below w.heap.size w w6) := Lib.hid (HBV.out.trans (hb6.mono HBV.out.size))
                have HK6 : Hid (Blk w6 w4.heap.size 32 #[.int .i64 103, .slice (some ⟨b4, 0, none⟩) 1 1] ∧ Blk w6 b3 _ _ ∧ Blk w6 b4 _ _) := Lib.hid ⟨HKV.out.1.below hb6 HKV.out.1.lt, HKV.out.2.1.below hb6 HKV.out.2.1.lt, HKV.out.2.2.2.below hb6 HKV.out.2.2.2.lt⟩
                clear hb6
                rw [show (decide ((103 : Int) = 103) && sameI [0] [0]) = true by decide]
                have k0 : w6.cell? ⟨w4.heap.size, 0, none⟩ = some (.int .i64 103) := HK6.out.1.cell 0
                have k1 : w6.cell? ⟨w4.heap.size, 1, none⟩ = some (.slice (some ⟨b4, 0, none⟩) 1 1) := HK6.out.1.cell 1
                go_wp2_with fail
                go_must (refine (Same_any _ _ 103 103 [0] [0] _ 1 1 _ (by exact faulty_at ad 2 (by decide) b3 0 _ (HE.out.below HB6.out) HK6.out.2.1) (by exact reads_blk1 HK6.out.2.2) (by decide)).mono ?_)
                rintro e w7 ⟨rfl, hb7⟩
                rw [show (decide ((103 : Int) = 103) && sameI [0] [0]) = true by decide]
                go_wp2
                go_ret
                exact ⟨rfl, HB6.out.trans (hb7.mono HB6.out.size)⟩
        · have t10a : (a1 == 5) = false := by simp; omega
          have t10b : (a1 != 5) = true := by simp; omega
          by_cases h16 : a0 < 0
          · have t16a : decide (a0 < 0) = true := by simp; omega
            have HM : Hid (mayF 0 0 [⟨a0, a1, a2, a3⟩] = some (0, 2)) := Lib.hid (by rw [one_may]; (repeat' split); all_goals first | rfl | (exfalso; omega))
            clear h1 h2 h3 h10 h16
            go_enter Tryd.func4, Tryd.ntmps4
            go_wp2_with fail
            refine (first_any _ _ _ _ HE.out.e3).mono ?_
            rintro e w1 ⟨rfl, hb1⟩
            have HB1 := Lib.hid hb1
            clear hb1
            go_wp2_with fail
            obtain ⟨W, hW⟩ : ∃ W, W = w1.alloc (Obj.cells #[.int .i64 a0, .int .i64 a1, .int .i64 a2, .int .i64 a3] 26) := ⟨_, rfl⟩
            rw [← hW]
            have HBW : Hid (Below w.heap.size w W) := Lib.hid (by rw [hW]; exact HB1.out.alloc HB1.out.size _)
            have HRW : Hid (Reads W W.heap.size 4 (some ⟨w1.heap.size, 0, none⟩) 1 (pks [⟨a0, a1, a2, a3⟩])) := Lib.hid (by rw [hW]; exact reads_newS _ _ _ _ _ _ rfl rfl)
            clear hW
            have HEW := Lib.hid (HE.out.below HBW.out).e3
            go_must (refine (mayL_in _ 1 1 [⟨a0, a1, a2, a3⟩] (ad 1) (ad 2) (ad 4) _ HRW.out rfl (by decide) HEW.out.hg HEW.out.hk HEW.out.hi HEW.out.hs).mono ?_)
            rintro e w2 ⟨hb2, he⟩
            rw [HM.out] at he
            have HB2 : Hid (Below w.heap.size w w2) := Lib.hid (HBW.out.trans (hb2.mono HBW.out.size))
            have HR2 : Hid (Reads w2 w2.heap.size 4 (some ⟨w1.heap.size, 0, none⟩) 1 (pks [⟨a0, a1, a2, a3⟩])) := Lib.hid ((HRW.out.below hb2).more hb2.size)
            have HE2 := Lib.hid (HE.out.below HB2.out).e3
            clear hb2
            obtain ⟨b2, rfl, _, hk2⟩ := he
            have HK2 := Lib.hid hk2
            clear hk2
            go_wp2_with fail
            go_must (refine (new_bad _ 1 1 [⟨a0, a1, a2, a3⟩] (ad 1) (ad 2) (ad 4) _ HR2.out rfl (by decide) HE2.out 0 2 HM.out).mono ?_)
            rintro e w3 ⟨hb3, b3, rfl, _, hk3⟩
            have HB3 : Hid (Below w.heap.size w w3) := Lib.hid (HB2.out.trans (hb3.mono HB2.out.size))
            have HK3 : Hid (Blk w3 b3 _ _ ∧ Blk w3 b2 _ _) := Lib.hid ⟨hk3, HK2.out.below hb3 HK2.out.lt⟩
            clear hb3 hk3
            go_wp2_with fail
            go_must (refine (placed_any 103 0 _ (by decide)).mono ?_)
            rintro e w4 ⟨b4, rfl, hge4, hk4, hb4⟩
            have HB4 : Hid (Below w.heap.size w w4) := Lib.hid (HB3.out.trans (hb4.mono HB3.out.size))
            have HK4 : Hid (Blk w4 b3 _ _ ∧ Blk w4 b2 _ _ ∧ Blk w4 b4 _ _) := Lib.hid ⟨HK3.out.1.below hb4 HK3.out.1.lt, HK3.out.2.below hb4 HK3.out.2.lt, hk4⟩
            clear hk4 hb4
            unfold fV
            go_wp2_with fail
            obtain ⟨V, hV⟩ : ∃ V, V = w4.alloc (Obj.cells #[.int .i64 103, .slice (some ⟨b4, 0, none⟩) 1 1] 32) := ⟨_, rfl⟩
            rw [← hV]
            have HBV : Hid (Below w.heap.size w V) := Lib.hid (by rw [hV]; exact HB4.out.alloc HB4.out.size _)
            have HKV : Hid (Blk V w4.heap.size 32 #[.int .i64 103, .slice (some ⟨b4, 0, none⟩) 1 1] ∧ Blk V b3 _ _ ∧ Blk V b2 _ _ ∧ Blk V b4 _ _) := Lib.hid (by rw [hV]; exact ⟨Blk.new _ _ _, HK4.out.1.alloc _, HK4.out.2.1.alloc _, HK4.out.2.2.alloc _⟩)
            clear hV
            go_must (refine (Same_any _ _ 103 103 [0] [0] _ 1 1 _ (by exact faulty_at ad 2 (by decide) b2 0 _ (HE.out.below HBV.out) HKV.out.2.2.1) (by exact reads_blk1 HKV.out.2.2.2) (by decide)).mono ?_)
            rintro e w6 ⟨rfl, hb6⟩
            have HB6 : Hid (Below w.heap.size w w6) := Lib.hid (HBV.out.trans (hb6.mono HBV.out.size))
            have HK6 : Hid (Blk w6 w4.heap.size 32 #[.int .i64 103, .slice (some ⟨b4, 0, none⟩) 1 1] ∧ Blk w6 b3 _ _ ∧ Blk w6 b4 _ _) := Lib.hid ⟨HKV.out.1.below hb6 HKV.out.1.lt, HKV.out.2.1.below hb6 HKV.out.2.1.lt, HKV.out.2.2.2.below hb6 HKV.out.2.2.2.lt⟩
            clear hb6
            rw [show (decide ((103 : Int) = 103) && sameI [0] [0]) = true by decide]
            have k0 : w6.cell? ⟨w4.heap.size, 0, none⟩ = some (.int .i64 103) := HK6.out.1.cell 0
            have k1 : w6.cell? ⟨w4.heap.size, 1, none⟩ = some (.slice (some ⟨b4, 0, none⟩) 1 1) := HK6.out.1.cell 1
            go_wp2_with fail
            go_must (refine (Same_any _ _ 103 103 [0] [0] _ 1 1 _ (by exact faulty_at ad 2 (by decide) b3 0 _ (HE.out.below HB6.out) HK6.out.2.1) (by exact reads_blk1 HK6.out.2.2) (by decide)).mono ?_)
            rintro e w7 ⟨rfl, hb7⟩
            rw [show (decide ((103 : Int) = 103) && sameI [0] [0]) = true by decide]
            go_wp2
            go_ret
            exact ⟨rfl, HB6.out.trans (hb7.mono HB6.out.size)⟩
          · have t16a : decide (a0 < 0) = false := by simp; omega
            by_cases h17 : 1048576 < a0
            · have t17a : decide (a0 > 1048576) = true := by simp; omega
              have t17b : decide (1048576 < a0) = true := by simp; omega
              have HM : Hid (mayF 0 0 [⟨a0, a1, a2, a3⟩] = some (0, 2)) := Lib.hid (by rw [one_may]; (repeat' split); all_goals first | rfl | (exfalso; omega))
              clear h1 h2 h3 h10 h16 h17
              go_enter Tryd.func4, Tryd.ntmps4
              go_wp2_with fail
              refine (first_any _ _ _ _ HE.out.e3).mono ?_
              rintro e w1 ⟨rfl, hb1⟩
              have HB1 := Lib.hid hb1
              clear hb1
              go_wp2_with fail
              obtain ⟨W, hW⟩ : ∃ W, W = w1.alloc (Obj.cells #[.int .i64 a0, .int .i64 a1, .int .i64 a2, .int .i64 a3] 26) := ⟨_, rfl⟩
              rw [← hW]
              have HBW : Hid (Below w.heap.size w W) := Lib.hid (by rw [hW]; exact HB1.out.alloc HB1.out.size _)
              have HRW : Hid (Reads W W.heap.size 4 (some ⟨w1.heap.size, 0, none⟩) 1 (pks [⟨a0, a1, a2, a3⟩])) := Lib.hid (by rw [hW]; exact reads_newS _ _ _ _ _ _ rfl rfl)
              clear hW
              have HEW := Lib.hid (HE.out.below HBW.out).e3
              go_must (refine (mayL_in _ 1 1 [⟨a0, a1, a2, a3⟩] (ad 1) (ad 2) (ad 4) _ HRW.out rfl (by decide) HEW.out.hg HEW.out.hk HEW.out.hi HEW.out.hs).mono ?_)
              rintro e w2 ⟨hb2, he⟩
              rw [HM.out] at he
              have HB2 : Hid (Below w.heap.size w w2) := Lib.hid (HBW.out.trans (hb2.mono HBW.out.size))
              have HR2 : Hid (Reads w2 w2.heap.size 4 (some ⟨w1.heap.size, 0, none⟩) 1 (pks [⟨a0, a1, a2, a3⟩])) := Lib.hid ((HRW.out.below hb2).more hb2.size)
              have HE2 := Lib.hid (HE.out.below HB2.out).e3
              clear hb2
              obtain ⟨b2, rfl, _, hk2⟩ := he
              have HK2 := Lib.hid hk2
              clear hk2
              go_wp2_with fail
              go_must (refine (new_bad _ 1 1 [⟨a0, a1, a2, a3⟩] (ad 1) (ad 2) (ad 4) _ HR2.out rfl (by decide) HE2.out 0 2 HM.out).mono ?_)
              rintro e w3 ⟨hb3, b3, rfl, _, hk3⟩
              have HB3 : Hid (Below w.heap.size w w3) := Lib.hid (HB2.out.trans (hb3.mono HB2.out.size))
              have HK3 : Hid (Blk w3 b3 _ _ ∧ Blk w3 b2 _ _) := Lib.hid ⟨hk3, HK2.out.below hb3 HK2.out.lt⟩
              clear hb3 hk3
              go_wp2_with fail
              go_must (refine (placed_any 103 0 _ (by decide)).mono ?_)
              rintro e w4 ⟨b4, rfl, hge4, hk4, hb4⟩
              have HB4 : Hid (Below w.heap.size w w4) := Lib.hid (HB3.out.trans (hb4.mono HB3.out.size))
              have HK4 : Hid (Blk w4 b3 _ _ ∧ Blk w4 b2 _ _ ∧ Blk w4 b4 _ _) := Lib.hid ⟨HK3.out.1.below hb4 HK3.out.1.lt, HK3.out.2.below hb4 HK3.out.2.lt, hk4⟩
              clear hk4 hb4
              unfold fV
              go_wp2_with fail
              obtain ⟨V, hV⟩ : ∃ V, V = w4.alloc (Obj.cells #[.int .i64 103, .slice (some ⟨b4, 0, none⟩) 1 1] 32) := ⟨_, rfl⟩
              rw [← hV]
              have HBV : Hid (Below w.heap.size w V) := Lib.hid (by rw [hV]; exact HB4.out.alloc HB4.out.size _)
              have HKV : Hid (Blk V w4.heap.size 32 #[.int .i64 103, .slice (some ⟨b4, 0, none⟩) 1 1] ∧ Blk V b3 _ _ ∧ Blk V b2 _ _ ∧ Blk V b4 _ _) := Lib.hid (by rw [hV]; exact ⟨Blk.new _ _ _, HK4.out.1.alloc _, HK4.out.2.1.alloc _, HK4.out.2.2.alloc _⟩)
              clear hV
              go_must (refine (Same_any _ _ 103 103 [0] [0] _ 1 1 _ (by exact faulty_at ad 2 (by decide) b2 0 _ (HE.out.below HBV.out) HKV.out.2.2.1) (by exact reads_blk1 HKV.out.2.2.2) (by decide)).mono ?_)
              rintro e w6 ⟨rfl, hb6⟩
              have HB6 : Hid (Below w.heap.size w w6) := Lib.hid (HBV.out.trans (hb6.mono HBV.out.size))
              have HK6 : Hid (Blk w6 w4.heap.size 32 #[.int .i64 103, .slice (some ⟨b4, 0, none⟩) 1 1] ∧ Blk w6 b3 _ _ ∧ Blk w6 b4 _ _) := Lib.hid ⟨HKV.out.1.below hb6 HKV.out.1.lt, HKV.out.2.1.below hb6 HKV.out.2.1.lt, HKV.out.2.2.2.below hb6 HKV.out.2.2.2.lt⟩
              clear hb6
              rw [show (decide ((103 : Int) = 103) && sameI [0] [0]) = true by decide]
              have k0 : w6.cell? ⟨w4.heap.size, 0, none⟩ = some (.int .i64 103) := HK6.out.1.cell 0
              have k1 : w6.cell? ⟨w4.heap.size, 1, none⟩ = some (.slice (some ⟨b4, 0, none⟩) 1 1) := HK6.out.1.cell 1
              go_wp2_with fail
              go_must (refine (Same_any _ _ 103 103 [0] [0] _ 1 1 _ (by exact faulty_at ad 2 (by decide) b3 0 _ (HE.out.below HB6.out) HK6.out.2.1) (by exact reads_blk1 HK6.out.2.2) (by decide)).mono ?_)
              rintro e w7 ⟨rfl, hb7⟩
              rw [show (decide ((103 : Int) = 103) && sameI [0] [0]) = true by decide]
              go_wp2
              go_ret
              exact ⟨rfl, HB6.out.trans (hb7.mono HB6.out.size)⟩
            · have t17a : decide (a0 > 1048576) = false := by simp; omega
              have t17b : decide (1048576 < a0) = false := by simp; omega
              by_cases h18 : a2 = 0
              · have t18a : (a2 == 0) = true := by simp; omega
                have t18b : (a2 != 0) = false := by simp; omega
                by_cases h19 : a3 = 0
                · have t19a : (a3 == 0) = true := by simp; omega
                  have t19b : (a3 != 0) = false := by simp; omega
                  have HM : Hid (mayF 0 0 [⟨a0, a1, a2, a3⟩] = none) := Lib.hid (by rw [one_may]; (repeat' split); all_goals first | rfl | (exfalso; omega))
                  clear h1 h2 h3 h10 h16 h17 h18 h19
                  go_enter Tryd.func4, Tryd.ntmps4
                  go_wp2_with fail
                  refine (first_any _ _ _ _ HE.out.e3).mono ?_
                  rintro e w1 ⟨rfl, hb1⟩
                  have HB1 := Lib.hid hb1
                  clear hb1
                  go_wp2_with fail
                  obtain ⟨W, hW⟩ : ∃ W, W = w1.alloc (Obj.cells #[.int .i64 a0, .int .i64 a1, .int .i64 a2, .int .i64 a3] 26) := ⟨_, rfl⟩
                  rw [← hW]
                  have HBW : Hid (Below w.heap.size w W) := Lib.hid (by rw [hW]; exact HB1.out.alloc HB1.out.size _)
                  have HRW : Hid (Reads W W.heap.size 4 (some ⟨w1.heap.size, 0, none⟩) 1 (pks [⟨a0, a1, a2, a3⟩])) := Lib.hid (by rw [hW]; exact reads_newS _ _ _ _ _ _ rfl rfl)
                  clear hW
                  have HEW := Lib.hid (HE.out.below HBW.out).e3
                  go_must (refine (mayL_in _ 1 1 [⟨a0, a1, a2, a3⟩] (ad 1) (ad 2) (ad 4) _ HRW.out rfl (by decide) HEW.out.hg HEW.out.hk HEW.out.hi HEW.out.hs).mono ?_)
                  rintro e w2 ⟨hb2, he⟩
                  rw [HM.out] at he
                  have HB2 : Hid (Below w.heap.size w w2) := Lib.hid (HBW.out.trans (hb2.mono HBW.out.size))
                  have HR2 : Hid (Reads w2 w2.heap.size 4 (some ⟨w1.heap.size, 0, none⟩) 1 (pks [⟨a0, a1, a2, a3⟩])) := Lib.hid ((HRW.out.below hb2).more hb2.size)
                  have HE2 := Lib.hid (HE.out.below HB2.out).e3
                  clear hb2
                  replace he : e = .returned .nilIface := he
                  subst he
                  go_wp2_with fail
                  go_must (refine (new_ok _ 1 1 [⟨a0, a1, a2, a3⟩] (ad 1) (ad 2) (ad 4) _ HR2.out rfl (by decide) HE2.out HM.out).mono ?_)
                  rintro e w3 ⟨b3, A3, c3, rfl, _, _, _, hb3⟩
                  go_wp2
                  go_ret
                  exact ⟨rfl, HB2.out.trans (hb3.mono HB2.out.size)⟩
                · have t19a : (a3 == 0) = false := by simp; omega
                  have t19b : (a3 != 0) = true := by simp; omega
                  have HM : Hid (mayF 0 0 [⟨a0, a1, a2, a3⟩] = some (0, 2)) := Lib.hid (by rw [one_may]; (repeat' split); all_goals first | rfl | (exfalso; omega))
                  clear h1 h2 h3 h10 h16 h17 h18 h19
                  go_enter Tryd.func4, Tryd.ntmps4
                  go_wp2_with fail
                  refine (first_any _ _ _ _ HE.out.e3).mono ?_
                  rintro e w1 ⟨rfl, hb1⟩
                  have HB1 := Lib.hid hb1
                  clear hb1
                  go_wp2_with fail
                  obtain ⟨W, hW⟩ : ∃ W, W = w1.alloc (Obj.cells #[.int .i64 a0, .int .i64 a1, .int .i64 a2, .int .i64 a3] 26) := ⟨_, rfl⟩
                  rw [← hW]
                  have HBW : Hid (Below w.heap.size w W) := Lib.hid (by rw [hW]; exact HB1.out.alloc HB1.out.size _)
                  have HRW : Hid (Reads W W.heap.size 4 (some ⟨w1.heap.size, 0, none⟩) 1 (pks [⟨a0, a1, a2, a3⟩])) := Lib.hid (by rw [hW]; exact reads_newS _ _ _ _ _ _ rfl rfl)
                  clear hW
                  have HEW := Lib.hid (HE.out.below HBW.out).e3
                  go_must (refine (mayL_in _ 1 1 [⟨a0, a1, a2, a3⟩] (ad 1) (ad 2) (ad 4) _ HRW.out rfl (by decide) HEW.out.hg HEW.out.hk HEW.out.hi HEW.out.hs).mono ?_)
                  rintro e w2 ⟨hb2, he⟩
                  rw [HM.out] at he
                  have HB2 : Hid (Below w.heap.size w w2) := Lib.hid (HBW.out.trans (hb2.mono HBW.out.size))
                  have HR2 : Hid (Reads w2 w2.heap.size 4 (some ⟨w1.heap.size, 0, none⟩) 1 (pks [⟨a0, a1, a2, a3⟩])) := Lib.hid ((HRW.out.below hb2).more hb2.size)
                  have HE2 := Lib.hid (HE.out.below HB2.out).e3
                  clear hb2
                  obtain ⟨b2, rfl, _, hk2⟩ := he
                  have HK2 := Lib.hid hk2
                  clear hk2
                  go_wp2_with fail
                  go_must (refine (new_bad _ 1 1 [⟨a0, a1, a2, a3⟩] (ad 1) (ad 2) (ad 4) _ HR2.out rfl (by decide) HE2.out 0 2 HM.out).mono ?_)
                  rintro e w3 ⟨hb3, b3, rfl, _, hk3⟩
                  have HB3 : Hid (Below w.heap.size w w3) := Lib.hid (HB2.out.trans (hb3.mono HB2.out.size))
                  have HK3 : Hid (Blk w3 b3 _ _ ∧ Blk w3 b2 _ _) := Lib.hid ⟨hk3, HK2.out.below hb3 HK2.out.lt⟩
                  clear hb3 hk3
                  go_wp2_with fail
                  go_must (refine (placed_any 103 0 _ (by decide)).mono ?_)
                  rintro e w4 ⟨b4, rfl, hge4, hk4, hb4⟩
                  have HB4 : Hid (Below w.heap.size w w4) := Lib.hid (HB3.out.trans (hb4.mono HB3.out.size))
                  have HK4 : Hid (Blk w4 b3 _ _ ∧ Blk w4 b2 _ _ ∧ Blk w4 b4 _ _) := Lib.hid ⟨HK3.out.1.below hb4 HK3.out.1.lt, HK3.out.2.below hb4 HK3.out.2.lt, hk4⟩
                  clear hk4 hb4
                  unfold fV
                  go_wp2_with fail
                  obtain ⟨V, hV⟩ : ∃ V, V = w4.alloc (Obj.cells #[.int .i64 103, .slice (some ⟨b4, 0, none⟩) 1 1] 32) := ⟨_, rfl⟩
                  rw [← hV]
                  have HBV : Hid (Below w.heap.size w V) := Lib.hid (by rw [hV]; exact HB4.out.alloc HB4.out.size _)
                  have HKV : Hid (Blk V w4.heap.size 32 #[.int .i64 103, .slice (some ⟨b4, 0, none⟩) 1 1] ∧ Blk V b3 _ _ ∧ Blk V b2 _ _ ∧ Blk V b4 _ _) := Lib.hid (by rw [hV]; exact ⟨Blk.new _ _ _, HK4.out.1.alloc _, HK4.out.2.1.alloc _, HK4.out.2.2.alloc _⟩)
                  clear hV
                  go_must (refine (Same_any _ _ 103 103 [0] [0] _ 1 1 _ (by exact faulty_at ad 2 (by decide) b2 0 _ (HE.out.below HBV.out) HKV.out.2.2.1) (by exact reads_blk1 HKV.out.2.2.2) (by decide)).mono ?_)
                  rintro e w6 ⟨rfl, hb6⟩
                  have HB6 : Hid (Below w.heap.size w w6) := Lib.hid (HBV.out.trans (hb6.mono HBV.out.size))
                  have HK6 : Hid (Blk w6 w4.heap.size 32 #[.int .i64 103, .slice (some ⟨b4, 0, none⟩) 1 1] ∧ Blk w6 b3 _ _ ∧ Blk w6 b4 _ _) := Lib.hid ⟨HKV.out.1.below hb6 HKV.out.1.lt, HKV.out.2.1.below hb6 HKV.out.2.1.lt, HKV.out.2.2.2.below hb6 HKV.out.2.2.2.lt⟩
                  clear hb6
                  rw [show (decide ((103 : Int) = 103) && sameI [0] [0]) = true by decide]
                  have k0 : w6.cell? ⟨w4.heap.size, 0, none⟩ = some (.int .i64 103) := HK6.out.1.cell 0
                  have k1 : w6.cell? ⟨w4.heap.size, 1, none⟩ = some (.slice (some ⟨b4, 0, none⟩) 1 1) := HK6.out.1.cell 1
                  go_wp2_with fail
                  go_must (refine (Same_any _ _ 103 103 [0] [0] _ 1 1 _ (by exact faulty_at ad 2 (by decide) b3 0 _ (HE.out.below HB6.out) HK6.out.2.1) (by exact reads_blk1 HK6.out.2.2) (by decide)).mono ?_)
                  rintro e w7 ⟨rfl, hb7⟩
                  rw [show (decide ((103 : Int) = 103) && sameI [0] [0]) = true by decide]
                  go_wp2
                  go_ret
                  exact ⟨rfl, HB6.out.trans (hb7.mono HB6.out.size)⟩
              · have t18a : (a2 == 0) = false := by simp; omega
                have t18b : (a2 != 0) = true := by simp; omega
                have HM : Hid (mayF 0 0 [⟨a0, a1, a2, a3⟩] = some (0, 2)) := Lib.hid (by rw [one_may]; (repeat' split); all_goals first | rfl | (exfalso; omega))
                clear h1 h2 h3 h10 h16 h17 h18
                go_enter Tryd.func4, Tryd.ntmps4
                go_wp2_with fail
                refine (first_any _ _ _ _ HE.out.e3).mono ?_
                rintro e w1 ⟨rfl, hb1⟩
                have HB1 := Lib.hid hb1
                clear hb1
                go_wp2_with fail
                obtain ⟨W, hW⟩ : ∃ W, W = w1.alloc (Obj.cells #[.int .i64 a0, .int .i64 a1, .int .i64 a2, .int .i64 a3] 26) := ⟨_, rfl⟩
                rw [← hW]
                have HBW : Hid (Below w.heap.size w W) := Lib.hid (by rw [hW]; exact HB1.out.alloc HB1.out.size _)
                have HRW : Hid (Reads W W.heap.size 4 (some ⟨w1.heap.size, 0, none⟩) 1 (pks [⟨a0, a1, a2, a3⟩])) := Lib.hid (by rw [hW]; exact reads_newS _ _ _ _ _ _ rfl rfl)
                clear hW
                have HEW := Lib.hid (HE.out.below HBW.out).e3
                go_must (refine (mayL_in _ 1 1 [⟨a0, a1, a2, a3⟩] (ad 1) (ad 2) (ad 4) _ HRW.out rfl (by decide) HEW.out.hg HEW.out.hk HEW.out.hi HEW.out.hs).mono ?_)
                rintro e w2 ⟨hb2, he⟩
                rw [HM.out] at he
                have HB2 : Hid (Below w.heap.size w w2) := Lib.hid (HBW.out.trans (hb2.mono HBW.out.size))
                have HR2 : Hid (Reads w2 w2.heap.size 4 (some ⟨w1.heap.size, 0, none⟩) 1 (pks [⟨a0, a1, a2, a3⟩])) := Lib.hid ((HRW.out.below hb2).more hb2.size)
                have HE2 := Lib.hid (HE.out.below HB2.out).e3
                clear hb2
                obtain ⟨b2, rfl, _, hk2⟩ := he
                have HK2 := Lib.hid hk2
                clear hk2
                go_wp2_with fail
                go_must (refine (new_bad _ 1 1 [⟨a0, a1, a2, a3⟩] (ad 1) (ad 2) (ad 4) _ HR2.out rfl (by decide) HE2.out 0 2 HM.out).mono ?_)
                rintro e w3 ⟨hb3, b3, rfl, _, hk3⟩
                have HB3 : Hid (Below w.heap.size w w3) := Lib.hid (HB2.out.trans (hb3.mono HB2.out.size))
                have HK3 : Hid (Blk w3 b3 _ _ ∧ Blk w3 b2 _ _) := Lib.hid ⟨hk3, HK2.out.below hb3 HK2.out.lt⟩
                clear hb3 hk3
                go_wp2_with fail
                go_must (refine (placed_any 103 0 _ (by decide)).mono ?_)
                rintro e w4 ⟨b4, rfl, hge4, hk4, hb4⟩
                have HB4 : Hid (Below w.heap.size w w4) := Lib.hid (HB3.out.trans (hb4.mono HB3.out.size))
                have HK4 : Hid (Blk w4 b3 _ _ ∧ Blk w4 b2 _ _ ∧ Blk w4 b4 _ _) := Lib.hid ⟨HK3.out.1.below hb4 HK3.out.1.lt, HK3.out.2.below hb4 HK3.out.2.lt, hk4⟩
                clear hk4 hb4
                unfold fV
                go_wp2_with fail
                obtain ⟨V, hV⟩ : ∃ V, V = w4.alloc (Obj.cells #[.int .i64 103, .slice (some ⟨b4, 0, none⟩) 1 1] 32) := ⟨_, rfl⟩
                rw [← hV]
                have HBV : Hid (Below w.heap.size w V) := Lib.hid (by rw [hV]; exact HB4.out.alloc HB4.out.size _)
                have HKV : Hid (Blk V w4.heap.size 32 #[.int .i64 103, .slice (some ⟨b4, 0, none⟩) 1 1] ∧ Blk V b3 _ _ ∧ Blk V b2 _ _ ∧ Blk V b4 _ _) := Lib.hid (by rw [hV]; exact ⟨Blk.new _ _ _, HK4.out.1.alloc _, HK4.out.2.1.alloc _, HK4.out.2.2.alloc _⟩)
                clear hV
                go_must (refine (Same_any _ _ 103 103 [0] [0] _ 1 1 _ (by exact faulty_at ad 2 (by decide) b2 0 _ (HE.out.below HBV.out) HKV.out.2.2.1) (by exact reads_blk1 HKV.out.2.2.2) (by decide)).mono ?_)
                rintro e w6 ⟨rfl, hb6⟩
                have HB6 : Hid (Below w.heap.size w w6) := Lib.hid (HBV.out.trans (hb6.mono HBV.out.size))
                have HK6 : Hid (Blk w6 w4.heap.size 32 #[.int .i64 103, .slice (some ⟨b4, 0, none⟩) 1 1] ∧ Blk w6 b3 _ _ ∧ Blk w6 b4 _ _) := Lib.hid ⟨HKV.out.1.below hb6 HKV.out.1.lt, HKV.out.2.1.below hb6 HKV.out.2.1.lt, HKV.out.2.2.2.below hb6 HKV.out.2.2.2.lt⟩
                clear hb6
                rw [show (decide ((103 : Int) = 103) && sameI [0] [0]) = true by decide]
                have k0 : w6.cell? ⟨w4.heap.size, 0, none⟩ = some (.int .i64 103) := HK6.out.1.cell 0
                have k1 : w6.cell? ⟨w4.heap.size, 1, none⟩ = some (.slice (some ⟨b4, 0, none⟩) 1 1) := HK6.out.1.cell 1
                go_wp2_with fail
                go_must (refine (Same_any _ _ 103 103 [0] [0] _ 1 1 _ (by exact faulty_at ad 2 (by decide) b3 0 _ (HE.out.below HB6.out) HK6.out.2.1) (by exact reads_blk1 HK6.out.2.2) (by decide)).mono ?_)
                rintro e w7 ⟨rfl, hb7⟩
                rw [show (decide ((103 : Int) = 103) && sameI [0] [0]) = true by decide]
                go_wp2
                go_ret
                exact ⟨rfl, HB6.out.trans (hb7.mono HB6.out.size)⟩

theorem contract (H : Type) (enc : TypeId × Value → H) (W : World) (base : Nat) (args : Array Value) (ds gs : List (DataW H)) (before : List MemPlace)
    (hval : ∀ (j : Nat) t v, Tryd.f4.params[j]? = some t → args[j]? = some v → Value.okWide Tryd.prog W .any base t v)
    (hW : DataW.Whole enc Tryd.prog Tryd.f4.params.toList Rows.scriptOneSpec.vars false W args.toList ds gs before) (hL : laidMetH Tryd.prog Rows.scriptOneRow.laid W) :
    Calls Tryd.prog 4 args W fun e W' => ∃ v, e = .returned v ∧ Rows.scriptOneSpec.post enc Tryd.prog Tryd.f4 false true false false W args v W' := by
  have hW' := hW
  obtain ⟨p, q, hA0, hV, rfl, hfz, hnd⟩ := hW
  have hA : DataW.TrodAll enc Tryd.prog W 0 (fun _ => true) true Tryd.f4.params.toList args.toList ds p := hA0
  rw [Tryd.params4] at hA hval
  obtain ⟨v0, vs0, d0, ds0, p0, q0, hargs, rfl, rfl, h0, r0⟩ := trodAll_cons hA
  obtain ⟨v1, vs1, d1, ds1, p1, q1, rfl, rfl, rfl, h1, r1⟩ := trodAll_cons r0
  obtain ⟨v2, vs2, d2, ds2, p2, q2, rfl, rfl, rfl, h2, r2⟩ := trodAll_cons r1
  obtain ⟨v3, vs3, d3, ds3, p3, q3, rfl, rfl, rfl, h3, r3⟩ := trodAll_cons r2
  obtain ⟨rfl, rfl, rfl⟩ := trodAll_nil r3
  obtain rfl : args = #[v0, v1, v2, v3] := by cases args; simp_all
  obtain ⟨rfl, rfl⟩ := trodVars_none hV
  obtain ⟨a0, rfl, rfl, rfl, w0⟩ := open_int Tryd.underlying3 (hval 0 3 v0 rfl rfl) h0
  obtain ⟨a1, rfl, rfl, rfl, w1⟩ := open_int Tryd.underlying3 (hval 1 3 v1 rfl rfl) h1
  obtain ⟨a2, rfl, rfl, rfl, w2⟩ := open_int Tryd.underlying3 (hval 2 3 v2 rfl rfl) h2
  obtain ⟨a3, rfl, rfl, rfl, w3⟩ := open_int Tryd.underlying3 (hval 3 3 v3 rfl rfl) h3
  clear hA0
  obtain ⟨ads, e1, e2, e3⟩ := scriptOne_errs hL
  refine (walk W ads e1 e2 e3 a0 w0 a1 w1 a2 w2 a3 w3).mono fun e W' ⟨he, hg⟩ => ?_
  subst he
  exact ⟨_, rfl, post_law kids full (by rw [Tryd.params4]; decide +kernel) rfl hW' rfl rfl rfl hg (by kernel_rfl) Tryd.underlying4⟩

theorem reads (os : Os) {H : Type} (enc : TypeId × Value → H) : ∃ places, DataW.whole enc Tryd.prog ((laidWorld os).forCall (fun _ _ => 0) ⟨#[], #[.int .i64 0, .int .i64 0, .int .i64 0, .int .i64 0], []⟩).memory Tryd.f4.params.toList Rows.scriptOneSpec.vars false #[.int .i64 0, .int .i64 0, .int .i64 0, .int .i64 0].toList 8 = some ([.lit (.int .i64 0), .lit (.int .i64 0), .lit (.int .i64 0), .lit (.int .i64 0)], [], places) :=
  ⟨[], by kernel_rfl⟩

set_option maxRecDepth 100000 in
theorem lifted (os : Os) (started : os.Started) (H : Type) (enc : TypeId × Value → H) (F : Stop.Interp) :
    ReturnsInHanded {} Tryd.checked os 4 .any ((OpenSpec.ofChange Rows.scriptOneSpec).preRow enc Tryd.prog Tryd.f4 Rows.scriptOneRow.domain false Rows.scriptOneRow.laid) (((OpenSpec.ofChange Rows.scriptOneSpec).at F).post enc Tryd.prog Tryd.f4 false true false false) := by
  obtain ⟨places, hx⟩ := reads os enc
  refine returnsInHanded_of_row (C := Tryd.checked) (s := OpenSpec.ofChange Rows.scriptOneSpec) own started (by kernel_rfl) Tryd.func4
    (witness_row_atRef (enc := enc) (C := Tryd.checked) false (laidWorld os) #[.int .i64 0, .int .i64 0, .int .i64 0, .int .i64 0] rfl (by kernel_rfl) (by kernel_rfl) (by kernel_rfl)
      (OpenSpec.preRow_of_cond 8 hx (by kernel_rfl) (fun k hk => by cases hk) (by kernel_rfl) (scriptOne_met os _))) ?_
  intro W base args ds gs before hval hW _ _ _ hL _ _
  exact contract H enc W base args ds gs before hval hW hL

theorem said : Rows.ScriptOneSaid :=
  OpenClaim.holds_of_cond 4 Tryd.f4 rfl rfl rfl rfl rfl rfl rfl ⟨rfl, rfl, rfl, rfl, rfl⟩ rfl rfl rfl rfl rfl (by kernel_rfl) Tryd.func4 (by kernel_rfl)
    (of_decide_eq_true (by kernel_rfl)) (by unfold Func.isWrapper; first | (rw [if_pos (by decide +kernel)]; kernel_rfl) | (rw [if_neg (by decide +kernel)]; exact ⟨rfl, rfl⟩))
    (fun os started H enc _ F => by rw [OpenClaim.pre_eq_preRow]; exact lifted os started H enc F)

theorem plain (f : FuncId) (fn : Func) (hf : Tryd.pinned.checked.prog.funcNamed "overdrive/overdrivelaw15.ScriptOne" = some f) (hfn : Tryd.pinned.checked.prog.funcs[f]? = some fn) :
    true = Tryd.pinned.checked.prog.looks [] ∧ ∀ (j : Nat) t, fn.params[j]? = some t → Tryd.pinned.checked.prog.wantsStandIn t = false := by
  obtain rfl : f = 4 := Option.some.inj ((show Tryd.prog.funcNamed "overdrive/overdrivelaw15.ScriptOne" = some 4 by kernel_rfl).symm.trans hf) |>.symm
  obtain rfl : fn = Tryd.f4 := (Option.some.inj (Tryd.func4.symm.trans hfn)).symm
  refine ⟨by kernel_rfl, fun j t ht => ?_⟩
  have hm := Array.mem_of_getElem? ht
  have hall : (Tryd.f4.params.toList.all fun t => Tryd.prog.wantsStandIn t == false) = true := by kernel_rfl
  have hw : Tryd.prog.wantsStandIn t = false := by simpa using List.all_eq_true.1 hall t (by simpa using hm)
  exact hw

theorem card : Rows.ScriptOneCardSaid :=
  Claim7.holds_tied_plain_at .later [] _ _ _ _ said (fun _ h => by cases h) (by kernel_rfl) (fun _ h => by cases h) scriptOne_row_tie rfl ⟨rfl, rfl⟩ (by kernel_rfl) rfl plain (by kernel_rfl)
#print axioms card
end Go.Proofs.YtomabogjoampnaaDoor.scriptOne
