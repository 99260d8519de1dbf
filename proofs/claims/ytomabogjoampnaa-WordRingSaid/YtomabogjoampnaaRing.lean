/- Proved: the law WordRing answers true for every three int64 arguments, and leaves them as they were. No condition. -/
import Derived.Test.YtomabogjoampnaaFirst
import Derived.Test.YtomabogjoampnaaBits
import Derived.Test.YtomabogjoampnaaBelow
import Derived.WalkKit
import Derived.ProofKit
import Derived.OpenShut
namespace Go.Proofs.Ytomabogjoampnaa.wordRing
open Go.RowKit Go.ChangeShapes Go.WideShapes Go.ChangeAt Go.RowKit
set_option linter.unusedVariables false      -- a walk need not use every 'w<i>' (that an integer argument fits its kind)

theorem own : ownKnob Try.prog.godebug = none := by kernel_rfl

set_option maxRecDepth 100000 in
set_option maxHeartbeats 8000000 in
theorem walk (a0 : Int) (a1 : Int) (a2 : Int) (w0 : (Lit.int .i64 a0).wf = true) (w1 : (Lit.int .i64 a1).wf = true) (w2 : (Lit.int .i64 a2).wf = true) (w : World) :
    Calls Try.prog 3 #[.int .i64 a0, .int .i64 a1, .int .i64 a2] w fun e w' => e = .returned (.bool true) ∧ Below w.heap.size w w' := by
  have h0 := i64_wf w0
  have h1 := i64_wf w1
  clear w0 w1 w2
  have r1 : (tv 8 a0 a1 != tv 8 a1 a0) = false := by rw [bne_eq_false_iff_eq]; exact ring1 _ _
  have r2 : (tv 10 a0 (tv 8 a1 a2) != tv 8 (tv 10 a0 a1) (tv 10 a0 a2)) = false := by rw [bne_eq_false_iff_eq]; exact ring2 _ _ _
  have r3 : (tv 9 (tv 8 a0 a1) a1 != a0) = false := by rw [bne_eq_false_iff_eq]; exact ring3 _ _ h0
  by_cases hz : a1 = 0
  · subst hz
    have HW : Hid (tv 11 a0 0 = 0 ∧ tv 12 a0 0 = 0 ∧ tt 11 0 = 5 ∧ tt 12 0 = 5) := Lib.hid ⟨by simp [tv, cutq], by simp [tv, cutr], by decide, by decide⟩
    clear h0 h1
    go_enter Try.func3, Try.ntmps3
    go_wp2_with fail
    refine (first_any _).mono ?_
    rintro e w' ⟨rfl, hb⟩
    go_wp2_with (first | (go_at_call 11; refine (func2_any _ _ _ _).mono ?_; rintro e w' ⟨rfl, rfl⟩) | (go_at_call 12; refine (two_any _ _ _ _).mono ?_; rintro e w' ⟨rfl, rfl⟩; (try rw [HW.out.1]); (try rw [HW.out.2.1]); (try rw [HW.out.2.2.1]); (try rw [HW.out.2.2.2])))
    go_ret
    exact ⟨rfl, hb⟩
  have HT : Hid (tt 11 a1 = 0 ∧ tt 12 a1 = 0) := Lib.hid ⟨by simp [tt, hz], by simp [tt, hz]⟩
  have hz' : (a1 == 0) = false := beq_eq_false_iff_ne.2 hz
  have f1 : (tv 8 (tv 10 (tv 11 a0 a1) a1) (tv 12 a0 a1) != a0) = false := by rw [bne_eq_false_iff_eq]; exact cut_eq _ _ h0 hz
  have f2 := rest_i64 a0 a1 h1
  have f3 := rest_sign a0 a1
  have f4 := rest_lt a0 a1 hz
  have g1 : (tv 15 (tv 15 a0 a1) a1 == a0) = true := beq_iff_eq.2 (xor_xor _ _ h0)
  have g2 : (bits .or .i64 (tv 13 a0 a1) (tv 15 a0 a1) == tv 14 a0 a1) = true := beq_iff_eq.2 (and_or_xor _ _)
  have g3 : (tv 17 (tv 16 (bits .and .i64 a0 255) (bits .and .i64 (bits .and .i64 a1 63) 31)) (bits .and .i64 (bits .and .i64 a1 63) 31) == bits .and .i64 a0 255) = true := by
    rw [beq_iff_eq, and255, and31, and63']
    exact shl_shr _ _ (by omega) (by omega) (by omega) (by omega)
  have g4 : (tv 19 a0 a1 + tv 19 a1 a0 + tv 20 a0 a1 == 1) = true := beq_iff_eq.2 (trichotomy _ _)
  obtain ⟨l1, l2⟩ := lt01 a0 a1
  obtain ⟨l3, l4⟩ := lt01 a1 a0
  obtain ⟨l5, l6⟩ := eq01 a0 a1
  have hneg : a1 ≠ -1 → wrap64 (-tv 12 a0 a1) = -tv 12 a0 a1 := by
    intro h
    have := f4 h
    refine w_in ?_
    unfold I64 at *
    omega
  by_cases hm : a1 = -1
  · have k2 : (tv 12 a0 a1 != 0) = false := by rw [bne_eq_false_iff_eq, tv12, hm]; simp [cutr]
    have k1 : (a1 != -1) = false := by rw [bne_eq_false_iff_eq]; exact hm
    clear h0 h1 f2 f3 f4 hz hneg hm
    go_enter Try.func3, Try.ntmps3
    go_wp2_with fail
    refine (first_any _).mono ?_
    rintro e w' ⟨rfl, hb⟩
    go_wp2_with (first | (go_at_call 11; refine (func2_any _ _ _ _).mono ?_; rintro e w' ⟨rfl, rfl⟩) | (go_at_call 12; refine (two_any _ _ _ _).mono ?_; rintro e w' ⟨rfl, rfl⟩; (try rw [HT.out.1]); (try rw [HT.out.2])))
    go_ret
    exact ⟨rfl, hb⟩
  have k1 : (a1 != -1) = true := by rw [bne_iff_ne]; exact hm
  have hn := hneg hm
  have hr := f4 hm
  have A1 : 0 < a1 → decide (a1 ≤ tv 12 a0 a1) = false ∧ decide (a1 ≤ wrap64 (-tv 12 a0 a1)) = false := by
    intro h; rw [hn]; simp only [decide_eq_false_iff_not]; omega
  have A2 : a1 < 0 → decide (wrap64 (-tv 12 a0 a1) ≤ a1) = false ∧ decide (tv 12 a0 a1 ≤ a1) = false := by
    intro h; rw [hn]; simp only [decide_eq_false_iff_not]; omega
  have hs : 0 < a1 ∨ a1 < 0 := by omega
  have hq : tv 12 a0 a1 = 0 ∨ (0 < tv 12 a0 a1 ∧ 0 ≤ a0) ∨ (tv 12 a0 a1 < 0 ∧ a0 < 0) := by
    by_cases h : tv 12 a0 a1 = 0
    · exact .inl h
    · have := f3 h; omega
  have B1 : 0 < a1 → decide (0 < a1) = true ∧ decide (a1 < 0) = false := by intro h; simp; omega
  have B2 : a1 < 0 → decide (0 < a1) = false ∧ decide (a1 < 0) = true := by intro h; simp; omega
  have C1 : 0 ≤ tv 12 a0 a1 → decide (0 ≤ tv 12 a0 a1) = true ∧ decide (tv 12 a0 a1 < 0) = false := by intro h; simp; omega
  have C2 : tv 12 a0 a1 < 0 → decide (0 ≤ tv 12 a0 a1) = false ∧ decide (tv 12 a0 a1 < 0) = true ∧ (tv 12 a0 a1 != 0) = true := by intro h; simp; omega
  have D1 : tv 12 a0 a1 = 0 → (tv 12 a0 a1 != 0) = false := by intro h; rw [h]; decide
  have D2 : 0 < tv 12 a0 a1 → (tv 12 a0 a1 != 0) = true := by intro h; rw [bne_iff_ne]; omega
  have E1 : 0 ≤ a0 → decide (a0 < 0) = false := by intro h; simp; omega
  have E2 : a0 < 0 → decide (a0 < 0) = true := by intro h; simp; omega
  clear h0 h1 f2 f3 f4 hz hneg hm hn hr
  rcases hs with hs | hs
  · obtain ⟨t1, t2⟩ := A1 hs
    obtain ⟨t3, t4⟩ := B1 hs
    rcases hq with hq | ⟨hq, ha⟩ | ⟨hq, ha⟩
    · have t5 := D1 hq
      obtain ⟨t6, t7⟩ := C1 (by omega)
      clear A1 A2 B1 B2 C1 C2 D1 D2 E1 E2 hs hq
      go_enter Try.func3, Try.ntmps3
      go_wp2_with fail
      refine (first_any _).mono ?_
      rintro e w' ⟨rfl, hb⟩
      go_wp2_with (first | (go_at_call 11; refine (func2_any _ _ _ _).mono ?_; rintro e w' ⟨rfl, rfl⟩) | (go_at_call 12; refine (two_any _ _ _ _).mono ?_; rintro e w' ⟨rfl, rfl⟩; (try rw [HT.out.1]); (try rw [HT.out.2])))
      go_ret
      exact ⟨rfl, hb⟩
    · have t5 := D2 hq
      obtain ⟨t6, t7⟩ := C1 (by omega)
      have t8 := E1 ha
      clear A1 A2 B1 B2 C1 C2 D1 D2 E1 E2 hs hq ha
      go_enter Try.func3, Try.ntmps3
      go_wp2_with fail
      refine (first_any _).mono ?_
      rintro e w' ⟨rfl, hb⟩
      go_wp2_with (first | (go_at_call 11; refine (func2_any _ _ _ _).mono ?_; rintro e w' ⟨rfl, rfl⟩) | (go_at_call 12; refine (two_any _ _ _ _).mono ?_; rintro e w' ⟨rfl, rfl⟩; (try rw [HT.out.1]); (try rw [HT.out.2])))
      go_ret
      exact ⟨rfl, hb⟩
    · obtain ⟨t5, t6, t7⟩ := C2 hq
      have t8 := E2 ha
      clear A1 A2 B1 B2 C1 C2 D1 D2 E1 E2 hs hq ha
      go_enter Try.func3, Try.ntmps3
      go_wp2_with fail
      refine (first_any _).mono ?_
      rintro e w' ⟨rfl, hb⟩
      go_wp2_with (first | (go_at_call 11; refine (func2_any _ _ _ _).mono ?_; rintro e w' ⟨rfl, rfl⟩) | (go_at_call 12; refine (two_any _ _ _ _).mono ?_; rintro e w' ⟨rfl, rfl⟩; (try rw [HT.out.1]); (try rw [HT.out.2])))
      go_ret
      exact ⟨rfl, hb⟩
  · obtain ⟨t1, t2⟩ := A2 hs
    obtain ⟨t3, t4⟩ := B2 hs
    rcases hq with hq | ⟨hq, ha⟩ | ⟨hq, ha⟩
    · have t5 := D1 hq
      obtain ⟨t6, t7⟩ := C1 (by omega)
      clear A1 A2 B1 B2 C1 C2 D1 D2 E1 E2 hs hq
      go_enter Try.func3, Try.ntmps3
      go_wp2_with fail
      refine (first_any _).mono ?_
      rintro e w' ⟨rfl, hb⟩
      go_wp2_with (first | (go_at_call 11; refine (func2_any _ _ _ _).mono ?_; rintro e w' ⟨rfl, rfl⟩) | (go_at_call 12; refine (two_any _ _ _ _).mono ?_; rintro e w' ⟨rfl, rfl⟩; (try rw [HT.out.1]); (try rw [HT.out.2])))
      go_ret
      exact ⟨rfl, hb⟩
    · have t5 := D2 hq
      obtain ⟨t6, t7⟩ := C1 (by omega)
      have t8 := E1 ha
      clear A1 A2 B1 B2 C1 C2 D1 D2 E1 E2 hs hq ha
      go_enter Try.func3, Try.ntmps3
      go_wp2_with fail
      refine (first_any _).mono ?_
      rintro e w' ⟨rfl, hb⟩
      go_wp2_with (first | (go_at_call 11; refine (func2_any _ _ _ _).mono ?_; rintro e w' ⟨rfl, rfl⟩) | (go_at_call 12; refine (two_any _ _ _ _).mono ?_; rintro e w' ⟨rfl, rfl⟩; (try rw [HT.out.1]); (try rw [HT.out.2])))
      go_ret
      exact ⟨rfl, hb⟩
    · obtain ⟨t5, t6, t7⟩ := C2 hq
      have t8 := E2 ha
      clear A1 A2 B1 B2 C1 C2 D1 D2 E1 E2 hs hq ha
      go_enter Try.func3, Try.ntmps3
      go_wp2_with fail
      refine (first_any _).mono ?_
      rintro e w' ⟨rfl, hb⟩
      go_wp2_with (first | (go_at_call 11; refine (func2_any _ _ _ _).mono ?_; rintro e w' ⟨rfl, rfl⟩) | (go_at_call 12; refine (two_any _ _ _ _).mono ?_; rintro e w' ⟨rfl, rfl⟩; (try rw [HT.out.1]); (try rw [HT.out.2])))
      go_ret
      exact ⟨rfl, hb⟩

/-! ### THE ROW's STEP: WRITTEN OUT: LEAVE IT -/
set_option maxRecDepth 100000 in
theorem lifted (os : Os) (started : os.Started) (H : Type) (enc : TypeId × Value → H) :
    ReturnsInHanded {} Try.checked os 3 .any (Rows.wordRingSpec.pre6 enc Try.prog Try.f3 Rows.wordRingRow.domain false) (Rows.wordRingSpec.post enc Try.prog Try.f3 false true false false) := by
  refine returnsInHanded_of_change (C := Try.checked) own started (by kernel_rfl) Try.func3
    (ChangeSpec.witness6 (enc := enc) (C := Try.checked) false ⟨#[], #[.int .i64 0, .int .i64 0, .int .i64 0], []⟩ 8 (by kernel_rfl) (by kernel_rfl) (by kernel_rfl) (by kernel_rfl)) ?_
  intro W base args ds gs before hval0 hW hcnd _
  have hval : ∀ (j : Nat) t v, Try.f3.params[j]? = some t → args[j]? = some v → Value.okWide Try.prog W .any base t v := hval0
  have hW' := hW
  obtain ⟨p, q, hA0, hV, rfl, hfz, hnd⟩ := hW
  have hA : DataW.TrodAll enc Try.prog W 0 (fun _ => true) true Try.f3.params.toList args.toList ds p := hA0
  rw [Try.params3] at hA hval
  obtain ⟨v0, vs0, d0, ds0, p0, q0, hargs, rfl, rfl, h0, r0⟩ := trodAll_cons hA
  obtain ⟨v1, vs1, d1, ds1, p1, q1, rfl, rfl, rfl, h1, r1⟩ := trodAll_cons r0
  obtain ⟨v2, vs2, d2, ds2, p2, q2, rfl, rfl, rfl, h2, r2⟩ := trodAll_cons r1
  obtain ⟨rfl, rfl, rfl⟩ := trodAll_nil r2
  obtain rfl : args = #[v0, v1, v2] := by cases args; simp_all
  obtain ⟨rfl, rfl⟩ := trodVars_none hV
  obtain ⟨a0, rfl, rfl, rfl, w0⟩ := open_int Try.underlying2 (hval 0 2 v0 rfl rfl) h0
  obtain ⟨a1, rfl, rfl, rfl, w1⟩ := open_int Try.underlying2 (hval 1 2 v1 rfl rfl) h1
  obtain ⟨a2, rfl, rfl, rfl, w2⟩ := open_int Try.underlying2 (hval 2 2 v2 rfl rfl) h2
  clear hA0 hval0
  simp only [List.append_nil] at hW'
  refine (walk a0 a1 a2 w0 w1 w2 W).mono fun e W' ⟨he, hg⟩ => ?_
  subst he
  exact ⟨_, rfl, post_of_below (pa := []) (pv := []) hW' (fun _ _ _ => (trodAll_cons_mk (shut_bool Try.underlying4 _) trodAll_mk0)) (fun sp _ => (trodAll_cons_mk (shut_int Try.underlying2 w0) (trodAll_cons_mk (shut_int Try.underlying2 w1) (trodAll_cons_mk (shut_int Try.underlying2 w2) trodAll_mk0)))) (fun _ _ => rfl) rfl hg (ok_one (by kernel_rfl) rfl (okWide_bool_mk Try.underlying4 _))⟩

theorem over : Rows.wordRingRow.holds Try.pinned (OpenSpec.ofChange Rows.wordRingSpec) :=
  OpenClaim.holds_of_wide 3 Try.f3 rfl rfl rfl rfl rfl rfl rfl ⟨rfl, rfl, rfl, rfl, rfl⟩ rfl rfl rfl rfl rfl (by kernel_rfl) Try.func3 (by kernel_rfl)
    (of_decide_eq_true (by kernel_rfl)) (by unfold Func.isWrapper; first | (rw [if_pos (by decide +kernel)]; kernel_rfl) | (rw [if_neg (by decide +kernel)]; exact ⟨rfl, rfl⟩))
    (fun os started H enc _ => lifted os started H enc)

/-- ████ THE STATEMENT ████ -/
theorem proved : Rows.WordRingSaid :=
  over
#print axioms proved
end Go.Proofs.Ytomabogjoampnaa.wordRing
