/- Proved: the law WordSays answers true for every op, every two int64, every uint64, every slice of bytes and every place, and leaves them as they were. No condition. -/
import Derived.Test.YtomabogjoampnaaPutTake
import Derived.Test.YtomabogjoampnaaRef1
import Derived.Test.YtomabogjoampnaaRefPut
import Derived.Test.YtomabogjoampnaaRefTake
import Derived.Test.YtomabogjoampnaaPure
import Derived.Test.YtomabogjoampnaaLaw
namespace Go.Proofs.Ytomabogjoampnaa.wordSays
open Go.RowKit Go.ChangeShapes Go.WideShapes Go.ChangeAt
set_option linter.unusedVariables false

theorem own : ownKnob Try.prog.godebug = none := by kernel_rfl
theorem kids : Kids Try.prog (· < Try.prog.types.size) := kids_rows (by kernel_rfl) (by kernel_rfl)
theorem full : ∀ t e, t < Try.prog.types.size → Try.prog.underlying t = some (.slice e) → 0 < Try.prog.cellsOf e := slices_full_of Try.prog (by kernel_rfl)

set_option maxRecDepth 100000 in
set_option maxHeartbeats 2000000 in
theorem walk (w : World) (a0 : Int) (w0 : (Lit.int .i64 a0).wf = true) (a1 : Int) (w1 : (Lit.int .i64 a1).wf = true) (a2 : Int) (w2 : (Lit.int .i64 a2).wf = true) (a3 : Int) (w3 : (Lit.int .u64 a3).wf = true) (A4 : Option Addr) (n4 c4 : Nat) (z4 : List Int) (hc4 : n4 ≤ c4) (hn4 : c4 ≤ maxLen) (hl4 : z4.length = n4) (hr4 : Reads w w.heap.size 1 A4 n4 (z4.map (Value.int .u8))) (hw4 : ∀ z ∈ z4, (Lit.int .u8 z).wf = true) (a5 : Int) (w5 : (Lit.int .i64 a5).wf = true) :
    Calls Try.prog 9 #[.int .i64 a0, .int .i64 a1, .int .i64 a2, .int .u64 a3, .slice A4 n4 c4, .int .i64 a5] w fun e w' => e = .returned (.bool true) ∧ Below w.heap.size w w' := by
  obtain ⟨l, hz, hlz, hby⟩ := nats_u8 z4 hw4
  rw [hz] at hr4
  have hlen : l.length = n4 := by omega
  clear hz hlz hw4 hl4
  subst hlen
  obtain ⟨u, rfl, hu⟩ := u64_wf w3
  have h1 := i64_wf w1
  clear w0 w1 w2 w3 w5
  have HBY := Lib.hid hby
  have HU := Lib.hid hu
  have H1 := Lib.hid h1
  have HR := Lib.hid hr4
  unfold maxLen at hn4
  have HN := Lib.hid hn4
  clear hu hby h1 hn4 hr4
  by_cases hK : 1000 < l.length
  · have t1 : decide (1000 < l.length) = true := by simpa using hK
    go_enter Try.func9, Try.ntmps9
    go_wp2_with fail
    refine (first_any _).mono ?_
    rintro e w' ⟨rfl, hb⟩
    go_wp2
    go_ret
    exact ⟨rfl, hb⟩
  have t1 : decide (1000 < l.length) = false := by simpa using hK
  have hle : l.length ≤ 1000 := by omega
  have hel := enc_len u
  clear hK
  obtain ⟨i0, hi0, hz0, hz1, hz2⟩ := info_parts byte_info
  obtain ⟨L, hL⟩ : ∃ L, L = l ++ enc u := ⟨_, rfl⟩
  have hLl : L.length ≤ 2000 := by rw [hL, List.length_append]; omega
  have HL := Lib.hid hL
  clear hL
  have t5 : (tv a0 a1 a2 != tv a0 a1 a2) = false := by simp
  have t6 : (tt a0 a2 != tt a0 a2) = false := by simp
  have q1 : (zig a1 == zig a1) = true := by simp
  have q2 : (zag (u : Int) == zag (u : Int)) = true := by simp
  obtain ⟨o, ho⟩ : ∃ o, o = tk l a5 := ⟨_, rfl⟩
  have HO := Lib.hid ho
  clear ho
  by_cases hop : a0 = 18
  · subst hop
    have s1 : (wrap64 (-a1) != wrap64 (-a1)) = false := by simp
    have s2 : pureB 18 = true := by decide
    go_enter Try.func9, Try.ntmps9
    go_wp2_with fail
    refine (first_any _).mono ?_
    rintro e w1 ⟨rfl, hb1⟩
    go_wp2_with (first | (go_at_call 12; refine (two_any _ _ _ _).mono ?_; rintro e w' ⟨rfl, rfl⟩) | (go_at_call 19; refine (rtwo_any _ _ _ _).mono ?_; rintro e w' ⟨rfl, rfl⟩) | (go_at_call 18; refine (one_neg _ _).mono ?_; rintro e w' ⟨rfl, rfl⟩) | (go_at_call 20; refine (pure_any _ _).mono ?_; rintro e w' ⟨rfl, rfl⟩) | (go_at_call 21; refine (rpure_any _ _).mono ?_; rintro e w' ⟨rfl, rfl⟩))
    refine (take_any A4 _ c4 _ l _ ((HR.out.below hb1).more hb1.size) HBY.out (by omega)).mono ?_
    rintro e w3 ⟨rfl, rfl⟩
    rw [← HO.out]
    rcases o with _ | ⟨x, e3⟩
    · simp only [takeVal]
      go_wp2_with fail
      refine (rtake_any A4 _ c4 _ l _ ((HR.out.below hb1).more hb1.size) HBY.out (by omega)).mono ?_
      rw [← HO.out]
      rintro e w3 ⟨y, hy, rfl, rfl⟩
      go_wp2_with fail
      refine (put_is L A4 _ c4 u l _ HL.out ((HR.out.below hb1).more hb1.size) (by omega) HU.out).mono ?_
      rintro e w2 ⟨B, d, rfl, ho2, hrd2, hb2⟩
      have HR2 := Lib.hid hrd2
      have hb12 := hb1.trans (hb2.mono hb1.size)
      clear ho2 hrd2
      go_wp2_with fail
      refine (bytes_any A4 _ c4 l _ ((HR.out.below hb12).more hb12.size) (by omega)).mono ?_
      rintro e w3 ⟨B3, d3, rfl, ho3, hb3⟩
      have HO3 := Lib.hid ho3
      have hb13 := hb12.trans (hb3.mono hb12.size)
      clear ho3
      go_wp2_with fail
      refine (rput_any u _ HU.out).mono ?_
      rintro e w4 ⟨B4, d4, rfl, ho4, hrd4, hb4⟩
      have HR4 := Lib.hid hrd4
      have hb14 := hb13.trans (hb4.mono hb13.size)
      clear ho4 hrd4
      go_wp2_with (at_builtin; go_must (refine wpList_append_any _ rfl (.tmp 132) (.tmp 134) _ rfl w2.heap.size 5 i0 _ 1 1 Try.underlying29 hi0 hz0 hz1 hz2 rfl (by omega) (.slice B3 l.length d3) l.length (l.map bv) rfl (own_below HO3.out hb4) w4.heap.size B4 (enc u).length d4 ((enc u).map bv) rfl HR4.out (bvs_one _) (by unfold maxLen; omega) (by omega) (by have := hb3.size; have := hb4.size; omega) ?_); intro v5 w5 hown5 hg5 hat5)
      have hb24 : Below w2.heap.size w2 w4 := hb3.trans (hb4.mono hb3.size)
      have hb25 : Below w2.heap.size w2 w5 := hb24.grown hg5 hb24.size (fun k hk => own_ge HO3.out hk)
      have hb15 := hb12.trans (hb25.mono hb12.size)
      obtain ⟨A5, d5, rfl, hr5⟩ := own_reads hown5
      refine (same_any _ _ _ _ _ _ L (l ++ enc u) _ ((HR2.out.below hb25).more hb25.size) (by simpa using hr5) (by omega)).mono ?_
      rintro e w6 ⟨rfl, hb6⟩
      rw [show sameB L (l ++ enc u) = true by rw [HL.out]; simp [sameB]]
      go_wp2_with (first | (go_at_call 14; refine (zig_any _ _).mono ?_; rintro e w' ⟨rfl, rfl⟩) | (go_at_call 16; refine (zag_any _ _).mono ?_; rintro e w' ⟨rfl, rfl⟩) | (go_at_call 25; refine (rzig_any _ H1.out _).mono ?_; rintro e w' ⟨rfl, rfl⟩) | (go_at_call 26; refine (rzag_any _ HU.out _).mono ?_; rintro e w' ⟨rfl, rfl⟩))
      go_ret
      exact ⟨rfl, hb15.trans (hb6.mono hb15.size)⟩
    · simp only [takeVal]
      go_wp2_with fail
      refine (rtake_any A4 _ c4 _ l _ ((HR.out.below hb1).more hb1.size) HBY.out (by omega)).mono ?_
      rw [← HO.out]
      rintro e w3 ⟨rfl, rfl⟩
      go_wp2_with fail
      refine (put_is L A4 _ c4 u l _ HL.out ((HR.out.below hb1).more hb1.size) (by omega) HU.out).mono ?_
      rintro e w2 ⟨B, d, rfl, ho2, hrd2, hb2⟩
      have HR2 := Lib.hid hrd2
      have hb12 := hb1.trans (hb2.mono hb1.size)
      clear ho2 hrd2
      go_wp2_with fail
      refine (bytes_any A4 _ c4 l _ ((HR.out.below hb12).more hb12.size) (by omega)).mono ?_
      rintro e w3 ⟨B3, d3, rfl, ho3, hb3⟩
      have HO3 := Lib.hid ho3
      have hb13 := hb12.trans (hb3.mono hb12.size)
      clear ho3
      go_wp2_with fail
      refine (rput_any u _ HU.out).mono ?_
      rintro e w4 ⟨B4, d4, rfl, ho4, hrd4, hb4⟩
      have HR4 := Lib.hid hrd4
      have hb14 := hb13.trans (hb4.mono hb13.size)
      clear ho4 hrd4
      go_wp2_with (at_builtin; go_must (refine wpList_append_any _ rfl (.tmp 132) (.tmp 134) _ rfl w2.heap.size 5 i0 _ 1 1 Try.underlying29 hi0 hz0 hz1 hz2 rfl (by omega) (.slice B3 l.length d3) l.length (l.map bv) rfl (own_below HO3.out hb4) w4.heap.size B4 (enc u).length d4 ((enc u).map bv) rfl HR4.out (bvs_one _) (by unfold maxLen; omega) (by omega) (by have := hb3.size; have := hb4.size; omega) ?_); intro v5 w5 hown5 hg5 hat5)
      have hb24 : Below w2.heap.size w2 w4 := hb3.trans (hb4.mono hb3.size)
      have hb25 : Below w2.heap.size w2 w5 := hb24.grown hg5 hb24.size (fun k hk => own_ge HO3.out hk)
      have hb15 := hb12.trans (hb25.mono hb12.size)
      obtain ⟨A5, d5, rfl, hr5⟩ := own_reads hown5
      refine (same_any _ _ _ _ _ _ L (l ++ enc u) _ ((HR2.out.below hb25).more hb25.size) (by simpa using hr5) (by omega)).mono ?_
      rintro e w6 ⟨rfl, hb6⟩
      rw [show sameB L (l ++ enc u) = true by rw [HL.out]; simp [sameB]]
      go_wp2_with (first | (go_at_call 14; refine (zig_any _ _).mono ?_; rintro e w' ⟨rfl, rfl⟩) | (go_at_call 16; refine (zag_any _ _).mono ?_; rintro e w' ⟨rfl, rfl⟩) | (go_at_call 25; refine (rzig_any _ H1.out _).mono ?_; rintro e w' ⟨rfl, rfl⟩) | (go_at_call 26; refine (rzag_any _ HU.out _).mono ?_; rintro e w' ⟨rfl, rfl⟩))
      go_ret
      exact ⟨rfl, hb15.trans (hb6.mono hb15.size)⟩
  · have s1 : (a0 == 18) = false := by simpa using hop
    clear hop
    rcases hpb : pureB a0 with _ | _
    all_goals
      go_enter Try.func9, Try.ntmps9
      go_wp2_with fail
      refine (first_any _).mono ?_
      rintro e w1 ⟨rfl, hb1⟩
      go_wp2_with (first | (go_at_call 12; refine (two_any _ _ _ _).mono ?_; rintro e w' ⟨rfl, rfl⟩) | (go_at_call 19; refine (rtwo_any _ _ _ _).mono ?_; rintro e w' ⟨rfl, rfl⟩) | (go_at_call 18; refine (one_not _ _ _ s1).mono ?_; rintro e w' ⟨rfl, rfl⟩) | (go_at_call 20; refine (pure_any _ _).mono ?_; rintro e w' ⟨rfl, rfl⟩) | (go_at_call 21; refine (rpure_any _ _).mono ?_; rintro e w' ⟨rfl, rfl⟩))
      refine (take_any A4 _ c4 _ l _ ((HR.out.below hb1).more hb1.size) HBY.out (by omega)).mono ?_
      rintro e w3 ⟨rfl, rfl⟩
      rw [← HO.out]
      rcases o with _ | ⟨x, e3⟩
      · simp only [takeVal]
        go_wp2_with fail
        refine (rtake_any A4 _ c4 _ l _ ((HR.out.below hb1).more hb1.size) HBY.out (by omega)).mono ?_
        rw [← HO.out]
        rintro e w3 ⟨y, hy, rfl, rfl⟩
        go_wp2_with fail
        refine (put_is L A4 _ c4 u l _ HL.out ((HR.out.below hb1).more hb1.size) (by omega) HU.out).mono ?_
        rintro e w2 ⟨B, d, rfl, ho2, hrd2, hb2⟩
        have HR2 := Lib.hid hrd2
        have hb12 := hb1.trans (hb2.mono hb1.size)
        clear ho2 hrd2
        go_wp2_with fail
        refine (bytes_any A4 _ c4 l _ ((HR.out.below hb12).more hb12.size) (by omega)).mono ?_
        rintro e w3 ⟨B3, d3, rfl, ho3, hb3⟩
        have HO3 := Lib.hid ho3
        have hb13 := hb12.trans (hb3.mono hb12.size)
        clear ho3
        go_wp2_with fail
        refine (rput_any u _ HU.out).mono ?_
        rintro e w4 ⟨B4, d4, rfl, ho4, hrd4, hb4⟩
        have HR4 := Lib.hid hrd4
        have hb14 := hb13.trans (hb4.mono hb13.size)
        clear ho4 hrd4
        go_wp2_with (at_builtin; go_must (refine wpList_append_any _ rfl (.tmp 132) (.tmp 134) _ rfl w2.heap.size 5 i0 _ 1 1 Try.underlying29 hi0 hz0 hz1 hz2 rfl (by omega) (.slice B3 l.length d3) l.length (l.map bv) rfl (own_below HO3.out hb4) w4.heap.size B4 (enc u).length d4 ((enc u).map bv) rfl HR4.out (bvs_one _) (by unfold maxLen; omega) (by omega) (by have := hb3.size; have := hb4.size; omega) ?_); intro v5 w5 hown5 hg5 hat5)
        have hb24 : Below w2.heap.size w2 w4 := hb3.trans (hb4.mono hb3.size)
        have hb25 : Below w2.heap.size w2 w5 := hb24.grown hg5 hb24.size (fun k hk => own_ge HO3.out hk)
        have hb15 := hb12.trans (hb25.mono hb12.size)
        obtain ⟨A5, d5, rfl, hr5⟩ := own_reads hown5
        refine (same_any _ _ _ _ _ _ L (l ++ enc u) _ ((HR2.out.below hb25).more hb25.size) (by simpa using hr5) (by omega)).mono ?_
        rintro e w6 ⟨rfl, hb6⟩
        rw [show sameB L (l ++ enc u) = true by rw [HL.out]; simp [sameB]]
        go_wp2_with (first | (go_at_call 14; refine (zig_any _ _).mono ?_; rintro e w' ⟨rfl, rfl⟩) | (go_at_call 16; refine (zag_any _ _).mono ?_; rintro e w' ⟨rfl, rfl⟩) | (go_at_call 25; refine (rzig_any _ H1.out _).mono ?_; rintro e w' ⟨rfl, rfl⟩) | (go_at_call 26; refine (rzag_any _ HU.out _).mono ?_; rintro e w' ⟨rfl, rfl⟩))
        go_ret
        exact ⟨rfl, hb15.trans (hb6.mono hb15.size)⟩
      · simp only [takeVal]
        go_wp2_with fail
        refine (rtake_any A4 _ c4 _ l _ ((HR.out.below hb1).more hb1.size) HBY.out (by omega)).mono ?_
        rw [← HO.out]
        rintro e w3 ⟨rfl, rfl⟩
        go_wp2_with fail
        refine (put_is L A4 _ c4 u l _ HL.out ((HR.out.below hb1).more hb1.size) (by omega) HU.out).mono ?_
        rintro e w2 ⟨B, d, rfl, ho2, hrd2, hb2⟩
        have HR2 := Lib.hid hrd2
        have hb12 := hb1.trans (hb2.mono hb1.size)
        clear ho2 hrd2
        go_wp2_with fail
        refine (bytes_any A4 _ c4 l _ ((HR.out.below hb12).more hb12.size) (by omega)).mono ?_
        rintro e w3 ⟨B3, d3, rfl, ho3, hb3⟩
        have HO3 := Lib.hid ho3
        have hb13 := hb12.trans (hb3.mono hb12.size)
        clear ho3
        go_wp2_with fail
        refine (rput_any u _ HU.out).mono ?_
        rintro e w4 ⟨B4, d4, rfl, ho4, hrd4, hb4⟩
        have HR4 := Lib.hid hrd4
        have hb14 := hb13.trans (hb4.mono hb13.size)
        clear ho4 hrd4
        go_wp2_with (at_builtin; go_must (refine wpList_append_any _ rfl (.tmp 132) (.tmp 134) _ rfl w2.heap.size 5 i0 _ 1 1 Try.underlying29 hi0 hz0 hz1 hz2 rfl (by omega) (.slice B3 l.length d3) l.length (l.map bv) rfl (own_below HO3.out hb4) w4.heap.size B4 (enc u).length d4 ((enc u).map bv) rfl HR4.out (bvs_one _) (by unfold maxLen; omega) (by omega) (by have := hb3.size; have := hb4.size; omega) ?_); intro v5 w5 hown5 hg5 hat5)
        have hb24 : Below w2.heap.size w2 w4 := hb3.trans (hb4.mono hb3.size)
        have hb25 : Below w2.heap.size w2 w5 := hb24.grown hg5 hb24.size (fun k hk => own_ge HO3.out hk)
        have hb15 := hb12.trans (hb25.mono hb12.size)
        obtain ⟨A5, d5, rfl, hr5⟩ := own_reads hown5
        refine (same_any _ _ _ _ _ _ L (l ++ enc u) _ ((HR2.out.below hb25).more hb25.size) (by simpa using hr5) (by omega)).mono ?_
        rintro e w6 ⟨rfl, hb6⟩
        rw [show sameB L (l ++ enc u) = true by rw [HL.out]; simp [sameB]]
        go_wp2_with (first | (go_at_call 14; refine (zig_any _ _).mono ?_; rintro e w' ⟨rfl, rfl⟩) | (go_at_call 16; refine (zag_any _ _).mono ?_; rintro e w' ⟨rfl, rfl⟩) | (go_at_call 25; refine (rzig_any _ H1.out _).mono ?_; rintro e w' ⟨rfl, rfl⟩) | (go_at_call 26; refine (rzag_any _ HU.out _).mono ?_; rintro e w' ⟨rfl, rfl⟩))
        go_ret
        exact ⟨rfl, hb15.trans (hb6.mono hb15.size)⟩

set_option maxRecDepth 100000 in
theorem lifted (os : Os) (started : os.Started) (H : Type) (enc : TypeId × Value → H) :
    ReturnsInHanded {} Try.checked os 9 .any (Rows.wordSaysSpec.pre6 enc Try.prog Try.f9 Rows.wordSaysRow.domain false) (Rows.wordSaysSpec.post enc Try.prog Try.f9 false true false false) := by
  refine returnsInHanded_of_change (C := Try.checked) own started (by kernel_rfl) Try.func9
    (ChangeSpec.witness6 (enc := enc) (C := Try.checked) false ⟨#[], #[.int .i64 0, .int .i64 0, .int .i64 0, .int .u64 0, .slice none 0 0, .int .i64 0], []⟩ 8 (by kernel_rfl) (by kernel_rfl) (by kernel_rfl) (by kernel_rfl)) ?_
  intro W base args ds gs before hval0 hW hcnd _
  have hval : ∀ (j : Nat) t v, Try.f9.params[j]? = some t → args[j]? = some v → Value.okWide Try.prog W .any base t v := hval0
  have hW' := hW
  obtain ⟨p, q, hA0, hV, rfl, hfz, hnd⟩ := hW
  have hA : DataW.TrodAll enc Try.prog W 0 (fun _ => true) true Try.f9.params.toList args.toList ds p := hA0
  rw [Try.params9] at hA hval
  obtain ⟨v0, vs0, d0, ds0, p0, q0, hargs, rfl, rfl, h0, r0⟩ := trodAll_cons hA
  obtain ⟨v1, vs1, d1, ds1, p1, q1, rfl, rfl, rfl, h1, r1⟩ := trodAll_cons r0
  obtain ⟨v2, vs2, d2, ds2, p2, q2, rfl, rfl, rfl, h2, r2⟩ := trodAll_cons r1
  obtain ⟨v3, vs3, d3, ds3, p3, q3, rfl, rfl, rfl, h3, r3⟩ := trodAll_cons r2
  obtain ⟨v4, vs4, d4, ds4, p4, q4, rfl, rfl, rfl, h4, r4⟩ := trodAll_cons r3
  obtain ⟨v5, vs5, d5, ds5, p5, q5, rfl, rfl, rfl, h5, r5⟩ := trodAll_cons r4
  obtain ⟨rfl, rfl, rfl⟩ := trodAll_nil r5
  obtain rfl : args = #[v0, v1, v2, v3, v4, v5] := by cases args; simp_all
  obtain ⟨rfl, rfl⟩ := trodVars_none hV
  obtain ⟨a0, rfl, rfl, rfl, w0⟩ := open_int Try.underlying3 (hval 0 3 v0 rfl rfl) h0
  obtain ⟨a1, rfl, rfl, rfl, w1⟩ := open_int Try.underlying2 (hval 1 2 v1 rfl rfl) h1
  obtain ⟨a2, rfl, rfl, rfl, w2⟩ := open_int Try.underlying2 (hval 2 2 v2 rfl rfl) h2
  obtain ⟨a3, rfl, rfl, rfl, w3⟩ := open_int Try.underlying27 (hval 3 27 v3 rfl rfl) h3
  obtain ⟨A4, n4, c4, z4, rfl, hc4, hn4, hl4, hr4, hw4⟩ := open_row_ints Try.underlying29 Try.underlying5 (by kernel_rfl) (hval 4 29 v4 rfl rfl) h4
  obtain ⟨a5, rfl, rfl, rfl, w5⟩ := open_int Try.underlying3 (hval 5 3 v5 rfl rfl) h5
  clear hA0 hval0
  refine (walk W a0 w0 a1 w1 a2 w2 a3 w3 A4 n4 c4 z4 hc4 hn4 hl4 hr4 hw4 a5 w5).mono fun e W' ⟨he, hg⟩ => ?_
  subst he
  exact ⟨_, rfl, post_law kids full (by rw [Try.params9]; decide +kernel) rfl hW' rfl rfl rfl hg (by kernel_rfl) Try.underlying4⟩

theorem over : Rows.wordSaysRow.holds Try.pinned (OpenSpec.ofChange Rows.wordSaysSpec) :=
  OpenClaim.holds_of_wide 9 Try.f9 rfl rfl rfl rfl rfl rfl rfl ⟨rfl, rfl, rfl, rfl, rfl⟩ rfl rfl rfl rfl rfl (by kernel_rfl) Try.func9 (by kernel_rfl)
    (of_decide_eq_true (by kernel_rfl)) (by unfold Func.isWrapper; first | (rw [if_pos (by decide +kernel)]; kernel_rfl) | (rw [if_neg (by decide +kernel)]; exact ⟨rfl, rfl⟩))
    (fun os started H enc _ => lifted os started H enc)

theorem proved : Rows.WordSaysSaid :=
  over
#print axioms proved
end Go.Proofs.Ytomabogjoampnaa.wordSays
