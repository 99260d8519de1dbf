/- ScriptRises, the card: for every input the call returns true and each argument reads afterwards as it read before; no further conditions. -/
import Derived.Test.YtomabogjoampnaaDoorRisesP
import Derived.Test.YtomabogjoampnaaDoorDoor
import Derived.Test.YtomabogjoampnaaDoorCards
import Derived.Test.YtomabogjoampnaaDoorTie
namespace Go.Proofs.YtomabogjoampnaaDoor.scriptRises
open Go.RowKit Go.ChangeShapes Go.WideShapes Go.ChangeAt
set_option linter.unusedVariables false

theorem own : ownKnob Tryd.prog.godebug = none := by kernel_rfl
theorem kids : Kids Tryd.prog (· < Tryd.prog.types.size) := kids_rows (by kernel_rfl) (by kernel_rfl)
theorem full : ∀ t e, t < Tryd.prog.types.size → Tryd.prog.underlying t = some (.slice e) → 0 < Tryd.prog.cellsOf e := slices_full_of Tryd.prog (by kernel_rfl)

def RiseRel (w : World) (n : Nat) (sl sa sb si : Value) (wr : World) : Prop :=
  ∃ (k : Nat) (L : List Pk) (a bad : Int), k ≤ n ∧ si = .int .i64 (k : Int) ∧ sa = .int .i64 a ∧ sb = .int .i64 bad ∧ wr.ownsRow w.heap.size 26 4 sl k (pks L) ∧ RS L k a bad ∧ Below w.heap.size w wr
set_option maxRecDepth 100000 in
set_option maxHeartbeats 1000000 in
theorem walk (w : World) (ads : List Addr) (e1 : ads.length = lst14.length) (e2 : ads.Nodup) (e3 : ∀ (i : Nat) x a g, lst14[i]? = some x → ads[i]? = some a → Tryd.prog.globalNamed x.1 = some g → SentAt w g a) (A0 : Option Addr) (n0 c0 : Nat) (z0 : List Int) (hc0 : n0 ≤ c0) (hn0 : c0 ≤ maxLen) (hl0 : z0.length = n0) (hr0 : Reads w w.heap.size 1 A0 n0 (z0.map (Value.int .i64))) (hw0 : ∀ z ∈ z0, (Lit.int .i64 z).wf = true) (a1 : Int) (w1 : (Lit.int .i64 a1).wf = true) :
    Calls Tryd.prog 3 #[.slice A0 n0 c0, .int .i64 a1] w fun e w' => e = .returned (.bool true) ∧ Below w.heap.size w w' := by
  have hE := errs_of e1 e2 e3
  obtain ⟨ad, had⟩ : ∃ ad : Nat → Addr, ad = fun i => ads.getD i ⟨0, 0, none⟩ := ⟨_, rfl⟩
  rw [← had] at hE
  have HE := Lib.hid hE
  have HR := Lib.hid hr0
  have HZ := Lib.hid hl0
  clear e1 e2 e3 hE had hr0 hl0 hw0 w1
  obtain ⟨i0, hi0, hz0, hz1, hz2⟩ := info_parts pick_info
  by_cases h50 : 50 < n0
  · have t50 : decide (50 < n0) = true := by simpa using h50
    go_enter Tryd.func3, Tryd.ntmps3
    go_wp2_with fail
    refine (first_any _ _ _ _ HE.out.e3).mono ?_
    rintro e w1 ⟨rfl, hb1⟩
    go_wp2
    go_ret
    exact ⟨rfl, hb1⟩
  have t50 : decide (50 < n0) = false := by simpa using h50
  go_enter Tryd.func3, Tryd.ntmps3
  go_wp2_with fail
  refine (first_any _ _ _ _ HE.out.e3).mono ?_
  rintro e w1 ⟨rfl, hb1⟩
  go_wp2
  go_loopw [6, 7, 8, 9] (fun sl sa sb si wr => RiseRel w n0 sl sa sb si wr) (fun _ _ _ si _ => n0 - (intOf si).toNat)
  case atStart => exact ⟨0, [], 100, -1, Nat.zero_le _, rfl, rfl, rfl, ⟨rfl, .inl ⟨rfl, rfl⟩⟩, rs_start, hb1⟩
  case round =>
    obtain ⟨k, L, a, bad, hkn, rfl, rfl, rfl, hown, hrs, hbr⟩ := hrel
    have HRS := Lib.hid hrs
    clear hrs
    by_cases hlt : k < n0
    · obtain ⟨p, v, rfl, hp, hv, hcell⟩ := (HR.out.below hbr).at_ (k := k) hlt
      rw [List.getElem?_map] at hv
      obtain ⟨x, hx, rfl⟩ := Option.map_eq_some_iff.1 hv
      clear hv hx
      have ht := tmod50 x
      obtain ⟨s, hs⟩ : ∃ s, x.tmod 50 = s := ⟨_, rfl⟩
      rw [hs] at ht
      obtain ⟨q, hqe⟩ : ∃ q, bits .and .i64 (k : Int) 1 = q := ⟨_, rfl⟩
      have hq : q = 0 ∨ q = 1 := by rw [i64_and1] at hqe; omega
      have hq0 : 0 ≤ q := by omega
      have hq1 : q ≤ 1 := by omega
      have ha0 := HRS.out.lo
      have ha1 := HRS.out.hi
      by_cases hneg : a + s < 0
      · have tneg : decide (a + s < 0) = true := by simpa using hneg
        obtain ⟨p, hpp⟩ : ∃ p : Pk, p = ⟨0, 1 + q, 0, 0⟩ := ⟨_, rfl⟩
        have HPP := Lib.hid hpp
        clear hpp
        go_wp2_with (at_builtin
                     go_must (refine wpList_append_any _ rfl (.tmp 37) (.tmp 43) _ rfl w.heap.size 26 i0 _ 4 32 Tryd.underlying24 hi0 hz0 hz1 hz2 rfl (by omega) u6 k (pks L) rfl (hown.alloc _) _ (some ⟨wr.heap.size, 0, none⟩) 1 1 (pkc p) rfl (by rw [HPP.out]; exact reads_newS _ _ _ 4 1 _ rfl rfl) (pkc_one _) (by unfold maxLen; omega) (by omega) (by have := hbr.size; simp; omega) ?_)
                     intro v2 w2 hown2 hg2 hat2)
        have hbw : Below w.heap.size w w2 := (hbr.alloc hbr.size _).grown hg2 (by have := hbr.size; simp; omega) (fun k hk => own_ge hown hk)
        clear hg2 hat2
        rw [← pks_snoc] at hown2
        have HOWN := Lib.hid hown2
        obtain ⟨A2, c2, rfl, hr2⟩ := own_reads hown2
        clear hown2
        have HR2 := Lib.hid hr2
        clear hr2
        by_cases hk0 : k = 0
        · have tk : decide ((k : Int) > 0) = false := by simp; omega
          have tk' : decide (0 < k) = false := by simp; omega
          go_quiet (fail)
          go_wp2
          go_roundw
          case rel => exact ⟨k + 1, L ++ [p], 0, bad, by omega, by go_num, rfl, rfl, HOWN.out, by rw [HPP.out]; exact rs_next HRS.out (by omega) _ q (by omega) (by omega) hq bad (by rw [if_neg (by omega)]), below_drewN hbw _⟩
          case measure => simp [intOf]; omega
        · obtain ⟨j, rfl⟩ : ∃ j, k = j + 1 := ⟨k - 1, by omega⟩
          have hlen : (L ++ [p]).length = j + 1 + 1 := by have := HRS.out.len; simp; omega
          obtain ⟨qq, hq1, hq2⟩ := HRS.out.lst (by omega)
          obtain ⟨a2, rfl, ha2, k0, _, _, _⟩ := HR2.out.pick' (k := j + 1) (q := p) (by simpa using hlen) (by have := HRS.out.len; rw [← this]; simp)
          obtain ⟨_, e2, _, k1, _, _, _⟩ := HR2.out.pick' (k := j) (q := qq) (by simpa using hlen) (by have := HRS.out.len; rw [List.getElem?_append_left (by omega)]; exact hq1)
          obtain rfl := Option.some.inj e2
          rw [HPP.out] at k0
          rw [hq2] at k1
          clear hq1 hq2 e2 hlen
          by_cases hc : 0 < a
          · have tc : decide (0 < a) = true := by simpa using hc
            by_cases hbad : bad < 0
            · have tb : decide (bad < 0) = true := by simpa using hbad
              go_quiet (fail)
              go_wp2
              go_roundw
              case rel => exact ⟨j + 2, L ++ [p], 0, j + 1, by omega, by go_num, rfl, by go_num, HOWN.out, by rw [HPP.out]; exact rs_next HRS.out (by omega) _ q (by omega) (by omega) hq _ (by rw [if_pos ⟨by omega, hc, hbad⟩]; go_num), below_drewN hbw _⟩
              case measure => simp [intOf]; omega
            · have tb : decide (bad < 0) = false := by simpa using hbad
              go_quiet (fail)
              go_wp2
              go_roundw
              case rel => exact ⟨j + 2, L ++ [p], 0, bad, by omega, by go_num, rfl, rfl, HOWN.out, by rw [HPP.out]; exact rs_next HRS.out (by omega) _ q (by omega) (by omega) hq _ (by rw [if_neg (by omega)]), below_drewN hbw _⟩
              case measure => simp [intOf]; omega
          · have tc : decide (0 < a) = false := by simpa using hc
            go_quiet (fail)
            go_wp2
            go_roundw
            case rel => exact ⟨j + 2, L ++ [p], 0, bad, by omega, by go_num, rfl, rfl, HOWN.out, by rw [HPP.out]; exact rs_next HRS.out (by omega) _ q (by omega) (by omega) hq _ (by rw [if_neg (by omega)]), below_drewN hbw _⟩
            case measure => simp [intOf]; omega
      · have tneg : decide (a + s < 0) = false := by simpa using hneg
        obtain ⟨p, hpp⟩ : ∃ p : Pk, p = ⟨(a + s), 1 + q, 0, 0⟩ := ⟨_, rfl⟩
        have HPP := Lib.hid hpp
        clear hpp
        go_wp2_with (at_builtin
                     go_must (refine wpList_append_any _ rfl (.tmp 37) (.tmp 43) _ rfl w.heap.size 26 i0 _ 4 32 Tryd.underlying24 hi0 hz0 hz1 hz2 rfl (by omega) u6 k (pks L) rfl (hown.alloc _) _ (some ⟨wr.heap.size, 0, none⟩) 1 1 (pkc p) rfl (by rw [HPP.out]; exact reads_newS _ _ _ 4 1 _ rfl rfl) (pkc_one _) (by unfold maxLen; omega) (by omega) (by have := hbr.size; simp; omega) ?_)
                     intro v2 w2 hown2 hg2 hat2)
        have hbw : Below w.heap.size w w2 := (hbr.alloc hbr.size _).grown hg2 (by have := hbr.size; simp; omega) (fun k hk => own_ge hown hk)
        clear hg2 hat2
        rw [← pks_snoc] at hown2
        have HOWN := Lib.hid hown2
        obtain ⟨A2, c2, rfl, hr2⟩ := own_reads hown2
        clear hown2
        have HR2 := Lib.hid hr2
        clear hr2
        by_cases hk0 : k = 0
        · have tk : decide ((k : Int) > 0) = false := by simp; omega
          have tk' : decide (0 < k) = false := by simp; omega
          go_quiet (fail)
          go_wp2
          go_roundw
          case rel => exact ⟨k + 1, L ++ [p], (a + s), bad, by omega, by go_num, rfl, rfl, HOWN.out, by rw [HPP.out]; exact rs_next HRS.out (by omega) _ q (by omega) (by omega) hq bad (by rw [if_neg (by omega)]), below_drewN hbw _⟩
          case measure => simp [intOf]; omega
        · obtain ⟨j, rfl⟩ : ∃ j, k = j + 1 := ⟨k - 1, by omega⟩
          have hlen : (L ++ [p]).length = j + 1 + 1 := by have := HRS.out.len; simp; omega
          obtain ⟨qq, hq1, hq2⟩ := HRS.out.lst (by omega)
          obtain ⟨a2, rfl, ha2, k0, _, _, _⟩ := HR2.out.pick' (k := j + 1) (q := p) (by simpa using hlen) (by have := HRS.out.len; rw [← this]; simp)
          obtain ⟨_, e2, _, k1, _, _, _⟩ := HR2.out.pick' (k := j) (q := qq) (by simpa using hlen) (by have := HRS.out.len; rw [List.getElem?_append_left (by omega)]; exact hq1)
          obtain rfl := Option.some.inj e2
          rw [HPP.out] at k0
          rw [hq2] at k1
          clear hq1 hq2 e2 hlen
          by_cases hc : (a + s) < a
          · have tc : decide ((a + s) < a) = true := by simpa using hc
            by_cases hbad : bad < 0
            · have tb : decide (bad < 0) = true := by simpa using hbad
              go_quiet (fail)
              go_wp2
              go_roundw
              case rel => exact ⟨j + 2, L ++ [p], (a + s), j + 1, by omega, by go_num, rfl, by go_num, HOWN.out, by rw [HPP.out]; exact rs_next HRS.out (by omega) _ q (by omega) (by omega) hq _ (by rw [if_pos ⟨by omega, hc, hbad⟩]; go_num), below_drewN hbw _⟩
              case measure => simp [intOf]; omega
            · have tb : decide (bad < 0) = false := by simpa using hbad
              go_quiet (fail)
              go_wp2
              go_roundw
              case rel => exact ⟨j + 2, L ++ [p], (a + s), bad, by omega, by go_num, rfl, rfl, HOWN.out, by rw [HPP.out]; exact rs_next HRS.out (by omega) _ q (by omega) (by omega) hq _ (by rw [if_neg (by omega)]), below_drewN hbw _⟩
              case measure => simp [intOf]; omega
          · have tc : decide ((a + s) < a) = false := by simpa using hc
            go_quiet (fail)
            go_wp2
            go_roundw
            case rel => exact ⟨j + 2, L ++ [p], (a + s), bad, by omega, by go_num, rfl, rfl, HOWN.out, by rw [HPP.out]; exact rs_next HRS.out (by omega) _ q (by omega) (by omega) hq _ (by rw [if_neg (by omega)]), below_drewN hbw _⟩
            case measure => simp [intOf]; omega
    · obtain ⟨A, c, rfl, hrL⟩ := own_reads hown
      have HRL := Lib.hid hrL
      clear hrL hown
      have hk50 : k ≤ 50 := by omega
      obtain ⟨q7, hq7⟩ : ∃ q7 : Nat, bits .and .i64 a1 7 = (q7 : Int) := ⟨(a1 % 8).toNat, by rw [i64_and7]; omega⟩
      have hq7' : q7 ≤ 7 := by rw [i64_and7] at hq7; omega
      obtain ⟨N, hN0⟩ : ∃ N, N = 397 + q7 := ⟨_, rfl⟩
      have HN0 := Lib.hid hN0
      clear hN0
      have HEr := Lib.hid (HE.out.below hbr).e3
      go_wp2_with fail
      go_must (refine (mayL_in A k c L (ad 1) (ad 2) (ad 4) _ HRL.out HRS.out.len (by omega) HEr.out.hg HEr.out.hk HEr.out.hi HEr.out.hs).mono ?_)
      rintro e w2 ⟨hb2, he⟩
      have HB2 : Hid (Below w.heap.size w w2) := Lib.hid (hbr.trans (hb2.mono hbr.size))
      clear hb2
      rcases HRS.out.may with ⟨hbd, hm⟩ | ⟨j, hbd, hj, hm⟩
      · rw [hm] at he
        replace he : e = .returned .nilIface := he
        subst he
        subst hbd
        clear hm
        by_cases hN : 400 < N
        · have tN : decide ((400 : Int) < 397 + (q7 : Int)) = true := by have := HN0.out; simp; omega
          have HN := Lib.hid hN
          clear hN
          go_wp2_with (at_make
                       go_must (refine wpList_make_full _ rfl (.tmp 88) (.tmp 88) _ rfl w.heap.size 26 i0 _ 4 Tryd.underlying24 hi0 hz0 hz1 _ _ _ _ N rfl rfl (by have := HN0.out; omega) (by have := HN0.out; omega) (by have := HN0.out; rw [hz2]; omega) (by have := HN0.out; unfold maxLen; omega) HB2.out.size ?_)
                       intro w4 hown4 hg4)
          have HB4 : Hid (Below w.heap.size w w4) := Lib.hid (HB2.out.grown hg4 HB2.out.size (fun k h => by cases h))
          clear hg4 hown4
          go_must (refine (mayL_many _ N N (eV (ad 0)) _ HN.out ((HE.out.below HB4.out).cell 0 (by decide))).mono ?_)
          rintro e w5 ⟨rfl, rfl⟩
          unfold eV
          go_wp2_with fail
          go_must (refine (Is_any _ _ 101 101 [] _ (by exact faulty_leaf ad 0 (by decide) _ (HE.out.below HB4.out)) (by decide)).mono ?_)
          rintro e w6 ⟨rfl, hb6⟩
          go_wp2
          go_ret
          exact ⟨rfl, HB4.out.trans (hb6.mono HB4.out.size)⟩
        · have tN : decide ((400 : Int) < 397 + (q7 : Int)) = false := by have := HN0.out; simp; omega
          have HN := Lib.hid hN
          clear hN
          go_wp2_with (at_make
                       go_must (refine wpList_make_full _ rfl (.tmp 88) (.tmp 88) _ rfl w.heap.size 26 i0 _ 4 Tryd.underlying24 hi0 hz0 hz1 _ _ _ _ N rfl rfl (by have := HN0.out; omega) (by have := HN0.out; omega) (by have := HN0.out; rw [hz2]; omega) (by have := HN0.out; unfold maxLen; omega) HB2.out.size ?_)
                       intro w4 hown4 hg4)
          have HB4 : Hid (Below w.heap.size w w4) := Lib.hid (HB2.out.grown hg4 HB2.out.size (fun k h => by cases h))
          have HR4 := Lib.hid (Reads.of_own hown4)
          clear hg4 hown4
          have hE4 := (HE.out.below HB4.out).e3
          have HE4 := Lib.hid hE4
          clear hE4
          go_must (refine (mayL_in _ N N (List.replicate N ⟨0, 0, 0, 0⟩) (ad 1) (ad 2) (ad 4) _ (by rw [← made_zeros]; exact HR4.out) (by simp) (by have := HN.out; omega) HE4.out.hg HE4.out.hk HE4.out.hi HE4.out.hs).mono ?_)
          rintro e w5 ⟨hb5, he⟩
          rw [mayF_zeros N (by have := HN0.out; omega)] at he
          obtain ⟨b, rfl, hbb, hblk⟩ := he
          have HB5 : Hid (Below w.heap.size w w5) := Lib.hid (HB4.out.trans (hb5.mono HB4.out.size))
          have HK5 := Lib.hid hblk
          clear hblk hb5
          go_wp2_with fail
          go_must (refine (placed_any 102 0 _ (by decide)).mono ?_)
          rintro e w6 ⟨b6, rfl, hge6, hk6, hb6⟩
          have HB6 : Hid (Below w.heap.size w w6) := Lib.hid (HB5.out.trans (hb6.mono HB5.out.size))
          have HK6 := Lib.hid hk6
          have HK56 := Lib.hid (HK5.out.below hb6 HK5.out.lt)
          clear hk6 hb6
          unfold fV
          go_wp2_with fail
          go_must (refine (Same_any _ _ 102 102 [0] [0] _ 1 1 _ (by exact faulty_at ad 1 (by decide) b 0 _ (HE.out.below HB6.out) HK56.out) (by exact reads_blk1 HK6.out) (by decide)).mono ?_)
          rintro e w7 ⟨rfl, hb7⟩
          go_wp2
          go_ret
          exact ⟨rfl, HB6.out.trans (hb7.mono HB6.out.size)⟩
      · rw [hm] at he
        obtain ⟨b, rfl, hbb, hblk⟩ := he
        have HK2 := Lib.hid hblk
        subst hbd
        clear hm hblk
        have tj : decide ((j : Int) < 0) = false := by simp
        have tj' : decide ((j : Int) ≥ 0) = true := by simp
        go_wp2_with fail
        go_must (refine (placed_any 105 j _ (by decide)).mono ?_)
        rintro e w3 ⟨b3, rfl, hge3, hk3, hb3⟩
        have HB3 : Hid (Below w.heap.size w w3) := Lib.hid (HB2.out.trans (hb3.mono HB2.out.size))
        have HK3 := Lib.hid hk3
        have HK23 := Lib.hid (HK2.out.below hb3 HK2.out.lt)
        clear hk3 hb3
        unfold fV
        go_wp2_with fail
        go_must (refine (Same_any _ _ 105 105 [(j : Int)] [(j : Int)] _ 1 1 _ (by exact faulty_at ad 4 (by decide) b j _ (HE.out.below HB3.out) HK23.out) (by exact reads_blk1 HK3.out) (by simp)).mono ?_)
        rintro e w3a ⟨rfl, hb3a⟩
        have HB3a : Hid (Below w.heap.size w w3a) := Lib.hid (HB3.out.trans (hb3a.mono HB3.out.size))
        rw [show (decide ((105 : Int) = 105) && sameI [(j : Int)] [(j : Int)]) = true by simp [sameI]]
        clear hb3a
        by_cases hN : 400 < N
        · have tN : decide ((400 : Int) < 397 + (q7 : Int)) = true := by have := HN0.out; simp; omega
          have HN := Lib.hid hN
          clear hN
          go_wp2_with (at_make
                       go_must (refine wpList_make_full _ rfl (.tmp 88) (.tmp 88) _ rfl w.heap.size 26 i0 _ 4 Tryd.underlying24 hi0 hz0 hz1 _ _ _ _ N rfl rfl (by have := HN0.out; omega) (by have := HN0.out; omega) (by have := HN0.out; rw [hz2]; omega) (by have := HN0.out; unfold maxLen; omega) HB3a.out.size ?_)
                       intro w4 hown4 hg4)
          have HB4 : Hid (Below w.heap.size w w4) := Lib.hid (HB3a.out.grown hg4 HB3a.out.size (fun k h => by cases h))
          clear hg4 hown4
          go_must (refine (mayL_many _ N N (eV (ad 0)) _ HN.out ((HE.out.below HB4.out).cell 0 (by decide))).mono ?_)
          rintro e w5 ⟨rfl, rfl⟩
          unfold eV
          go_wp2_with fail
          go_must (refine (Is_any _ _ 101 101 [] _ (by exact faulty_leaf ad 0 (by decide) _ (HE.out.below HB4.out)) (by decide)).mono ?_)
          rintro e w6 ⟨rfl, hb6⟩
          go_wp2
          go_ret
          exact ⟨rfl, HB4.out.trans (hb6.mono HB4.out.size)⟩
        · have tN : decide ((400 : Int) < 397 + (q7 : Int)) = false := by have := HN0.out; simp; omega
          have HN := Lib.hid hN
          clear hN
          go_wp2_with (at_make
                       go_must (refine wpList_make_full _ rfl (.tmp 88) (.tmp 88) _ rfl w.heap.size 26 i0 _ 4 Tryd.underlying24 hi0 hz0 hz1 _ _ _ _ N rfl rfl (by have := HN0.out; omega) (by have := HN0.out; omega) (by have := HN0.out; rw [hz2]; omega) (by have := HN0.out; unfold maxLen; omega) HB3a.out.size ?_)
                       intro w4 hown4 hg4)
          have HB4 : Hid (Below w.heap.size w w4) := Lib.hid (HB3a.out.grown hg4 HB3a.out.size (fun k h => by cases h))
          have HR4 := Lib.hid (Reads.of_own hown4)
          clear hg4 hown4
          have hE4 := (HE.out.below HB4.out).e3
          have HE4 := Lib.hid hE4
          clear hE4
          go_must (refine (mayL_in _ N N (List.replicate N ⟨0, 0, 0, 0⟩) (ad 1) (ad 2) (ad 4) _ (by rw [← made_zeros]; exact HR4.out) (by simp) (by have := HN.out; omega) HE4.out.hg HE4.out.hk HE4.out.hi HE4.out.hs).mono ?_)
          rintro e w5 ⟨hb5, he⟩
          rw [mayF_zeros N (by have := HN0.out; omega)] at he
          obtain ⟨b, rfl, hbb, hblk⟩ := he
          have HB5 : Hid (Below w.heap.size w w5) := Lib.hid (HB4.out.trans (hb5.mono HB4.out.size))
          have HK5 := Lib.hid hblk
          clear hblk hb5
          go_wp2_with fail
          go_must (refine (placed_any 102 0 _ (by decide)).mono ?_)
          rintro e w6 ⟨b6, rfl, hge6, hk6, hb6⟩
          have HB6 : Hid (Below w.heap.size w w6) := Lib.hid (HB5.out.trans (hb6.mono HB5.out.size))
          have HK6 := Lib.hid hk6
          have HK56 := Lib.hid (HK5.out.below hb6 HK5.out.lt)
          clear hk6 hb6
          unfold fV
          go_wp2_with fail
          go_must (refine (Same_any _ _ 102 102 [0] [0] _ 1 1 _ (by exact faulty_at ad 1 (by decide) b 0 _ (HE.out.below HB6.out) HK56.out) (by exact reads_blk1 HK6.out) (by decide)).mono ?_)
          rintro e w7 ⟨rfl, hb7⟩
          go_wp2
          go_ret
          exact ⟨rfl, HB6.out.trans (hb7.mono HB6.out.size)⟩

theorem contract (H : Type) (enc : TypeId × Value → H) (W : World) (base : Nat) (args : Array Value) (ds gs : List (DataW H)) (before : List MemPlace)
    (hval : ∀ (j : Nat) t v, Tryd.f3.params[j]? = some t → args[j]? = some v → Value.okWide Tryd.prog W .any base t v)
    (hW : DataW.Whole enc Tryd.prog Tryd.f3.params.toList Rows.scriptRisesSpec.vars false W args.toList ds gs before) (hL : laidMetH Tryd.prog Rows.scriptRisesRow.laid W) :
    Calls Tryd.prog 3 args W fun e W' => ∃ v, e = .returned v ∧ Rows.scriptRisesSpec.post enc Tryd.prog Tryd.f3 false true false false W args v W' := by
  have hW' := hW
  obtain ⟨p, q, hA0, hV, rfl, hfz, hnd⟩ := hW
  have hA : DataW.TrodAll enc Tryd.prog W 0 (fun _ => true) true Tryd.f3.params.toList args.toList ds p := hA0
  rw [Tryd.params3] at hA hval
  obtain ⟨v0, vs0, d0, ds0, p0, q0, hargs, rfl, rfl, h0, r0⟩ := trodAll_cons hA
  obtain ⟨v1, vs1, d1, ds1, p1, q1, rfl, rfl, rfl, h1, r1⟩ := trodAll_cons r0
  obtain ⟨rfl, rfl, rfl⟩ := trodAll_nil r1
  obtain rfl : args = #[v0, v1] := by cases args; simp_all
  obtain ⟨rfl, rfl⟩ := trodVars_none hV
  obtain ⟨A0, n0, c0, z0, rfl, hc0, hn0, hl0, hr0, hw0⟩ := open_row_ints Tryd.underlying22 Tryd.underlying3 (by kernel_rfl) (hval 0 22 v0 rfl rfl) h0
  obtain ⟨a1, rfl, rfl, rfl, w1⟩ := open_int Tryd.underlying3 (hval 1 3 v1 rfl rfl) h1
  clear hA0
  obtain ⟨ads, e1, e2, e3⟩ := scriptRises_errs hL
  refine (walk W ads e1 e2 e3 A0 n0 c0 z0 hc0 hn0 hl0 hr0 hw0 a1 w1).mono fun e W' ⟨he, hg⟩ => ?_
  subst he
  exact ⟨_, rfl, post_law kids full (by rw [Tryd.params3]; decide +kernel) rfl hW' rfl rfl rfl hg (by kernel_rfl) Tryd.underlying4⟩

theorem reads (os : Os) {H : Type} (enc : TypeId × Value → H) : ∃ places, DataW.whole enc Tryd.prog ((laidWorld os).forCall (fun _ _ => 0) ⟨#[], #[.slice none 0 0, .int .i64 0], []⟩).memory Tryd.f3.params.toList Rows.scriptRisesSpec.vars false #[.slice none 0 0, .int .i64 0].toList 8 = some ([.nil, .lit (.int .i64 0)], [], places) :=
  ⟨[], by kernel_rfl⟩

set_option maxRecDepth 100000 in
theorem lifted (os : Os) (started : os.Started) (H : Type) (enc : TypeId × Value → H) (F : Stop.Interp) :
    ReturnsInHanded {} Tryd.checked os 3 .any ((OpenSpec.ofChange Rows.scriptRisesSpec).preRow enc Tryd.prog Tryd.f3 Rows.scriptRisesRow.domain false Rows.scriptRisesRow.laid) (((OpenSpec.ofChange Rows.scriptRisesSpec).at F).post enc Tryd.prog Tryd.f3 false true false false) := by
  obtain ⟨places, hx⟩ := reads os enc
  refine returnsInHanded_of_row (C := Tryd.checked) (s := OpenSpec.ofChange Rows.scriptRisesSpec) own started (by kernel_rfl) Tryd.func3
    (witness_row_atRef (enc := enc) (C := Tryd.checked) false (laidWorld os) #[.slice none 0 0, .int .i64 0] rfl (by kernel_rfl) (by kernel_rfl) (by kernel_rfl)
      (OpenSpec.preRow_of_cond 8 hx (by kernel_rfl) (fun k hk => by cases hk) (by kernel_rfl) (scriptRises_met os _))) ?_
  intro W base args ds gs before hval hW _ _ _ hL _ _
  exact contract H enc W base args ds gs before hval hW hL

theorem said : Rows.ScriptRisesSaid :=
  OpenClaim.holds_of_cond 3 Tryd.f3 rfl rfl rfl rfl rfl rfl rfl ⟨rfl, rfl, rfl, rfl, rfl⟩ rfl rfl rfl rfl rfl (by kernel_rfl) Tryd.func3 (by kernel_rfl)
    (of_decide_eq_true (by kernel_rfl)) (by unfold Func.isWrapper; first | (rw [if_pos (by decide +kernel)]; kernel_rfl) | (rw [if_neg (by decide +kernel)]; exact ⟨rfl, rfl⟩))
    (fun os started H enc _ F => by rw [OpenClaim.pre_eq_preRow]; exact lifted os started H enc F)

theorem plain (f : FuncId) (fn : Func) (hf : Tryd.pinned.checked.prog.funcNamed "overdrive/overdrivelaw15.ScriptRises" = some f) (hfn : Tryd.pinned.checked.prog.funcs[f]? = some fn) :
    true = Tryd.pinned.checked.prog.looks [] ∧ ∀ (j : Nat) t, fn.params[j]? = some t → Tryd.pinned.checked.prog.wantsStandIn t = false := by
  obtain rfl : f = 3 := Option.some.inj ((show Tryd.prog.funcNamed "overdrive/overdrivelaw15.ScriptRises" = some 3 by kernel_rfl).symm.trans hf) |>.symm
  obtain rfl : fn = Tryd.f3 := (Option.some.inj (Tryd.func3.symm.trans hfn)).symm
  refine ⟨by kernel_rfl, fun j t ht => ?_⟩
  have hm := Array.mem_of_getElem? ht
  have hall : (Tryd.f3.params.toList.all fun t => Tryd.prog.wantsStandIn t == false) = true := by kernel_rfl
  have hw : Tryd.prog.wantsStandIn t = false := by simpa using List.all_eq_true.1 hall t (by simpa using hm)
  exact hw

theorem card : Rows.ScriptRisesCardSaid :=
  Claim7.holds_tied_plain_at .later [] _ _ _ _ said (fun _ h => by cases h) (by kernel_rfl) (fun _ h => by cases h) scriptRises_row_tie rfl ⟨rfl, rfl⟩ (by kernel_rfl) rfl plain (by kernel_rfl)
#print axioms card
end Go.Proofs.YtomabogjoampnaaDoor.scriptRises
