/- ScriptPlays, the card: for every input the call returns true and each argument reads afterwards as it read before; no further conditions. -/
import Derived.Test.YtomabogjoampnaaDoorPlaysP
import Derived.Test.YtomabogjoampnaaDoorDoor
import Derived.Test.YtomabogjoampnaaDoorCards
import Derived.Test.YtomabogjoampnaaDoorTie
namespace Go.Proofs.YtomabogjoampnaaDoor.scriptPlays
open Go.RowKit Go.ChangeShapes Go.WideShapes Go.ChangeAt
set_option linter.unusedVariables false

theorem own : ownKnob Tryd.prog.godebug = none := by kernel_rfl
theorem kids : Kids Tryd.prog (· < Tryd.prog.types.size) := kids_rows (by kernel_rfl) (by kernel_rfl)
theorem full : ∀ t e, t < Tryd.prog.types.size → Tryd.prog.underlying t = some (.slice e) → 0 < Tryd.prog.cellsOf e := slices_full_of Tryd.prog (by kernel_rfl)

def OutRel (w : World) (b n : Nat) (l : List Pk) (sl si : Value) (wr : World) : Prop :=
  ∃ (k : Nat) (q : Int), k ≤ n ∧ si = .int .i64 (k : Int) ∧ sl = .int .i64 q ∧ ScrAt wr b (left q l) q ∧ Below w.heap.size w wr
def WantRel (w2 : World) (l : List Pk) (n : Nat) (p : Int) (sw sj : Value) (wr : World) : Prop :=
  ∃ (j : Nat) (L : List Pk), j ≤ n ∧ sj = .int .i64 (j : Int) ∧ L = (l.take j).filter (fun x => x.at_ == p) ∧ L.length ≤ j ∧ wr.ownsRow w2.heap.size 26 4 sw L.length (pks L) ∧ Below w2.heap.size w2 wr
def CntRel (l : List Pk) (n : Nat) (q : Int) (sc sj : Value) : Prop :=
  ∃ (j m : Nat), j ≤ n ∧ m ≤ j ∧ sj = .int .i64 (j : Int) ∧ sc = .int .i64 (m : Int) ∧ m = ((l.take j).filter (fun x => decide (q < x.at_))).length
def WipeRel (w5 : World) (m : Nat) (A : Option Addr) (B : Nat) (sj : Value) (wr : World) : Prop :=
  ∃ (j : Nat), j ≤ m ∧ sj = .int .i64 (j : Int) ∧ Below B w5 wr ∧ (0 < m → ∃ g cur, A = some ⟨g, 0, none⟩ ∧ Blk wr g 26 cur ∧ m * 4 ≤ cur.size ∧ B ≤ g)
theorem fld0 (cd : Int) (A : Option Addr) (m d : Nat) (w : World) : (Instr.field 32 (.agg #[.int .i64 cd, .slice A m d]) 0).run Tryd.prog w = .ok (.int .i64 cd) w := by kernel_rfl
theorem add0 (g n : Nat) : Addr.add ⟨g, 0, none⟩ n = ⟨g, n, none⟩ := by
  unfold Addr.add
  split
  · rename_i h; rw [h]
  · simp
theorem wipe_start {w4 w5 : World} {base b m c : Nat} {A : Option Addr} {xs : List Value} (h : w4.ownsRow base 26 4 (.slice A m c) m xs) (hb : Below w4.heap.size w4 w5) (hB : b < base) : WipeRel w5 m A (b + 1) (.int .i64 0) w5 := by
  refine ⟨0, Nat.zero_le _, rfl, Below.refl _ _, fun hm => ?_⟩
  rcases h.2 with ⟨_, hn⟩ | ⟨g, cap, cur, hv, hg, hh, h1, h2, h3, h4⟩
  · omega
  · injection hv with e1 _ e3
    have hlt : g < w4.heap.size := Blk.lt (t := 26) (cs := cur) hh
    exact ⟨g, cur, e1, (hb.block g hlt).trans hh, by rw [h3]; exact Nat.mul_le_mul_right 4 h1, by omega⟩
set_option maxRecDepth 100000 in
set_option maxHeartbeats 2000000 in
theorem walk (w : World) (ads : List Addr) (e1 : ads.length = lst4.length) (e2 : ads.Nodup) (e3 : ∀ (i : Nat) x a g, lst4[i]? = some x → ads[i]? = some a → Tryd.prog.globalNamed x.1 = some g → SentAt w g a) (A0 : Option Addr) (n0 c0 : Nat) (z0 : List Pk) (hc0 : n0 ≤ c0) (hn0 : c0 ≤ maxLen) (hl0 : z0.length = n0) (hr0 : Reads w w.heap.size 4 A0 n0 (pks z0)) (A1 : Option Addr) (n1 c1 : Nat) (z1 : List Int) (hc1 : n1 ≤ c1) (hn1 : c1 ≤ maxLen) (hl1 : z1.length = n1) (hr1 : Reads w w.heap.size 1 A1 n1 (z1.map (Value.int .i64))) (hw1 : ∀ z ∈ z1, (Lit.int .i64 z).wf = true) :
    Calls Tryd.prog 5 #[.slice A0 n0 c0, .slice A1 n1 c1] w fun e w' => e = .returned (.bool true) ∧ Below w.heap.size w w' := by
  have hE := e3_of e1 e3
  have HE := Lib.hid hE
  have HR0 := Lib.hid hr0
  have HR1 := Lib.hid hr1
  have HL0 := Lib.hid hl0
  have HL1 := Lib.hid hl1
  clear e1 e2 e3 hE hr0 hr1 hl0 hl1 hw1
  obtain ⟨i0, hi0, hz0, hz1, hz2⟩ := info_parts pick_info
  by_cases h400 : 400 < n0
  · have t4 : decide (400 < n0) = true := by simpa using h400
    go_enter Tryd.func5, Tryd.ntmps5
    go_wp2_with fail
    refine (first_any _ _ _ _ HE.out).mono ?_
    rintro e w1 ⟨rfl, hb1⟩
    go_wp2
    go_ret
    exact ⟨rfl, hb1⟩
  have t4 : decide (400 < n0) = false := by simpa using h400
  by_cases h60 : 60 < n1
  · have t6 : decide (60 < n1) = true := by simpa using h60
    go_enter Tryd.func5, Tryd.ntmps5
    go_wp2_with fail
    refine (first_any _ _ _ _ HE.out).mono ?_
    rintro e w1 ⟨rfl, hb1⟩
    go_wp2
    go_ret
    exact ⟨rfl, hb1⟩
  have t6 : decide (60 < n1) = false := by simpa using h60
  cases hm : mayF 0 0 z0 with
  | some ic =>
    obtain ⟨i, cc⟩ := ic
    have HM := Lib.hid hm
    clear hm
    go_enter Tryd.func5, Tryd.ntmps5
    go_wp2_with fail
    refine (first_any _ _ _ _ HE.out).mono ?_
    rintro e w1 ⟨rfl, hb1⟩
    have HB1 := Lib.hid hb1
    clear hb1
    go_wp2_with fail
    go_must (refine (new_bad A0 n0 c0 z0 _ _ _ _ ((HR0.out.below HB1.out).more HB1.out.size) HL0.out (by omega) (HE.out.below HB1.out) i cc HM.out).mono ?_)
    rintro e w2 ⟨hb2, b2, rfl, _, _⟩
    have HB2 : Hid (Below w.heap.size w w2) := Lib.hid (HB1.out.trans (hb2.mono HB1.out.size))
    clear hb2
    go_wp2_with fail
    go_must (refine (rmay_in A0 n0 c0 z0 _ ((HR0.out.below HB2.out).more HB2.out.size) HL0.out (by omega)).mono ?_)
    rintro e w3 ⟨cd, A3, m3, d3, rfl, hcd, hb3⟩
    unfold fV
    have hfl := fld0
    have tcd : (cd == 0) = false := by
      have : cd ≠ 0 := fun h => by have := hcd.1 h; rw [HM.out] at this; cases this
      simpa using this
    have tcd' : (cd != 0) = true := by rw [bne, tcd]; rfl
    have HB3 : Hid (Below w.heap.size w w3) := Lib.hid (HB2.out.trans (hb3.mono HB2.out.size))
    clear hb3 hcd
    go_wp2
    go_ret
    exact ⟨rfl, HB3.out⟩
  | none =>
    have HM := Lib.hid hm
    have HRS := Lib.hid (mayF_rises z0 0 0 hm)
    clear hm
    go_enter Tryd.func5, Tryd.ntmps5
    go_wp2_with fail
    refine (first_any _ _ _ _ HE.out).mono ?_
    rintro e w1 ⟨rfl, hb1⟩
    have HB1 := Lib.hid hb1
    clear hb1
    go_wp2_with fail
    go_must (refine (new_scr A0 n0 c0 z0 _ _ _ _ ((HR0.out.below HB1.out).more HB1.out.size) HL0.out (by omega) (HE.out.below HB1.out) HM.out).mono ?_)
    rintro e w2 ⟨b, rfl, hbb, hs2, hb2⟩
    have HB2 : Hid (Below w.heap.size w w2) := Lib.hid (HB1.out.trans (hb2.mono HB1.out.size))
    have HSB : Hid (w.heap.size ≤ b ∧ b < w2.heap.size) := Lib.hid ⟨Nat.le_trans HB1.out.size hbb, hs2.lt⟩
    have HS2 := Lib.hid hs2
    clear hb2 hs2 hbb
    go_wp2_with fail
    go_must (refine (rmay_in A0 n0 c0 z0 _ ((HR0.out.below HB2.out).more HB2.out.size) HL0.out (by omega)).mono ?_)
    rintro e w3 ⟨cd, A3, m3, d3, rfl, hcd, hb3⟩
    unfold fV
    have hfl := fld0
    have tcd : cd = 0 := hcd.2 HM.out
    subst tcd
    have HB3 : Hid (Below w.heap.size w w3) := Lib.hid (HB2.out.trans (hb3.mono HB2.out.size))
    have HS3 : Hid (ScrAt w3 b (left (-1) z0) (-1)) := Lib.hid (by rw [left_start z0 HRS.out]; exact HS2.out.below hb3 HSB.out.2)
    clear hb3 hcd
    go_wp2
    go_loopw [8, 9] (fun sl si wr => OutRel w b n1 z0 sl si wr) (fun _ si _ => n1 - (intOf si).toNat)
    case atStart => exact ⟨0, -1, Nat.zero_le _, rfl, rfl, HS3.out, HB3.out⟩
    case round =>
      obtain ⟨k, q, hkn, rfl, rfl, hs, hbr⟩ := hrel
      have HS := Lib.hid hs
      have HBR := Lib.hid hbr
      clear hs hbr
      by_cases hlt : k < n1
      · obtain ⟨ad1, v, rfl, hp, hv, hcell⟩ := (HR1.out.below HBR.out).at_ (k := k) hlt
        rw [List.getElem?_map] at hv
        obtain ⟨p, hx, rfl⟩ := Option.map_eq_some_iff.1 hv
        clear hv hx
        by_cases hpl : p ≤ q
        · have HPL := Lib.hid hpl
          clear hpl
          go_wp2_with fail
          go_must (refine (at_past b _ q p _ HS.out HPL.out).mono ?_)
          rintro e w4 ⟨rfl, rfl⟩
          have tpq : decide (p > q) = false := by have := HPL.out; simp; omega
          have tpq' : decide (q < p) = false := by have := HPL.out; simp; omega
          go_wp2
          go_loop [13, 15] (fun sc sj => CntRel z0 n0 q sc sj) (fun _ sj => n0 - (intOf sj).toNat)
          case atStart => exact ⟨0, 0, Nat.zero_le _, Nat.zero_le _, rfl, rfl, rfl⟩
          case round =>
            obtain ⟨j, m, hjn, hmj, rfl, rfl, hme⟩ := hrel
            have HME := Lib.hid hme
            clear hme
            by_cases hj : j < n0
            · have hjl : j < z0.length := by have := HL0.out; omega
              obtain ⟨ad0, rfl, had0, r0, _, _, _⟩ := (HR0.out.below HBR.out).pick HL0.out hjl
              have HJ : Hid (z0[j]? = some z0[j]) := Lib.hid (List.getElem?_eq_getElem hjl)
              obtain ⟨x, hx⟩ : ∃ x, x = z0[j] := ⟨_, rfl⟩
              rw [← hx] at r0 HJ
              clear hx
              by_cases hgt : q < x.at_
              · have tg : decide (x.at_ > q) = true := by simpa using hgt
                have tg' : decide (q < x.at_) = true := by simpa using hgt
                have HN : Hid (m + 1 = ((z0.take (j + 1)).filter (fun x => decide (q < x.at_))).length) := Lib.hid (by rw [filter_take_succ HJ.out, if_pos tg']; simp [HME.out])
                clear hgt
                go_wp2
                go_roundw
                case rel => exact ⟨j + 1, m + 1, by omega, by omega, by go_num, by go_num, HN.out⟩
                case measure => simp [intOf]; omega
              · have tg : decide (x.at_ > q) = false := by simpa using hgt
                have tg' : decide (q < x.at_) = false := by simpa using hgt
                have HN : Hid (m = ((z0.take (j + 1)).filter (fun x => decide (q < x.at_))).length) := Lib.hid (by rw [filter_take_succ HJ.out, if_neg (by rw [tg']; decide)]; simp [HME.out])
                clear hgt
                go_wp2
                go_roundw
                case rel => exact ⟨j + 1, m, by omega, by omega, by go_num, rfl, HN.out⟩
                case measure => simp [intOf]; omega
            · have HN : Hid (m = (left q z0).length) := Lib.hid (by rw [HME.out, List.take_of_length_le (by have := HL0.out; omega), left_len z0 0 q HRS.out])
              go_wp2_with fail
              go_must (refine (samePs_any none none 0 0 0 0 [] [] _ Reads.none_ rfl Reads.none_ rfl (by omega)).mono ?_)
              rintro e w5 ⟨⟨bb, rfl, hbb⟩, hb5⟩
              obtain rfl : bb = true := hbb.2 rfl
              have HB5 : Hid (Below w.heap.size w w5) := Lib.hid (HBR.out.trans (hb5.mono HBR.out.size))
              have HS5 : Hid (ScrAt w5 b (left q z0) q) := Lib.hid (HS.out.below hb5 HS.out.lt)
              clear hb5 hbb
              go_wp2_with fail
              go_must (refine (left_any b _ q _ HS5.out).mono ?_)
              rintro e w6 ⟨rfl, rfl⟩
              rw [← HN.out]
              go_wp2
              go_loopw [16] (fun sj wr => WipeRel w5 0 none (b + 1) sj wr) (fun sj _ => 0 - (intOf sj).toNat)
              case atStart => exact ⟨0, Nat.le_refl _, rfl, Below.refl _ _, fun h => absurd h (Nat.lt_irrefl _)⟩
              case round =>
                obtain ⟨j4, hj4, rfl, hb7, hg7⟩ := hrel
                have HB7 := Lib.hid hb7
                clear hb7
                by_cases hj5 : j4 < 0
                · exact absurd hj5 (Nat.not_lt_zero _)
                · have HBF : Hid (Below w.heap.size w wr) := Lib.hid (HB5.out.trans (HB7.out.mono (by have := HSB.out.1; omega)))
                  have HSF : Hid (ScrAt wr b (left q z0) q) := Lib.hid (HS5.out.below HB7.out (by omega))
                  go_wp2
                  go_roundw
                  case rel => exact ⟨k + 1, q, by omega, by go_num, rfl, HSF.out, HBF.out⟩
                  case measure => simp [intOf]; omega
        · have HPQ : Hid (q < p) := Lib.hid (by omega)
          have tpq : decide (p > q) = true := by simp; omega
          have tpq' : decide (q < p) = true := by simp; omega
          clear hpl
          go_wp2_with fail
          go_must (refine (at_any b w.heap.size (left q z0) q p _ HS.out HPQ.out HSB.out.1 (by have := left_le z0 q; have := HL0.out; omega)).mono ?_)
          rw [told_left z0 q p HPQ.out, left_left z0 q p (by have := HPQ.out; omega), told_filter z0 0 p HRS.out]
          obtain ⟨G, hG⟩ : ∃ G, G = z0.filter (fun x => x.at_ == p) := ⟨_, rfl⟩
          rw [← hG]
          have HG := Lib.hid hG
          have hGn : G.length ≤ n0 := by have := List.length_filter_le (fun x : Pk => x.at_ == p) z0; rw [hG]; have := HL0.out; omega
          clear hG
          rintro e w4 ⟨GA, gc, rfl, hown4, hs4, hb4⟩
          obtain ⟨gm, hgm⟩ : ∃ m, m = G.length := ⟨_, rfl⟩
          rw [← hgm] at hown4 hGn ⊢
          have HGM := Lib.hid hgm
          have HO4 := Lib.hid hown4
          have HS4 := Lib.hid hs4
          have HB4 : Hid (Below w.heap.size w w4) := Lib.hid (HBR.out.trans hb4)
          have HBS : Hid (b < wr.heap.size) := Lib.hid HS.out.lt
          clear hown4 hs4 hb4 hgm
          go_wp2
          go_loopw [12, 14] (fun sw sj wr => WantRel w4 z0 n0 p sw sj wr) (fun _ sj _ => n0 - (intOf sj).toNat)
          case atStart => exact ⟨0, [], Nat.zero_le _, rfl, by simp, Nat.zero_le _, ⟨rfl, .inl ⟨rfl, rfl⟩⟩, Below.refl _ _⟩
          case round =>
            obtain ⟨j, L, hjn, rfl, hL, hLj, hown, hbi⟩ := hrel
            have HBI := Lib.hid hbi
            have HLL := Lib.hid hL
            have HOW := Lib.hid hown
            have HBV : Hid (Below w.heap.size w wr) := Lib.hid (HB4.out.trans (hbi.mono HB4.out.size))
            have hsz4 := hbi.size
            clear hbi hL hown
            by_cases hj : j < n0
            · have hjl : j < z0.length := by have := HL0.out; omega
              obtain ⟨ad0, rfl, had0, r0, r1, r2, r3⟩ := (HR0.out.below HBV.out).pick HL0.out hjl
              have HJ : Hid (z0[j]? = some z0[j]) := Lib.hid (List.getElem?_eq_getElem hjl)
              obtain ⟨x, hx⟩ : ∃ x, x = z0[j] := ⟨_, rfl⟩
              rw [← hx] at r0 r1 r2 r3 HJ
              clear hx
              by_cases hxp : x.at_ = p
              · have tx : (x.at_ == p) = true := by simpa using hxp
                have HN : Hid (L ++ [x] = (z0.take (j + 1)).filter (fun x => x.at_ == p)) := Lib.hid (by rw [filter_take_succ HJ.out, if_pos tx, HLL.out])
                clear hxp
                go_wp2_with (at_builtin
                             go_must (refine wpList_append_any _ rfl (.tmp 81) (.tmp 86) _ rfl w4.heap.size 26 i0 _ 4 32 Tryd.underlying24 hi0 hz0 hz1 hz2 rfl (by omega) u12 L.length (pks L) rfl (HOW.out.alloc _) _ (some ⟨wr.heap.size, 0, none⟩) 1 1 (pkc x) rfl (by exact reads_newS _ _ _ 4 1 _ rfl rfl) (pkc_one _) (by unfold maxLen; omega) (by omega) (by simp; omega) ?_)
                             intro v2 w2 hown2 hg2 hat2)
                have HW2 : Hid (Below w4.heap.size w4 w2) := Lib.hid ((HBI.out.alloc HBI.out.size _).grown hg2 (by simp; omega) (fun k hk => own_ge HOW.out hk))
                have HO2 := Lib.hid hown2
                clear hown2 hg2 hat2
                go_roundw
                case rel => exact ⟨j + 1, L ++ [x], by omega, by go_num, HN.out, by simp; omega, by rw [pks_snoc, List.length_append]; exact HO2.out, HW2.out⟩
                case measure => simp [intOf]; omega
              · have tx : (x.at_ == p) = false := by simpa using hxp
                have HN : Hid (L = (z0.take (j + 1)).filter (fun x => x.at_ == p)) := Lib.hid (by rw [filter_take_succ HJ.out, if_neg (by rw [tx]; decide), HLL.out]; simp)
                clear hxp
                go_wp2
                go_roundw
                case rel => exact ⟨j + 1, L, by omega, by go_num, HN.out, by omega, HOW.out, HBI.out⟩
                case measure => simp [intOf]; omega
            · have HGL : Hid (G = L) := Lib.hid (by rw [HG.out, HLL.out, List.take_of_length_le (by have := HL0.out; omega)])
              obtain ⟨WA, wc, rfl, hrw⟩ := own_reads HOW.out
              have HRW := Lib.hid hrw
              have HSV : Hid (ScrAt wr b (left p z0) p) := Lib.hid (HS4.out.below HBI.out HS4.out.lt)
              have HGV : Hid (Reads wr wr.heap.size 4 GA gm (pks G)) := Lib.hid (((Reads.of_own HO4.out).below HBI.out).more hsz4)
              clear hrw
              go_wp2
              go_loop [13, 15] (fun sc sj => CntRel z0 n0 p sc sj) (fun _ sj => n0 - (intOf sj).toNat)
              case atStart => exact ⟨0, 0, Nat.zero_le _, Nat.zero_le _, rfl, rfl, rfl⟩
              case round =>
                obtain ⟨j, m, hjn, hmj, rfl, rfl, hme⟩ := hrel
                have HME := Lib.hid hme
                clear hme
                by_cases hj : j < n0
                · have hjl : j < z0.length := by have := HL0.out; omega
                  obtain ⟨ad0, rfl, had0, r0, _, _, _⟩ := (HR0.out.below HBV.out).pick HL0.out hjl
                  have HJ : Hid (z0[j]? = some z0[j]) := Lib.hid (List.getElem?_eq_getElem hjl)
                  obtain ⟨x, hx⟩ : ∃ x, x = z0[j] := ⟨_, rfl⟩
                  rw [← hx] at r0 HJ
                  clear hx
                  by_cases hgt : p < x.at_
                  · have tg : decide (x.at_ > p) = true := by simpa using hgt
                    have tg' : decide (p < x.at_) = true := by simpa using hgt
                    have HN : Hid (m + 1 = ((z0.take (j + 1)).filter (fun x => decide (p < x.at_))).length) := Lib.hid (by rw [filter_take_succ HJ.out, if_pos tg']; simp [HME.out])
                    clear hgt
                    go_wp2
                    go_roundw
                    case rel => exact ⟨j + 1, m + 1, by omega, by omega, by go_num, by go_num, HN.out⟩
                    case measure => simp [intOf]; omega
                  · have tg : decide (x.at_ > p) = false := by simpa using hgt
                    have tg' : decide (p < x.at_) = false := by simpa using hgt
                    have HN : Hid (m = ((z0.take (j + 1)).filter (fun x => decide (p < x.at_))).length) := Lib.hid (by rw [filter_take_succ HJ.out, if_neg (by rw [tg']; decide)]; simp [HME.out])
                    clear hgt
                    go_wp2
                    go_roundw
                    case rel => exact ⟨j + 1, m, by omega, by omega, by go_num, rfl, HN.out⟩
                    case measure => simp [intOf]; omega
                · have HN : Hid (m = (left p z0).length) := Lib.hid (by rw [HME.out, List.take_of_length_le (by have := HL0.out; omega), left_len z0 0 p HRS.out])
                  go_wp2_with fail
                  go_must (refine (samePs_any GA WA gm L.length gc wc G L _ HGV.out HGM.out.symm HRW.out rfl (by omega)).mono ?_)
                  rintro e w5 ⟨⟨bb, rfl, hbb⟩, hb5⟩
                  obtain rfl : bb = true := hbb.2 HGL.out
                  have HB5 : Hid (Below w.heap.size w w5) := Lib.hid (HBV.out.trans (hb5.mono HBV.out.size))
                  have HS5 : Hid (ScrAt w5 b (left p z0) p) := Lib.hid (HSV.out.below hb5 HSV.out.lt)
                  have HW5 : Hid (WipeRel w5 gm GA (b + 1) (.int .i64 0) w5) := Lib.hid (wipe_start HO4.out (HBI.out.trans (hb5.mono hsz4)) HBS.out)
                  clear hb5 hbb
                  go_wp2_with fail
                  go_must (refine (left_any b _ p _ HS5.out).mono ?_)
                  rintro e w6 ⟨rfl, rfl⟩
                  rw [← HN.out]
                  go_wp2
                  go_loopw [16] (fun sj wr => WipeRel w5 gm GA (b + 1) sj wr) (fun sj _ => gm - (intOf sj).toNat)
                  case atStart => exact HW5.out
                  case round =>
                    obtain ⟨j4, hj4, rfl, hb7, hg7⟩ := hrel
                    have HB7 := Lib.hid hb7
                    clear hb7
                    by_cases hj5 : j4 < gm
                    · obtain ⟨g, cur, hA, hk7, hcur, hgb⟩ := hg7 (by omega)
                      have hlt7 : j4 * 4 < cur.size := by omega
                      have k7 : wr.cell? ⟨g, j4 * 4, none⟩ = some cur[j4 * 4] := (hk7.cell (j4 * 4)).trans (Array.getElem?_eq_getElem hlt7)
                      have f7 : wr.frozen? ⟨g, j4 * 4, none⟩ = false := hk7.frozen _
                      have a7 := add0 g (j4 * 4)
                      have HK7 := Lib.hid hk7
                      have HC7 := Lib.hid hcur
                      clear hk7 hcur hg7
                      rw [hA]
                      go_wp2
                      go_roundw
                      case rel => exact ⟨j4 + 1, by omega, by go_num, HB7.out.setCell (p := ⟨g, j4 * 4, none⟩) hgb _, fun _ => ⟨g, _, rfl, HK7.out.set_ _ _, by have := HC7.out; simpa using this, hgb⟩⟩
                      case measure => simp [intOf]; omega
                    · have HBF : Hid (Below w.heap.size w wr) := Lib.hid (HB5.out.trans (HB7.out.mono (by have := HSB.out.1; omega)))
                      have HSF : Hid (ScrAt wr b (left p z0) p) := Lib.hid (HS5.out.below HB7.out (by omega))
                      go_wp2
                      go_roundw
                      case rel => exact ⟨k + 1, p, by omega, by go_num, rfl, HSF.out, HBF.out⟩
                      case measure => simp [intOf]; omega
      · go_wp2
        go_ret
        exact ⟨rfl, HBR.out⟩

theorem contract (H : Type) (enc : TypeId × Value → H) (W : World) (base : Nat) (args : Array Value) (ds gs : List (DataW H)) (before : List MemPlace)
    (hval : ∀ (j : Nat) t v, Tryd.f5.params[j]? = some t → args[j]? = some v → Value.okWide Tryd.prog W .any base t v)
    (hW : DataW.Whole enc Tryd.prog Tryd.f5.params.toList Rows.scriptPlaysSpec.vars false W args.toList ds gs before) (hL : laidMetH Tryd.prog Rows.scriptPlaysRow.laid W) :
    Calls Tryd.prog 5 args W fun e W' => ∃ v, e = .returned v ∧ Rows.scriptPlaysSpec.post enc Tryd.prog Tryd.f5 false true false false W args v W' := by
  have hW' := hW
  obtain ⟨p, q, hA0, hV, rfl, hfz, hnd⟩ := hW
  have hA : DataW.TrodAll enc Tryd.prog W 0 (fun _ => true) true Tryd.f5.params.toList args.toList ds p := hA0
  rw [Tryd.params5] at hA hval
  obtain ⟨v0, vs0, d0, ds0, p0, q0, hargs, rfl, rfl, h0, r0⟩ := trodAll_cons hA
  obtain ⟨v1, vs1, d1, ds1, p1, q1, rfl, rfl, rfl, h1, r1⟩ := trodAll_cons r0
  obtain ⟨rfl, rfl, rfl⟩ := trodAll_nil r1
  obtain rfl : args = #[v0, v1] := by cases args; simp_all
  obtain ⟨rfl, rfl⟩ := trodVars_none hV
  obtain ⟨A0, n0, c0, z0, rfl, hc0, hn0, hl0, hr0⟩ := open_picks (hval 0 24 v0 rfl rfl) h0
  obtain ⟨A1, n1, c1, z1, rfl, hc1, hn1, hl1, hr1, hw1⟩ := open_row_ints Tryd.underlying22 Tryd.underlying3 (by kernel_rfl) (hval 1 22 v1 rfl rfl) h1
  clear hA0
  obtain ⟨ads, e1, e2, e3⟩ := scriptPlays_errs hL
  refine (walk W ads e1 e2 e3 A0 n0 c0 z0 hc0 hn0 hl0 hr0 A1 n1 c1 z1 hc1 hn1 hl1 hr1 hw1).mono fun e W' ⟨he, hg⟩ => ?_
  subst he
  exact ⟨_, rfl, post_law kids full (by rw [Tryd.params5]; decide +kernel) rfl hW' rfl rfl rfl hg (by kernel_rfl) Tryd.underlying4⟩

theorem reads (os : Os) {H : Type} (enc : TypeId × Value → H) : ∃ places, DataW.whole enc Tryd.prog ((laidWorld os).forCall (fun _ _ => 0) ⟨#[], #[.slice none 0 0, .slice none 0 0], []⟩).memory Tryd.f5.params.toList Rows.scriptPlaysSpec.vars false #[.slice none 0 0, .slice none 0 0].toList 8 = some ([.nil, .nil], [], places) :=
  ⟨[], by kernel_rfl⟩

set_option maxRecDepth 100000 in
theorem lifted (os : Os) (started : os.Started) (H : Type) (enc : TypeId × Value → H) (F : Stop.Interp) :
    ReturnsInHanded {} Tryd.checked os 5 .any ((OpenSpec.ofChange Rows.scriptPlaysSpec).preRow enc Tryd.prog Tryd.f5 Rows.scriptPlaysRow.domain false Rows.scriptPlaysRow.laid) (((OpenSpec.ofChange Rows.scriptPlaysSpec).at F).post enc Tryd.prog Tryd.f5 false true false false) := by
  obtain ⟨places, hx⟩ := reads os enc
  refine returnsInHanded_of_row (C := Tryd.checked) (s := OpenSpec.ofChange Rows.scriptPlaysSpec) own started (by kernel_rfl) Tryd.func5
    (witness_row_atRef (enc := enc) (C := Tryd.checked) false (laidWorld os) #[.slice none 0 0, .slice none 0 0] rfl (by kernel_rfl) (by kernel_rfl) (by kernel_rfl)
      (OpenSpec.preRow_of_cond 8 hx (by kernel_rfl) (fun k hk => by cases hk) (by kernel_rfl) (scriptPlays_met os _))) ?_
  intro W base args ds gs before hval hW _ _ _ hL _ _
  exact contract H enc W base args ds gs before hval hW hL

theorem said : Rows.ScriptPlaysSaid :=
  OpenClaim.holds_of_cond 5 Tryd.f5 rfl rfl rfl rfl rfl rfl rfl ⟨rfl, rfl, rfl, rfl, rfl⟩ rfl rfl rfl rfl rfl (by kernel_rfl) Tryd.func5 (by kernel_rfl)
    (of_decide_eq_true (by kernel_rfl)) (by unfold Func.isWrapper; first | (rw [if_pos (by decide +kernel)]; kernel_rfl) | (rw [if_neg (by decide +kernel)]; exact ⟨rfl, rfl⟩))
    (fun os started H enc _ F => by rw [OpenClaim.pre_eq_preRow]; exact lifted os started H enc F)

theorem plain (f : FuncId) (fn : Func) (hf : Tryd.pinned.checked.prog.funcNamed "overdrive/overdrivelaw15.ScriptPlays" = some f) (hfn : Tryd.pinned.checked.prog.funcs[f]? = some fn) :
    true = Tryd.pinned.checked.prog.looks [] ∧ ∀ (j : Nat) t, fn.params[j]? = some t → Tryd.pinned.checked.prog.wantsStandIn t = false := by
  obtain rfl : f = 5 := Option.some.inj ((show Tryd.prog.funcNamed "overdrive/overdrivelaw15.ScriptPlays" = some 5 by kernel_rfl).symm.trans hf) |>.symm
  obtain rfl : fn = Tryd.f5 := (Option.some.inj (Tryd.func5.symm.trans hfn)).symm
  refine ⟨by kernel_rfl, fun j t ht => ?_⟩
  have hm := Array.mem_of_getElem? ht
  have hall : (Tryd.f5.params.toList.all fun t => Tryd.prog.wantsStandIn t == false) = true := by kernel_rfl
  have hw : Tryd.prog.wantsStandIn t = false := by simpa using List.all_eq_true.1 hall t (by simpa using hm)
  exact hw

theorem card : Rows.ScriptPlaysCardSaid :=
  Claim7.holds_tied_plain_at .later [] _ _ _ _ said (fun _ h => by cases h) (by kernel_rfl) (fun _ h => by cases h) scriptPlays_row_tie rfl ⟨rfl, rfl⟩ (by kernel_rfl) rfl plain (by kernel_rfl)
#print axioms card
end Go.Proofs.YtomabogjoampnaaDoor.scriptPlays
