/- BitsPlays, the card: for every input the call returns true and each argument reads afterwards as it read before; no further conditions. -/
import Derived.Test.YtcaoeoggabbekaaDoorPlaysR
import Derived.Test.YtcaoeoggabbekaaDoorTab
import Derived.Test.YtcaoeoggabbekaaDoorCards
import Derived.Test.YtcaoeoggabbekaaDoorTie
namespace Go.Proofs.YtcaoeoggabbekaaDoor.bitsPlays
open Go.RowKit Go.ChangeShapes Go.WideShapes Go.ChangeAt
set_option linter.unusedVariables false

theorem own : ownKnob Tryd.prog.godebug = none := by kernel_rfl
theorem kids : Kids Tryd.prog (· < Tryd.prog.types.size) := kids_rows (by kernel_rfl) (by kernel_rfl)
theorem full : ∀ t e, t < Tryd.prog.types.size → Tryd.prog.underlying t = some (.slice e) → 0 < Tryd.prog.cellsOf e := slices_full_of Tryd.prog (by kernel_rfl)

attribute [local go_sem] Oper.semAt_some
/-- what holds between two rounds -/
def PlRel (w : World) (b g N B13 K : Nat) (stop : Int) (s14 : Value) (wr : World) : Prop :=
  ∃ (k : Nat) (p : Nat → Bool) (A : Option Addr) (c : Nat), k ≤ K ∧ s14 = .int .i64 (k : Int) ∧ SetAt wr b g N p ∧ Boxed wr B13 27 (.slice A (elsI p N).length c) ∧
    wr.ownsRow B13 3 1 (.slice A (elsI p N).length c) (elsI p N).length ((elsI p N).map iv) ∧ Boxed wr (w.heap.size + 1) 4 (.bool false) ∧ Boxed wr w.heap.size 3 (.int .i64 stop) ∧ Below w.heap.size w wr
def JRel (w : World) (N : Nat) (hs lo : List Int) (s21 s22 : Value) (wr : World) : Prop :=
  ∃ q : Nat, q ≤ lo.length ∧ s22 = .int .i64 (q : Int) ∧ wr.ownsRow w.heap.size 3 1 s21 (hs ++ belF N (lo.take q)).length ((hs ++ belF N (lo.take q)).map iv) ∧ Below w.heap.size w wr
/-- behind the switch -/
def SwRel (w w6 : World) (b g N B13 bt gt M ob : Nat) (q : Nat → Bool) (lo : List Int) (Ao : Option Addr) (co : Nat) (stop : Int) (wx : World) : Prop :=
  ∃ (p : Nat → Bool) (L : List Int) (A : Option Addr) (c : Nat), PlSt w b g N B13 bt gt M ob p q L lo A c Ao co stop wx ∧ Tells N p L ∧ w6.heap.size ≤ wx.heap.size
set_option maxRecDepth 100000 in
set_option maxHeartbeats 4000000 in
theorem walk_long (w : World) (hT : TabIn w) (a0 a1 : Int) (A2 : Option Addr) (n2 c2 : Nat) (a3 a4 : Int) (h : 60 < n2 ∨ 5000 < a0 ∨ 5000 < a1) :
    Calls Tryd.prog 5 #[.int .i64 a0, .int .i64 a1, .slice A2 n2 c2, .int .i64 a3, .int .i64 a4] w fun e w' => e = .returned (.bool true) ∧ Below w.heap.size w w' := by
  have HT := Lib.hid hT
  obtain ⟨t, ht⟩ : ∃ t, t = (decide ((60 : Int) < (n2 : Int)) || decide ((5000 : Int) < a0) || decide ((5000 : Int) < a1)) := ⟨_, rfl⟩
  have HTT : Hid (t = true) := Lib.hid (by rw [ht]; simp; omega)
  clear hT ht
  by_cases h0 : 60 < n2
  · have t0 : decide ((60 : Int) < (n2 : Int)) = true := by simp; omega
    clear h h0
    refine (callsIn_wide (n := 9)).1 ?_
    refine callsIn_of_wp_marks Tryd.func5 rfl trivial ?_ rfl
    simp only [Tryd.ntmps5, List.size_toArray, List.length_cons, List.length_nil, Nat.reduceAdd, Nat.reduceSub, Array.replicate_succ, Array.replicate_zero, List.push_toArray, List.append_toArray, List.nil_append, List.cons_append]
    refine wpIn_wide.2 ?_
    go_wp2_with fail
    have bR := Boxed.new (w.alloc (.cells #[.int .i64 a4] 3)) 4 (.bool false)
    rw [World.size_alloc] at bR
    have HB0 : Hid (Below w.heap.size w ((w.alloc (.cells #[.int .i64 a4] 3)).alloc (.cells #[.bool false] 4))) := Lib.hid (((Below.refl _ _).alloc (Nat.le_refl _) _).alloc (by simp) _)
    have HBR := Lib.hid bR
    clear bR
    refine (first_any _ (HT.out.below HB0.out HT.out.pos)).mono ?_
    rintro e w1 ⟨rfl, hb1⟩
    have HB1 : Hid (Below w.heap.size w w1) := Lib.hid (HB0.out.trans (hb1.mono HB0.out.size))
    have HBR1 : Hid (Boxed w1 (w.heap.size + 1) 4 (.bool false)) := Lib.hid ((hb1.block _ (by simp)).trans HBR.out)
    have hrc := HBR1.out.cell
    have hrf := HBR1.out.frozen
    have hrl := HBR1.out.lt
    clear hb1
    go_wp2
    have hc5 := (HBR1.out.set (.bool true)).cell
    refine ⟨.bool true, ?_, rfl, HB1.out.setCell (p := ⟨w.heap.size + 1, 0, none⟩) (by simp) _⟩
    simp [results, Tryd.f5, go_sem, hc5]
  · have t0 : decide ((60 : Int) < (n2 : Int)) = false := by simp; omega
    by_cases h1 : 5000 < a0
    · have t1 : decide ((5000 : Int) < a0) = true := by simpa using h1
      clear h h0 h1
      refine (callsIn_wide (n := 9)).1 ?_
      refine callsIn_of_wp_marks Tryd.func5 rfl trivial ?_ rfl
      simp only [Tryd.ntmps5, List.size_toArray, List.length_cons, List.length_nil, Nat.reduceAdd, Nat.reduceSub, Array.replicate_succ, Array.replicate_zero, List.push_toArray, List.append_toArray, List.nil_append, List.cons_append]
      refine wpIn_wide.2 ?_
      go_wp2_with fail
      have bR := Boxed.new (w.alloc (.cells #[.int .i64 a4] 3)) 4 (.bool false)
      rw [World.size_alloc] at bR
      have HB0 : Hid (Below w.heap.size w ((w.alloc (.cells #[.int .i64 a4] 3)).alloc (.cells #[.bool false] 4))) := Lib.hid (((Below.refl _ _).alloc (Nat.le_refl _) _).alloc (by simp) _)
      have HBR := Lib.hid bR
      clear bR
      refine (first_any _ (HT.out.below HB0.out HT.out.pos)).mono ?_
      rintro e w1 ⟨rfl, hb1⟩
      have HB1 : Hid (Below w.heap.size w w1) := Lib.hid (HB0.out.trans (hb1.mono HB0.out.size))
      have HBR1 : Hid (Boxed w1 (w.heap.size + 1) 4 (.bool false)) := Lib.hid ((hb1.block _ (by simp)).trans HBR.out)
      have hrc := HBR1.out.cell
      have hrf := HBR1.out.frozen
      have hrl := HBR1.out.lt
      clear hb1
      go_wp2
      have hc5 := (HBR1.out.set (.bool true)).cell
      refine ⟨.bool true, ?_, rfl, HB1.out.setCell (p := ⟨w.heap.size + 1, 0, none⟩) (by simp) _⟩
      simp [results, Tryd.f5, go_sem, hc5]
    · have t1 : decide ((5000 : Int) < a0) = false := by simpa using h1
      have t2 : decide ((5000 : Int) < a1) = true := by simp; omega
      clear h h0 h1
      refine (callsIn_wide (n := 9)).1 ?_
      refine callsIn_of_wp_marks Tryd.func5 rfl trivial ?_ rfl
      simp only [Tryd.ntmps5, List.size_toArray, List.length_cons, List.length_nil, Nat.reduceAdd, Nat.reduceSub, Array.replicate_succ, Array.replicate_zero, List.push_toArray, List.append_toArray, List.nil_append, List.cons_append]
      refine wpIn_wide.2 ?_
      go_wp2_with fail
      have bR := Boxed.new (w.alloc (.cells #[.int .i64 a4] 3)) 4 (.bool false)
      rw [World.size_alloc] at bR
      have HB0 : Hid (Below w.heap.size w ((w.alloc (.cells #[.int .i64 a4] 3)).alloc (.cells #[.bool false] 4))) := Lib.hid (((Below.refl _ _).alloc (Nat.le_refl _) _).alloc (by simp) _)
      have HBR := Lib.hid bR
      clear bR
      refine (first_any _ (HT.out.below HB0.out HT.out.pos)).mono ?_
      rintro e w1 ⟨rfl, hb1⟩
      have HB1 : Hid (Below w.heap.size w w1) := Lib.hid (HB0.out.trans (hb1.mono HB0.out.size))
      have HBR1 : Hid (Boxed w1 (w.heap.size + 1) 4 (.bool false)) := Lib.hid ((hb1.block _ (by simp)).trans HBR.out)
      have hrc := HBR1.out.cell
      have hrf := HBR1.out.frozen
      have hrl := HBR1.out.lt
      clear hb1
      go_wp2
      have hc5 := (HBR1.out.set (.bool true)).cell
      refine ⟨.bool true, ?_, rfl, HB1.out.setCell (p := ⟨w.heap.size + 1, 0, none⟩) (by simp) _⟩
      simp [results, Tryd.f5, go_sem, hc5]
set_option maxRecDepth 100000 in
set_option maxHeartbeats 40000000 in
theorem walk (w : World) (hT : TabIn w) (a0 : Int) (w0 : (Lit.int .i64 a0).wf = true) (a1 : Int) (w1 : (Lit.int .i64 a1).wf = true) (A2 : Option Addr) (n2 c2 : Nat) (z2 : List DoV) (hc2 : n2 ≤ c2) (hn2 : c2 ≤ maxLen) (hl2 : z2.length = n2) (hr2 : DosAt w w.heap.size A2 z2) (a3 : Int) (w3 : (Lit.int .i64 a3).wf = true) (a4 : Int) (w4 : (Lit.int .i64 a4).wf = true) :
    Calls Tryd.prog 5 #[.int .i64 a0, .int .i64 a1, .slice A2 n2 c2, .int .i64 a3, .int .i64 a4] w fun e w' => e = .returned (.bool true) ∧ Below w.heap.size w w' := by
  by_cases hlong : 60 < n2 ∨ 5000 < a0 ∨ 5000 < a1
  · exact walk_long w hT a0 a1 A2 n2 c2 a3 a4 hlong
  have HT := Lib.hid hT
  have HR2 := Lib.hid hr2
  clear hT hr2
  have q1 : ¬ (60 : Int) < (n2 : Int) := by omega
  have q2 : ¬ (5000 : Int) < a0 := by omega
  have q3 : ¬ (5000 : Int) < a1 := by omega
  clear hlong
  have t1 : decide ((60 : Int) < (n2 : Int)) = false := by simp; omega
  have t2 : decide ((5000 : Int) < a0) = false := by simp; omega
  have t3 : decide ((5000 : Int) < a1) = false := by simp; omega
  refine (callsIn_wide (n := 9)).1 ?_
  refine callsIn_of_wp_marks Tryd.func5 rfl trivial ?_ rfl
  simp only [Tryd.ntmps5, List.size_toArray, List.length_cons, List.length_nil, Nat.reduceAdd, Nat.reduceSub, Array.replicate_succ, Array.replicate_zero, List.push_toArray, List.append_toArray, List.nil_append, List.cons_append]
  refine wpIn_wide.2 ?_
  go_wp2_with fail
  have bS := (Boxed.new w 3 (.int .i64 a4)).alloc (.cells #[.bool false] 4)
  have bR := Boxed.new (w.alloc (.cells #[.int .i64 a4] 3)) 4 (.bool false)
  rw [World.size_alloc] at bR
  have HB0 : Hid (Below w.heap.size w ((w.alloc (.cells #[.int .i64 a4] 3)).alloc (.cells #[.bool false] 4))) := Lib.hid (((Below.refl _ _).alloc (Nat.le_refl _) _).alloc (by simp) _)
  have HBS := Lib.hid bS
  have HBR := Lib.hid bR
  clear bS bR
  refine (first_any _ (HT.out.below HB0.out HT.out.pos)).mono ?_
  rintro e w1 ⟨rfl, hb1⟩
  have HB1 : Hid (Below w.heap.size w w1) := Lib.hid (HB0.out.trans (hb1.mono HB0.out.size))
  have HBS1 : Hid (Boxed w1 w.heap.size 3 (.int .i64 a4)) := Lib.hid ((hb1.block _ (by simp; omega)).trans HBS.out)
  have HBR1 : Hid (Boxed w1 (w.heap.size + 1) 4 (.bool false)) := Lib.hid ((hb1.block _ (by simp)).trans HBR.out)
  clear hb1
  go_wp2_with fail
  refine (new_any a0 _ (HT.out.below HB1.out HT.out.pos).pos).mono ?_
  rintro e w2 ⟨b, g, rfl, hb, hg, hS, hbl⟩
  have HB2 : Hid (Below w.heap.size w w2) := Lib.hid (HB1.out.trans (hbl.mono HB1.out.size))
  have HBS2 : Hid (Boxed w2 w.heap.size 3 (.int .i64 a4)) := Lib.hid ((hbl.block _ HBS1.out.lt).trans HBS1.out)
  have HBR2 : Hid (Boxed w2 (w.heap.size + 1) 4 (.bool false)) := Lib.hid ((hbl.block _ HBR1.out.lt).trans HBR1.out)
  obtain ⟨N, hN⟩ : ∃ N, N = clampN a0 := ⟨_, rfl⟩
  rw [← hN] at hS
  have hN2 : N ≤ 5000 := by rw [hN]; unfold clampN; omega
  have HSET := Lib.hid hS
  have HN := Lib.hid hN
  have hsz := hS.sizes
  have hbb : w.heap.size + 2 ≤ b ∧ w.heap.size + 2 ≤ g := by have := HBR1.out.lt; omega
  clear hS hN hbl hb hg
  obtain ⟨M, hM⟩ : ∃ M, M = clampN a1 := ⟨_, rfl⟩
  have hM2 : M ≤ 5000 := by rw [hM]; unfold clampN; omega
  have e0 : (if (0 : Int) < a0 then a0 else 0) = (N : Int) := by rw [HN.out]; unfold clampN; split <;> omega
  have e1 : (if (0 : Int) < a1 then a1 else 0) = (M : Int) := by rw [hM]; unfold clampN; split <;> omega
  have HM := Lib.hid hM
  clear hM
  go_wp2
  clear e0 e1 t1 t2 t3
  have hz2 : w.heap.size + 2 ≤ w2.heap.size := by have := HBR2.out.lt; omega
  obtain ⟨B13, hB13⟩ : ∃ B13, B13 = w2.heap.size := ⟨_, rfl⟩
  have HA0 : Hid (PlRel w b g N B13 n2 a4 (.int .i64 0) (w2.alloc (.cells #[.slice none 0 0] 27))) := Lib.hid (by
    have e : elsI (fun _ => false) N = [] := by rw [elsI, els_false N (fun i _ => rfl)]; rfl
    rw [hB13]
    refine ⟨0, fun _ => false, none, 0, Nat.zero_le _, rfl, HSET.out.belowW ((Below.refl _ _).alloc (Nat.le_refl _) _), ?_, ?_, HBR2.out.alloc _, HBS2.out.alloc _, HB2.out.alloc HB2.out.size _⟩
    · rw [e]; exact Boxed.new _ _ _
    · rw [e]; exact ⟨rfl, .inl ⟨rfl, rfl⟩⟩)
  rw [← hB13] at hz2 hsz ⊢
  clear hB13
  go_loopw [14] (fun s14 wr => PlRel w b g N B13 n2 a4 s14 wr) (fun s14 _ => n2 - (intOf s14).toNat)
  case atStart => exact HA0.out
  case round =>
    obtain ⟨k, p, A, c, hk, rfl, hS, hbH, hown, hbR, hbS, hbr⟩ := hrel
    have hBlt := hbH.lt
    have hgs := hS.sizes
    have HS := Lib.hid hS
    have HH := Lib.hid hbH
    have HO := Lib.hid hown
    have HR := Lib.hid hbR
    have HSt := Lib.hid hbS
    have HB := Lib.hid hbr
    clear hS hbH hown hbR hbS hbr
    by_cases hlt : k < n2
    · obtain ⟨x, hx⟩ : ∃ x, z2[k]? = some x := ⟨_, List.getElem?_eq_getElem (by omega)⟩
      obtain ⟨a, rfl, had, d0, d1, d2, hrx, hxc, hxm, hxl⟩ := (HR2.out.below HB.out) k x hx
      have HX := Lib.hid hrx
      have HXL := Lib.hid hxl
      have k0 : (0 : Int) ≤ (k : Int) := by omega
      have k1 : (k : Int) < (n2 : Int) := by omega
      clear hrx hxl hx
      by_cases h40 : 40 < x.m
      · have t1 : (40 : Int) < (x.m : Int) := by omega
        as_aux_lemma =>
          have hz3 := HR.out.lt
          have hrc := HR.out.cell
          have hrf := HR.out.frozen
          go_wp2
          have hc5 := ((HR.out.set (.bool true)).alloc (.cells #[.int .i64 x.kind, .int .i64 x.num, .slice x.A x.m x.c] 35)).cell
          refine ⟨.bool true, ?_, rfl, (HB.out.setCell (p := ⟨w.heap.size + 1, 0, none⟩) (by simp) _).alloc (by have := HB.out.size; simpa [World.setCell] using this) _⟩
          simp [results, Tryd.f5, go_sem, hc5]
      · as_aux_lemma =>
          have t1 : ¬ (40 : Int) < (x.m : Int) := by omega
          obtain ⟨inB, hin⟩ : ∃ inB, inB = decide (0 ≤ x.num ∧ x.num < (N : Int)) := ⟨_, rfl⟩
          have HIN := Lib.hid hin
          clear hin
          go_upto_region 16 with fail
          go_cut [16] from 53 to 245 (fun s16 wx => s16 = .bool inB ∧ wx = wr.alloc (.cells #[.int .i64 x.kind, .int .i64 x.num, .slice x.A x.m x.c] 35))
          case first =>
            as_aux_lemma =>
              by_cases h0 : 0 ≤ x.num
              · have t2 : decide (0 ≤ x.num) = true := by simpa using h0
                by_cases h1 : x.num < (N : Int)
                · have t3 : decide (x.num < (N : Int)) = true := by simpa using h1
                  go_wp2_with fail
                  go_meet
                  case rel => exact ⟨by rw [HIN.out]; simp [h0, h1], rfl⟩
                · have t3 : decide (x.num < (N : Int)) = false := by simpa using h1
                  go_wp2_with fail
                  go_meet
                  case rel => exact ⟨by rw [HIN.out]; simp [h1], rfl⟩
              · have t2 : decide (0 ≤ x.num) = false := by simpa using h0
                go_wp2_with fail
                go_meet
                case rel => exact ⟨by rw [HIN.out]; simp; omega, rfl⟩
          case rest =>
            obtain ⟨rfl, rfl⟩ := hcut
            obtain ⟨w3, hw3⟩ : ∃ w3, w3 = wr.alloc (.cells #[.int .i64 x.kind, .int .i64 x.num, .slice x.A x.m x.c] 35) := ⟨_, rfl⟩
            have hbd : Blk w3 wr.heap.size 35 #[.int .i64 x.kind, .int .i64 x.num, .slice x.A x.m x.c] := by rw [hw3]; exact Blk.new _ _ _
            have HB3 : Hid (Below wr.heap.size wr w3) := Lib.hid (by rw [hw3]; exact (Below.refl _ _).alloc (Nat.le_refl _) _)
            obtain ⟨BD, hBD⟩ : ∃ BD, BD = wr.heap.size := ⟨_, rfl⟩
            rw [← hBD] at hbd
            rw [← hw3, ← hBD]
            have HBD := Lib.hid hbd
            have HBDE := Lib.hid hBD
            have hBDlt := hbd.lt
            have hgBD : g < BD := by omega
            clear hw3 hbd hBD d0 d1 d2
            have HB3w : Hid (Below w.heap.size w w3) := Lib.hid (HB.out.trans (HB3.out.mono HB.out.size))
            have HH3 : Hid (Boxed w3 B13 27 (.slice A (elsI p N).length c)) := Lib.hid ((HB3.out.block _ hBlt).trans HH.out)
            have HO3 := Lib.hid (own_below HO.out HB3.out)
            have hHc := HH3.out.cell
            have hHf := HH3.out.frozen
            obtain ⟨h, hh⟩ : ∃ h, h = (elsI p N).length := ⟨_, rfl⟩
            have hh2 : h ≤ 5000 := by rw [hh, elsI_len]; have := els_len p N; omega
            rw [← hh] at hHc
            have HHE := Lib.hid hh
            clear hh
            have bd0 : w3.cell? ⟨BD, 0, none⟩ = some (.int .i64 x.kind) := HBD.out.cell 0
            have bd1 : w3.cell? ⟨BD, 1, none⟩ = some (.int .i64 x.num) := HBD.out.cell 1
            have bd2 : w3.cell? ⟨BD, 2, none⟩ = some (.slice x.A x.m x.c) := HBD.out.cell 2
            have HRH : Hid (Reads w3 w3.heap.size 1 A h ((elsI p N).map iv)) := Lib.hid (by rw [HHE.out]; exact Reads.of_own HO3.out)
            go_wp2_with fail
            refine (among_any A h c (elsI p N) x.num _ (by exact HRH.out) (by omega)).mono ?_
            rintro e w4 ⟨rfl, rfl⟩
            obtain ⟨wasB, hwas⟩ : ∃ wasB, wasB = amongI (elsI p N) x.num := ⟨_, rfl⟩
            rw [← hwas]
            have HWAS := Lib.hid hwas
            clear hwas
            go_wp2_with fail
            have HX3 : Hid (Reads w3 w3.heap.size 1 x.A x.m (x.l.map iv)) := Lib.hid (((HX.out.more HB.out.size).below HB3.out).more HB3.out.size)
            refine (set_any (M : Int) x.A x.m x.c x.l _ (by exact HX3.out) (by omega) (HT.out.below HB3w.out HT.out.pos).pos).mono ?_
            rintro e w5 ⟨bt, gt, rfl, hbt, hgt, hSt5, hb5⟩
            rw [clamp_small M (by omega)] at hSt5
            have HT5 := Lib.hid hSt5
            have HB5 := Lib.hid hb5
            have HBT : Hid (w3.heap.size ≤ bt ∧ w3.heap.size ≤ gt) := Lib.hid ⟨hbt, hgt⟩
            have HB5w : Hid (Below w.heap.size w w5) := Lib.hid (HB3w.out.trans (HB5.out.mono HB3w.out.size))
            have HBD5 := Lib.hid (HBD.out.below HB5.out HBD.out.lt)
            have bd2' : w5.cell? ⟨BD, 2, none⟩ = some (.slice x.A x.m x.c) := HBD5.out.cell 2
            have hBD5 := HBD5.out.lt
            clear hSt5 hb5 hbt hgt bd0 bd1 bd2 hHc hHf
            go_wp2
            obtain ⟨i0, hi, hz0, hz1, hz2⟩ := info_parts info_int
            go_loopw [19, 20] (fun s19 s20 wq => OtRel w5 M x.l s19 s20 wq) (fun _ s20 _ => x.m - (intOf s20).toNat)
            case atStart => exact ⟨0, Nat.zero_le _, rfl, ⟨rfl, .inl ⟨rfl, rfl⟩⟩, Below.refl _ _⟩
            case round =>
              obtain ⟨q, hq, rfl, hownq, hbq⟩ := hrel
              have HOQ := Lib.hid hownq
              have HBQ := Lib.hid hbq
              clear hownq hbq
              have bd2q : wr.cell? ⟨BD, 2, none⟩ = some (.slice x.A x.m x.c) := (HBQ.out.cell (p := ⟨BD, 2, none⟩) hBD5).trans bd2'
              by_cases hqm : q < x.m
              · as_aux_lemma =>
                  obtain ⟨ax, y, hax, hay, hy, hcy⟩ := iv_at ((HX3.out.below HB5.out).more HB5.out.size |>.below HBQ.out) hqm
                  rw [hax] at bd2q
                  have HY := Lib.hid hy
                  have HLQ : Hid ((otF M (x.l.take q)).length ≤ 40) := Lib.hid (by have h1 := List.length_filter_le (fun x => decide (0 ≤ x ∧ x < (M : Int))) (x.l.take q); have h2 := List.length_take_le q x.l; unfold otF; omega)
                  have q0 : (0 : Int) ≤ (q : Int) := by omega
                  have q1 : (q : Int) < (x.m : Int) := by omega
                  clear hy hax
                  by_cases y0 : 0 ≤ y
                  · have u0 : decide (0 ≤ y) = true := by simpa using y0
                    by_cases y1 : y < (M : Int)
                    · have u1 : decide (y < (M : Int)) = true := by simpa using y1
                      have HYC : Hid (0 ≤ y ∧ y < (M : Int)) := Lib.hid ⟨y0, y1⟩
                      go_wp2_with (at_builtin; refine wpList_append_any _ rfl (.tmp 108) (.tmp 114) _ rfl w5.heap.size 3 i0 _ 1 8 Tryd.underlying27 hi hz0 hz1 hz2 rfl (by omega) _ _ _ rfl (HOQ.out.alloc _) _ (some ⟨wr.heap.size, 0, none⟩) 1 1 ([y].map iv) rfl (by exact one_new wr y) (iv_one _) (by have := HLQ.out; unfold maxLen; omega) (by have := HLQ.out; omega) (by have := HBQ.out.size; simp; omega) ?_; intro v6 w6 hown6 hg6 hat6)
                      have hb6 : Below w5.heap.size wr w6 := ((Below.refl _ _).alloc HBQ.out.size _).grown hg6 (by have := HBQ.out.size; simp; omega) (fun k hk => own_ge HOQ.out hk)
                      refine ⟨⟨q + 1, by have := HXL.out; omega, by go_num, ?_, HBQ.out.trans hb6⟩, by simp [intOf]; omega⟩
                      rw [take_at HY.out, otF_snoc, if_pos HYC.out, List.map_append, List.length_append]
                      exact hown6
                    · have u1 : decide (y < (M : Int)) = false := by simpa using y1
                      have HYC : Hid (¬ (0 ≤ y ∧ y < (M : Int))) := Lib.hid (by omega)
                      go_wp2
                      refine ⟨⟨q + 1, by have := HXL.out; omega, by go_num, ?_, HBQ.out⟩, by simp [intOf]; omega⟩
                      rw [take_at HY.out, otF_snoc, if_neg HYC.out]
                      exact HOQ.out
                  · have u0 : decide (0 ≤ y) = false := by simpa using y0
                    have HYC : Hid (¬ (0 ≤ y ∧ y < (M : Int))) := Lib.hid (by omega)
                    go_wp2
                    refine ⟨⟨q + 1, by have := HXL.out; omega, by go_num, ?_, HBQ.out⟩, by simp [intOf]; omega⟩
                    rw [take_at HY.out, otF_snoc, if_neg HYC.out]
                    exact HOQ.out
              · have hOall := HOQ.out
                rw [List.take_of_length_le (by have := HXL.out; omega)] at hOall
                obtain ⟨Ao, co, rfl, _⟩ := own_reads hOall
                have HOT := Lib.hid hOall
                clear hOall
                obtain ⟨w6, rfl⟩ : ∃ w6 : World, w6 = wr := ⟨_, rfl⟩
                have HB63 : Hid (Below w3.heap.size w3 w6) := Lib.hid (HB5.out.trans (HBQ.out.mono HB5.out.size))
                have HBD6 := Lib.hid (HBD5.out.below HBQ.out HBD5.out.lt)
                have HB6w : Hid (Below w.heap.size w w6) := Lib.hid (HB3w.out.trans (HB63.out.mono HB3w.out.size))
                have HSt3 : Hid (Boxed w3 w.heap.size 3 (.int .i64 a4)) := Lib.hid ((HB3.out.block _ HSt.out.lt).trans HSt.out)
                have HR3 : Hid (Boxed w3 (w.heap.size + 1) 4 (.bool false)) := Lib.hid ((HB3.out.block _ HR.out.lt).trans HR.out)
                have HT6 : Hid (SetAt w6 bt gt M (memP M x.l)) := Lib.hid (HT5.out.belowW HBQ.out)
                have hb3s := HB3.out.size
                have HP6 : Hid (PlSt w b g N B13 bt gt M w5.heap.size p (memP M x.l) (elsI p N) (otF M x.l) A c Ao co a4 w6) := Lib.hid (by
                  have h1 := HBT.out
                  have h2 := HB5.out.size
                  have h3 := HO3.out
                  refine ⟨(HS.out.belowW HB3.out).belowW HB63.out, (HB63.out.block _ HH3.out.lt).trans HH3.out, own_below h3 HB63.out, HT6.out, HOT.out, ?_, (HB63.out.block _ HR3.out.lt).trans HR3.out, (HB63.out.block _ HSt3.out.lt).trans HSt3.out, HB6w.out, by omega, ⟨by omega, by omega⟩, ⟨by omega, by omega⟩, by omega⟩
                  rcases hoo : (Value.slice Ao (otF M x.l).length co).ownBlock with _ | z
                  · exact .inl rfl
                  · refine .inr fun e => ?_
                    have h4 := own_ge HOT.out hoo
                    have h5 := own_lt h3 e.symm
                    omega)
                have bd0 : w6.cell? ⟨BD, 0, none⟩ = some (.int .i64 x.kind) := HBD6.out.cell 0
                have bd1 : w6.cell? ⟨BD, 1, none⟩ = some (.int .i64 x.num) := HBD6.out.cell 1
                clear bd2' hi hz0 hz1 hz2
                have HLO : Hid ((otF M x.l).length ≤ 40) := Lib.hid (by have h1 := List.length_filter_le (fun x => decide (0 ≤ x ∧ x < (M : Int))) x.l; have := HXL.out; unfold otF; omega)
                obtain ⟨m7, hm7⟩ : ∃ m7, m7 = (otF M x.l).length := ⟨_, rfl⟩
                have hm72 : m7 ≤ 40 := by have := HLO.out; omega
                rw [← hm7]
                have HM7 := Lib.hid hm7
                clear hm7
                go_upto_block 4 with fail
                clear bd2q
                go_cut [21, 22, 23] from 53 to 245 (fun s21 s22 s23 wx => SwRel w w6 b g N B13 bt gt M w5.heap.size (memP M x.l) (otF M x.l) Ao co a4 wx)
                case first =>
                  have HLT : Hid (∀ j, p j = true → j < N) := Lib.hid (fun j hj => HP6.out.set.lt hj)
                  have HWZ : Hid (wasB = hasZ p x.num) := Lib.hid (by rw [HWAS.out, among_els p N x.num HLT.out])
                  have hB13 := HP6.out.has.lt
                  by_cases hk1 : x.kind = 1
                  · as_aux_lemma =>
                      have κ1 : (x.kind == 1) = true := by simp [hk1]
                      have HQ : Hid ((decide (0 ≤ x.num ∧ x.num < (N : Int)) && !hasZ p x.num) = (inB && !wasB)) := Lib.hid (by rw [HIN.out, HWZ.out])
                      clear hk1
                      go_wp2_with fail
                      refine (add_any b g N x.num p _ HP6.out.set).mono ?_
                      rintro e w7 ⟨rfl, hS7, hb7⟩
                      rw [HQ.out]
                      have HP7 := Lib.hid (HP6.out.to_but hb7 hS7)
                      have hs7 := hb7.size
                      have bd1' : w7.cell? ⟨BD, 1, none⟩ = some (.int .i64 x.num) := (hb7.cell (p := ⟨BD, 1, none⟩) HBD6.out.lt (by show BD ≠ g; omega)).trans bd1
                      have hc7 := HP7.out.has.cell
                      have hf7 := HP7.out.has.frozen
                      have hlt7 := HP7.out.has.lt
                      obtain ⟨h7, hh7⟩ : ∃ h7, h7 = (elsI p N).length := ⟨_, rfl⟩
                      have hh72 : h7 ≤ 5000 := by rw [hh7, elsI_len]; have := els_len p N; omega
                      rw [← hh7] at hc7
                      have HO7 : Hid (w7.ownsRow B13 3 1 (.slice A h7 c) h7 ((elsI p N).map iv)) := Lib.hid (by rw [hh7]; exact HP7.out.own)
                      have HH7 := Lib.hid hh7
                      obtain ⟨i0, hi, hz0, hz1, hz2⟩ := info_parts info_int
                      clear hS7 hb7 hh7 bd0 bd1
                      cases inB
                      · have HNI : Hid (¬ (0 ≤ x.num ∧ x.num < (N : Int))) := Lib.hid (by have := HIN.out; simpa using this.symm)
                        cases wasB
                        all_goals
                          go_wp2
                          go_meet
                          case rel => exact ⟨_, _, _, _, HP7.out, by rw [addP_not HNI.out]; exact Tells.els hN2, hs7⟩
                      · have HNI : Hid (0 ≤ x.num ∧ x.num < (N : Int)) := Lib.hid (by have := HIN.out; simpa using this.symm)
                        cases wasB
                        all_goals
                          go_wp2_with (at_builtin; refine wpList_append_any _ rfl (.tmp 137) (.tmp 140) _ rfl B13 3 i0 _ 1 8 Tryd.underlying27 hi hz0 hz1 hz2 rfl (by omega) (.slice A h7 c) h7 _ rfl (HO7.out.alloc _) _ (some ⟨w7.heap.size, 0, none⟩) 1 1 ([x.num].map iv) rfl (by exact one_new w7 x.num) (iv_one _) (by unfold maxLen; omega) (by omega) (by simp; omega) ?_; intro v8 w8 hown8 hg8 hat8; obtain ⟨g8, cap8, rfl⟩ := ownsRow_succ hown8; have hc8 : w8.cell? ⟨B13, 0, none⟩ = some (.slice A h7 c) := (World.cell?_of_block (hg8.block B13 (by simp; omega) (fun e => own_blk_ne HO7.out (show Blk w7 B13 27 #[_] from HP7.out.has) (by decide) e.symm))).trans ((World.cell?_alloc_lt w7 _ ⟨B13, 0, none⟩ hlt7).trans hc7); have hf8 : w8.frozen? ⟨B13, 0, none⟩ = false := (World.frozen?_of_block (w := w7.alloc _) (hg8.block B13 (by simp; omega) (fun e => own_blk_ne HO7.out (show Blk w7 B13 27 #[_] from HP7.out.has) (by decide) e.symm))).trans ((HP7.out.has.alloc _).frozen))
                          go_meet
                          case rel =>
                            have hl8 : (elsI p N ++ [x.num]).length = h7 + 1 := by rw [List.length_append, HH7.out]; rfl
                            refine ⟨_, elsI p N ++ [x.num], some ⟨g8, 0, none⟩, cap8, ?_, Tells.add hN2 HNI.out, ?_⟩
                            · have := HP7.out.to_app (L' := elsI p N ++ [x.num]) (A' := some ⟨g8, 0, none⟩) (c' := cap8) (by rw [hl8, List.map_append]; exact hown8) (by rw [← HH7.out]; exact hg8) (by rw [hl8, ← HH7.out]; exact hat8)
                              rwa [hl8] at this
                            · have := hg8.size
                              simp [World.setCell] at this ⊢
                              omega
                  · have κ1 : (x.kind == 1) = false := beq_eq_false_iff_ne.2 hk1
                    clear hk1
                    by_cases hk2 : x.kind = 2
                    · as_aux_lemma =>
                        have κ2 : (x.kind == 2) = true := by simp [hk2]
                        clear hk2
                        go_wp2_with fail
                        refine (drop_any b g N x.num p _ HP6.out.set).mono ?_
                        rintro e w7 ⟨rfl, hS7, hb7⟩
                        rw [← HWZ.out]
                        have HP7 := Lib.hid (HP6.out.to_but hb7 hS7)
                        have hs7 := hb7.size
                        have bd1' : w7.cell? ⟨BD, 1, none⟩ = some (.int .i64 x.num) := (hb7.cell (p := ⟨BD, 1, none⟩) HBD6.out.lt (by show BD ≠ g; omega)).trans bd1
                        have hc7 := HP7.out.has.cell
                        have hlt7 := HP7.out.has.lt
                        obtain ⟨h7, hh7⟩ : ∃ h7, h7 = (elsI p N).length := ⟨_, rfl⟩
                        have hh72 : h7 ≤ 5000 := by rw [hh7, elsI_len]; have := els_len p N; omega
                        rw [← hh7] at hc7
                        have HO7 : Hid (w7.ownsRow B13 3 1 (.slice A h7 c) h7 ((elsI p N).map iv)) := Lib.hid (by rw [hh7]; exact HP7.out.own)
                        have HR7 : Hid (Reads w7 w7.heap.size 1 A h7 ((elsI p N).map iv)) := Lib.hid (Reads.of_own HO7.out)
                        clear hS7 hb7 hh7 bd0 bd1
                        cases wasB
                        all_goals
                          go_wp2_with fail
                          refine (without_any A h7 c (elsI p N) (some ⟨w7.heap.size, 0, none⟩) 1 1 [x.num] _ (by exact (HR7.out.alloc (Nat.le_refl _) _).more (by simp)) (by omega) (by exact one_new w7 x.num) (by decide)).mono ?_
                          rintro e w8 ⟨A8, c8, rfl, hown8, hb8⟩
                          have HB8 : Hid (Below w7.heap.size w7 w8) := Lib.hid (((Below.refl _ _).alloc (Nat.le_refl _) _).trans (hb8.mono (by simp)))
                          have HO8 : Hid (w8.ownsRow w7.heap.size 3 1 (.slice A8 (woF [x.num] (elsI p N)).length c8) (woF [x.num] (elsI p N)).length ((woF [x.num] (elsI p N)).map iv)) := Lib.hid (own_base hown8 (by simp))
                          have hc8 : w8.cell? ⟨B13, 0, none⟩ = some (.slice A h7 c) := (HB8.out.cell (p := ⟨B13, 0, none⟩) hlt7).trans hc7
                          have hf8 : w8.frozen? ⟨B13, 0, none⟩ = false := (HB8.out.frozen (p := ⟨B13, 0, none⟩) hlt7).trans HP7.out.has.frozen
                          clear hown8 hb8
                          go_wp2
                          go_meet
                          case rel => exact ⟨_, _, _, _, HP7.out.to_new HB8.out HO8.out, Tells.drop hN2, by have := HB8.out.size; simp [World.setCell]; omega⟩
                    · have κ2 : (x.kind == 2) = false := beq_eq_false_iff_ne.2 hk2
                      clear hk2
                      obtain ⟨h7, hh7⟩ : ∃ h7, h7 = (elsI p N).length := ⟨_, rfl⟩
                      have hh72 : h7 ≤ 5000 := by rw [hh7, elsI_len]; have := els_len p N; omega
                      have HH7 := Lib.hid hh7
                      clear hh7
                      by_cases hk3 : x.kind = 3
                      · as_aux_lemma =>
                          have κ3 : (x.kind == 3) = true := by simp [hk3]
                          have hc6 : w6.cell? ⟨B13, 0, none⟩ = some (.slice A h7 c) := by rw [HH7.out]; exact HP6.out.has.cell
                          have HR7 : Hid (Reads w6 w6.heap.size 1 A h7 ((elsI p N).map iv)) := Lib.hid (by rw [HH7.out]; exact Reads.of_own HP6.out.own)
                          have HRO7 : Hid (Reads w6 w6.heap.size 1 Ao m7 ((otF M x.l).map iv)) := Lib.hid (by rw [HM7.out]; exact Reads.of_own HP6.out.other)
                          clear hk3 bd0 bd1
                          go_wp2_with fail
                          refine (ints_any A h7 c (elsI p N) _ (by exact HR7.out) (by omega)).mono ?_
                          rintro e w7 ⟨A8, c8, rfl, hown8, hb8⟩
                          have HB7 := Lib.hid hb8
                          have HO7 := Lib.hid hown8
                          rw [← HH7.out]
                          clear hown8 hb8
                          go_wp2
                          obtain ⟨i0, hi, hz0, hz1, hz2⟩ := info_parts info_int
                          go_loopw [21, 22] (fun s21 s22 wq => JRel w6 N (elsI p N) (otF M x.l) s21 s22 wq) (fun _ s22 _ => m7 - (intOf s22).toNat)
                          case atStart => exact ⟨0, Nat.zero_le _, rfl, by rw [List.take_zero, show belF N [] = [] from rfl, List.append_nil, HH7.out]; exact HO7.out, HB7.out⟩
                          case round =>
                            obtain ⟨q, hq, rfl, hownq, hbq⟩ := hrel
                            have HJQ := Lib.hid hownq
                            have HBX := Lib.hid hbq
                            clear hownq hbq
                            by_cases hqm : q < m7
                            · obtain ⟨ax, y, rfl, hay, hy, hcy⟩ := iv_at (HRO7.out.below HBX.out) hqm
                              have HY := Lib.hid hy
                              have HLQ : Hid ((elsI p N ++ belF N ((otF M x.l).take q)).length ≤ 6000) := Lib.hid (by have h1 := List.length_filter_le (fun x => decide (x < (N : Int))) ((otF M x.l).take q); have h2 := List.length_take_le q (otF M x.l); have h3 := HH7.out; rw [List.length_append]; unfold belF; omega)
                              have q0 : (0 : Int) ≤ (q : Int) := by omega
                              have q1 : (q : Int) < (m7 : Int) := by omega
                              clear hy
                              by_cases y1 : y < (N : Int)
                              · have u1 : decide (y < (N : Int)) = true := by simpa using y1
                                have HYC := Lib.hid y1
                                go_wp2_with (at_builtin; refine wpList_append_any _ rfl (.tmp 171) (.tmp 176) _ rfl w6.heap.size 3 i0 _ 1 8 Tryd.underlying27 hi hz0 hz1 hz2 rfl (by omega) _ _ _ rfl (HJQ.out.alloc _) _ (some ⟨wr.heap.size, 0, none⟩) 1 1 ([y].map iv) rfl (by exact one_new wr y) (iv_one _) (by have := HLQ.out; unfold maxLen; omega) (by have := HLQ.out; omega) (by have := HBX.out.size; simp; omega) ?_; intro v9 w9 hown9 hg9 hat9)
                                have hb9 : Below w6.heap.size wr w9 := ((Below.refl _ _).alloc HBX.out.size _).grown hg9 (by have := HBX.out.size; simp; omega) (fun k hk => own_ge HJQ.out hk)
                                refine ⟨⟨q + 1, by have := HM7.out; omega, by go_num, ?_, HBX.out.trans hb9⟩, by simp [intOf]; omega⟩
                                have hn : (elsI p N ++ belF N ((otF M x.l).take q)).length + 1 = (elsI p N ++ belF N ((otF M x.l).take (q + 1))).length := by rw [take_at HY.out, belF_snoc, if_pos HYC.out, ← List.append_assoc, List.length_append (bs := [y])]; rfl
                                have hl : (elsI p N ++ belF N ((otF M x.l).take q)).map iv ++ [y].map iv = (elsI p N ++ belF N ((otF M x.l).take (q + 1))).map iv := by rw [take_at HY.out, belF_snoc, if_pos HYC.out, ← List.append_assoc, ← List.map_append]
                                rw [← hn, ← hl]
                                exact hown9
                              · have u1 : decide (y < (N : Int)) = false := by simpa using y1
                                have HYC := Lib.hid y1
                                go_wp2
                                refine ⟨⟨q + 1, by have := HM7.out; omega, by go_num, ?_, HBX.out⟩, by simp [intOf]; omega⟩
                                rw [take_at HY.out, belF_snoc, if_neg HYC.out]
                                exact HJQ.out
                            · have hOall := HJQ.out
                              rw [List.take_of_length_le (by have := HM7.out; omega)] at hOall
                              obtain ⟨nx, hnx⟩ : ∃ nx, nx = elsI p N ++ belF N (otF M x.l) := ⟨_, rfl⟩
                              rw [← hnx] at hOall
                              obtain ⟨An, cn, rfl, hrn⟩ := own_reads hOall
                              have HON := Lib.hid hOall
                              have HNX := Lib.hid hnx
                              have HLX : Hid (x.l.length ≤ 40) := Lib.hid (by have := HXL.out; omega)
                              have HTJ : Hid (Tells N (joinP p N (elsI (memP M x.l) M)) nx) := Lib.hid (by rw [hnx]; exact Tells.join hN2 HLX.out)
                              obtain ⟨n9, hn9⟩ : ∃ n9, n9 = nx.length := ⟨_, rfl⟩
                              have hn92 : n9 ≤ 6000 := by have := HTJ.out.2.2; omega
                              have HN9 := Lib.hid hn9
                              obtain ⟨l1, hl1⟩ : ∃ l1, l1 = (srt nx).length := ⟨_, rfl⟩
                              have HL1 := Lib.hid hl1
                              have HL1b : Hid (l1 = (els (joinP p N (elsI (memP M x.l) M)) N).length) := Lib.hid (by rw [hl1, HTJ.out.srt, elsI_len])
                              have HSH : Hid ((srt (elsI p N)).length = h7) := Lib.hid (by rw [(Tells.els (p := p) hN2).srt, HH7.out])
                              obtain ⟨w9, rfl⟩ : ∃ w9 : World, w9 = wr := ⟨_, rfl⟩
                              have HP9 := Lib.hid (HP6.out.to_below HBX.out)
                              have hc9 : w9.cell? ⟨B13, 0, none⟩ = some (.slice A h7 c) := by rw [HH7.out]; exact HP9.out.has.cell
                              have HRN : Hid (Reads w9 w9.heap.size 1 An n9 (nx.map iv)) := Lib.hid (by rw [hn9]; exact hrn)
                              have HRH9 : Hid (Reads w9 w9.heap.size 1 A h7 ((elsI p N).map iv)) := Lib.hid ((HR7.out.below HBX.out).more HBX.out.size)
                              rw [← hn9]
                              have hb13w := HP9.out.has.lt
                              obtain ⟨grewB, hgw⟩ : ∃ grewB, decide ((h7 : Int) < (l1 : Int)) = grewB := ⟨_, rfl⟩
                              have HAN : Hid (anP p N (elsI (memP M x.l) M) = grewB) := Lib.hid (by
                                rw [← hgw]; exact grew_is (fun j hj => memP_lt hj) HH7.out HL1b.out)
                              have hgw2 : decide (h7 < l1) = grewB := by rw [← hgw, decide_eq_decide]; omega
                              clear hOall hrn hnx hn9 hl1 hi hz0 hz1 hz2 hc6
                              go_wp2_with fail
                              go_region_held3 (fun w' => w'.cell? ⟨B13, 0, none⟩ = some (.slice A h7 c)) (go_keep) ((first | (go_at_call 21; have HRX := HRH10.out; refine (sorted_any A h7 c (elsI p N) _ (by exact HRX) (by omega)).mono ?_; clear HRX; rintro e w11 ⟨A11, c11, rfl, hown11, hb11⟩; have HB11 : Hid (Below w9.heap.size w9 w11) := Lib.hid (HB10.out.trans (hb11.mono HB10.out.size)); rw [HSH.out]; clear hown11 hb11; have hc11 : w11.cell? ⟨B13, 0, none⟩ = some (.slice A h7 c) := (HB11.out.cell (p := ⟨B13, 0, none⟩) hb13w).trans hc9) | (go_at_call 21; refine (sorted_any An n9 cn nx _ (by exact HRN.out) (by omega)).mono ?_; rintro e w10 ⟨A10, c10, rfl, hown10, hb10⟩; have HB10 : Hid (Below w9.heap.size w9 w10) := Lib.hid ((Below.refl w9.heap.size w9).drew.trans hb10); rw [← HL1.out]; clear hown10 hb10; have hc10 : w10.cell? ⟨B13, 0, none⟩ = some (.slice A h7 c) := (HB10.out.cell (p := ⟨B13, 0, none⟩) hb13w).trans hc9; have HRH10 := Lib.hid ((HRH9.out.below HB10.out).more HB10.out.size))))
                              have HP11 := Lib.hid (HP9.out.to_below HB11.out)
                              have HON11 : Hid (w11.ownsRow w6.heap.size 3 1 (.slice An nx.length cn) nx.length (nx.map iv)) := Lib.hid (own_below HON.out HB11.out)
                              clear hc10 hc11 hc9
                              go_wp2_with fail
                              refine (join_any b g N p bt gt M _ _ HP11.out.set HP11.out.tset (HT.out.below HP11.out.below HT.out.pos)).mono ?_
                              rintro e w12 ⟨rfl, hS12, hb12⟩
                              rw [HAN.out]
                              have HP12 := Lib.hid (HP11.out.to_but hb12 hS12)
                              have HON12 : Hid (w12.ownsRow w6.heap.size 3 1 (.slice An nx.length cn) nx.length (nx.map iv)) := Lib.hid (hb12.own HON11.out (by have := HP6.out.has.lt; have := HP6.out.gs; omega))
                              have hs12 := hb12.size
                              have hs11 := HB11.out.size
                              have hc12 : w12.cell? ⟨B13, 0, none⟩ = some (.slice A h7 c) := by rw [HH7.out]; exact HP12.out.has.cell
                              have hf12 := HP12.out.has.frozen
                              have HBXs := HBX.out.size
                              clear hS12 hb12
                              cases grewB
                              all_goals
                                go_wp2
                                go_meet
                                case rel =>
                                  refine ⟨_, nx, An, cn, ?_, HTJ.out, by simp [World.setCell]; omega⟩
                                  rw [HN9.out]
                                  exact HP12.out.to_new2 HON12.out (by have := HP6.out.has.lt; omega) (fun z hz => own_lt HP6.out.other hz)
                      · as_aux_lemma =>
                          have κ3 : (x.kind == 3) = false := beq_eq_false_iff_ne.2 hk3
                          clear hk3
                          go_wp2_with fail
                          refine (less_sub b g N p bt gt M _ _ HP6.out.set HP6.out.tset (HT.out.below HB6w.out HT.out.pos)).mono ?_
                          rintro e w7 ⟨⟨_, rfl⟩, hS7, hb7⟩
                          have HP7 := Lib.hid (HP6.out.to_but hb7 hS7)
                          have hs7 := hb7.size
                          have hc7 : w7.cell? ⟨B13, 0, none⟩ = some (.slice A h7 c) := by rw [HH7.out]; exact HP7.out.has.cell
                          have hlt7 := HP7.out.has.lt
                          have HR7 : Hid (Reads w7 w7.heap.size 1 A h7 ((elsI p N).map iv)) := Lib.hid (by rw [HH7.out]; exact Reads.of_own HP7.out.own)
                          have HRO7 : Hid (Reads w7 w7.heap.size 1 Ao m7 ((otF M x.l).map iv)) := Lib.hid (by rw [HM7.out]; exact Reads.of_own HP7.out.other)
                          clear hS7 hb7 bd0 bd1
                          go_wp2_with fail
                          refine (without_any A h7 c (elsI p N) Ao m7 co (otF M x.l) _ (by exact HR7.out) (by omega) (by exact HRO7.out) (by omega)).mono ?_
                          rintro e w8 ⟨A8, c8, rfl, hown8, hb8⟩
                          have HB8 := Lib.hid hb8
                          have HO8 := Lib.hid hown8
                          have hc8 : w8.cell? ⟨B13, 0, none⟩ = some (.slice A h7 c) := (HB8.out.cell (p := ⟨B13, 0, none⟩) hlt7).trans hc7
                          have hf8 : w8.frozen? ⟨B13, 0, none⟩ = false := (HB8.out.frozen (p := ⟨B13, 0, none⟩) hlt7).trans HP7.out.has.frozen
                          clear hown8 hb8
                          go_wp2
                          go_meet
                          case rel => exact ⟨_, _, _, _, HP7.out.to_new HB8.out HO8.out, Tells.less hN2, by have := HB8.out.size; simp [World.setCell]; omega⟩
                case rest =>
                  as_aux_lemma =>
                    obtain ⟨p2, L, AL, cL, hP, hTl, hsz6⟩ := hcut
                    have HPc := Lib.hid hP
                    have HTE := Lib.hid hTl
                    have hLl : L.length ≤ 6000 := hTl.2.2
                    obtain ⟨nL, hnL⟩ : ∃ nL, nL = L.length := ⟨_, rfl⟩
                    have HNL := Lib.hid hnL
                    have hcc : wc.cell? ⟨B13, 0, none⟩ = some (.slice AL nL cL) := by rw [hnL]; exact hP.has.cell
                    have HRc : Hid (Reads wc wc.heap.size 1 AL nL (L.map iv)) := Lib.hid (by rw [hnL]; exact Reads.of_own hP.own)
                    have hltc := hP.has.lt
                    have hnLb : nL ≤ 6000 := by omega
                    clear hP hTl hnL bd0 bd1
                    go_wp2_with fail
                    refine (sorted_any AL nL cL L _ (by exact HRc.out) (by omega)).mono ?_
                    rintro e w7 ⟨A7, c7, rfl, hown7, hb7⟩
                    rw [HTE.out.srt] at hown7 ⊢
                    have HP7 := Lib.hid (HPc.out.to_new hb7 hown7)
                    have hc7 : w7.cell? ⟨B13, 0, none⟩ = some (.slice AL nL cL) := (hb7.cell (p := ⟨B13, 0, none⟩) hltc).trans hcc
                    have hf7 : w7.frozen? ⟨B13, 0, none⟩ = false := (hb7.frozen (p := ⟨B13, 0, none⟩) hltc).trans HPc.out.has.frozen
                    obtain ⟨h2, hh2'⟩ : ∃ h2, h2 = (elsI p2 N).length := ⟨_, rfl⟩
                    have hh22 : h2 ≤ 5000 := by rw [hh2', elsI_len]; have := els_len p2 N; omega
                    rw [← hh2'] at HP7 ⊢
                    have HH2 := Lib.hid hh2'
                    clear hown7 hb7 hh2'
                    obtain ⟨w8, hw8⟩ : ∃ w8, w8 = w7.setCell ⟨B13, 0, none⟩ (.slice A7 h2 c7) := ⟨_, rfl⟩
                    go_wp2_with fail
                    rw [← hw8] at HP7 ⊢
                    refine (copy_any b g N p2 _ HP7.out.set).mono ?_
                    rintro e w9 ⟨bc, gc, rfl, hbc, hgc, hSc, hb9⟩
                    have HP9 := Lib.hid (HP7.out.to_below hb9)
                    have HB9 := Lib.hid hb9
                    have HSC := Lib.hid hSc
                    have HBC : Hid (w8.heap.size ≤ bc ∧ w8.heap.size ≤ gc) := Lib.hid ⟨hbc, hgc⟩
                    have hc9 : w9.cell? ⟨B13, 0, none⟩ = some (.slice A7 h2 c7) := by rw [HH2.out]; exact HP9.out.has.cell
                    have HT9 := Lib.hid (HT.out.below HP9.out.below HT.out.pos)
                    have hb13w := HP9.out.has.lt
                    have HRH9 : Hid (Reads w9 w9.heap.size 1 A7 h2 ((elsI p2 N).map iv)) := Lib.hid (by rw [HH2.out]; exact Reads.of_own HP9.out.own)
                    have HRO9 : Hid (Reads w9 w9.heap.size 1 Ao m7 ((otF M x.l).map iv)) := Lib.hid (by rw [HM7.out]; exact Reads.of_own HP9.out.other)
                    clear hw8 hc7 hf7 hbc hgc hSc hb9 hcc
                    obtain ⟨sq, hsq⟩ : ∃ sq, sq = sameI (elsI p2 N) (elsI (memP M x.l) M) := ⟨_, rfl⟩
                    have HSQ := Lib.hid hsq
                    clear hsq
                    go_wp2_with fail
                    go_region_held3 (fun w' => w'.cell? ⟨B13, 0, none⟩ = some (.slice A7 h2 c7)) (go_keep) ((first
                      | (go_at_call 18; have HRX := HR12.out; refine (sameI_any A7 A12 h2 _ c7 c12 (elsI p2 N) _ _ (by exact HRH12.out) (by exact HRX) (by omega)).mono ?_; clear HRX; rintro e w13 ⟨rfl, hb13⟩; have HB13 : Hid (Below w9.heap.size w9 w13) := Lib.hid (HB12.out.trans (hb13.mono HB12.out.size)); rw [← HSQ.out]; clear hb13; have hc13 : w13.cell? ⟨B13, 0, none⟩ = some (.slice A7 h2 c7) := (HB13.out.cell (p := ⟨B13, 0, none⟩) hb13w).trans hc9)
                      | (go_at_call 21; have HRX := HB11.out; refine (sorted_any Ao m7 co (otF M x.l) _ (by exact (HRO9.out.below HRX).more HRX.size) (by omega)).mono ?_; clear HRX; rintro e w12 ⟨A12, c12, rfl, hown12, hb12⟩; rw [srt_other] at hown12 ⊢; have HB12 : Hid (Below w9.heap.size w9 w12) := Lib.hid (HB11.out.trans (hb12.mono HB11.out.size)); have HR12 := Lib.hid (Reads.of_own hown12); have HRH12 := Lib.hid ((HRH9.out.below HB12.out).more HB12.out.size); clear hown12 hb12; have hc12 : w12.cell? ⟨B13, 0, none⟩ = some (.slice A7 h2 c7) := (HB12.out.cell (p := ⟨B13, 0, none⟩) hb13w).trans hc9)
                      | (go_at_call 16; have HRX := HB10.out; refine (same_any b g N p2 bt gt M (memP M x.l) _ (by exact HP9.out.set.belowW HRX) (by exact HP9.out.tset.belowW HRX) (by exact HT9.out.below HRX HT9.out.pos)).mono ?_; clear HRX; rintro e w11 ⟨rfl, hb11⟩; have HB11 : Hid (Below w9.heap.size w9 w11) := Lib.hid (HB10.out.trans (hb11.mono HB10.out.size)); rw [← HSQ.out]; clear hb11; have hc11 : w11.cell? ⟨B13, 0, none⟩ = some (.slice A7 h2 c7) := (HB11.out.cell (p := ⟨B13, 0, none⟩) hb13w).trans hc9)
                      | (go_at_call 16; refine (same_any bc gc N p2 b g N p2 _ (by exact HSC.out) (by exact HP9.out.set) (by exact HT9.out)).mono ?_; rintro e w10 ⟨rfl, hb10⟩; have HB10 : Hid (Below w9.heap.size w9 w10) := Lib.hid ((Below.refl w9.heap.size w9).drew.trans hb10); rw [sameI_congr (N := N) (fun j => rfl)]; clear hb10; have hc10 : w10.cell? ⟨B13, 0, none⟩ = some (.slice A7 h2 c7) := (HB10.out.cell (p := ⟨B13, 0, none⟩) hb13w).trans hc9)))
                    have HB13w8 : Hid (Below w8.heap.size w8 w13) := Lib.hid (HB9.out.trans (HB13.out.mono HB9.out.size))
                    have HSC13 := Lib.hid (HSC.out.belowW HB13.out)
                    clear hc9 hc10 hc11 hc12 hc13
                    go_wp2_with fail
                    refine (add_any bc gc N 0 p2 _ HSC13.out).mono ?_
                    rintro e w14 ⟨rfl, hS14, hb14⟩
                    have HS14 := Lib.hid hS14
                    have HB14 : Hid (Below w8.heap.size w8 w14) := Lib.hid (HB13w8.out.trans (hb14.below HBC.out.2 HB13w8.out.size))
                    clear hS14 hb14
                    go_wp2_with fail
                    refine (drop_any bc gc N 1 _ _ HS14.out).mono ?_
                    rintro e w15 ⟨rfl, hS15, hb15⟩
                    have HB15 : Hid (Below w8.heap.size w8 w15) := Lib.hid (HB14.out.trans (hb15.below HBC.out.2 HB14.out.size))
                    have HP15 := Lib.hid (HP7.out.to_below HB15.out)
                    have HT15 := Lib.hid (HT.out.below HP15.out.below HT.out.pos)
                    have hb13x := HP15.out.has.lt
                    have hc15 : w15.cell? ⟨B13, 0, none⟩ = some (.slice A7 h2 c7) := by rw [HH2.out]; exact HP15.out.has.cell
                    have HRH15 : Hid (Reads w15 w15.heap.size 1 A7 h2 ((elsI p2 N).map iv)) := Lib.hid (by rw [HH2.out]; exact Reads.of_own HP15.out.own)
                    have HRO15 : Hid (Reads w15 w15.heap.size 1 Ao m7 ((otF M x.l).map iv)) := Lib.hid (by rw [HM7.out]; exact Reads.of_own HP15.out.other)
                    have HLN : Hid ((els p2 N).length = h2) := Lib.hid (by rw [HH2.out, elsI_len])
                    obtain ⟨asB, has⟩ : ∃ asB, asB = hasZ p2 a3 := ⟨_, rfl⟩
                    have HAS := Lib.hid has
                    have HAM : Hid (amongI (elsI p2 N) a3 = asB) := Lib.hid (by rw [has, among_els p2 N a3 (fun j hj => HP15.out.set.lt hj)])
                    clear has hS15 hb15 hb13w
                    go_wp2_with fail
                    go_region_held3 (fun w' => w'.cell? ⟨B13, 0, none⟩ = some (.slice A7 h2 c7)) (go_keep) ((first
                      | (go_at_call 18; have HRX := HR22.out; refine (sameI_any A21 A22 _ _ c21 c22 _ _ _ (by exact HR21b.out) (by exact HRX) (by rw [elsI_len]; have := els_len (memP M x.l) M; omega)).mono ?_; clear HRX; rintro e w23 ⟨rfl, hb23⟩; have HB23 : Hid (Below w15.heap.size w15 w23) := Lib.hid (HB22.out.trans (hb23.mono HB22.out.size)); rw [show sameI (elsI (memP M x.l) M) (elsI (memP M x.l) M) = true by simp [sameI]]; clear hb23; have hc23 : w23.cell? ⟨B13, 0, none⟩ = some (.slice A7 h2 c7) := (HB23.out.cell (p := ⟨B13, 0, none⟩) hb13x).trans hc15)
                      | (go_at_call 21; have HRX := HB21.out; refine (sorted_any Ao m7 co (otF M x.l) _ (by exact (HRO15.out.below HRX).more HRX.size) (by omega)).mono ?_; clear HRX; rintro e w22 ⟨A22, c22, rfl, hown22, hb22⟩; rw [srt_other] at hown22 ⊢; have HB22 : Hid (Below w15.heap.size w15 w22) := Lib.hid (HB21.out.trans (hb22.mono HB21.out.size)); have HR22 := Lib.hid (Reads.of_own hown22); have HR21b := Lib.hid ((HR21.out.below hb22).more hb22.size); clear hown22 hb22; have hc22 : w22.cell? ⟨B13, 0, none⟩ = some (.slice A7 h2 c7) := (HB22.out.cell (p := ⟨B13, 0, none⟩) hb13x).trans hc15)
                      | (go_at_call 14; have HRX := tokA; refine (list_any bt gt M (memP M x.l) _ (by exact HP15.out.tset.belowW HB17.out) (by exact HT15.out.below HB17.out HT15.out.pos)).mono ?_; clear HRX; rintro e w21 ⟨v21, rfl, hown21, hb21⟩; obtain ⟨A21, c21, rfl, hr21⟩ := own_reads hown21; have HB21 : Hid (Below w15.heap.size w15 w21) := Lib.hid (HB17.out.trans (hb21.mono HB17.out.size)); have HR21 := Lib.hid hr21; clear hown21 hb21 hr21; have hc21 : w21.cell? ⟨B13, 0, none⟩ = some (.slice A7 h2 c7) := (HB21.out.cell (p := ⟨B13, 0, none⟩) hb13x).trans hc15)
                      | (go_at_call 17; have HRX := HB17.out; refine (among_any A7 h2 c7 (elsI p2 N) a3 _ (by exact (HRH15.out.below HRX).more HRX.size) (by omega)).mono ?_; clear HRX; rintro e w20 ⟨rfl, rfl⟩; rw [HAM.out]; have tokA : True := trivial)
                      | (go_at_call 12; have HRX := HB17.out; refine (has_any b g N a3 p2 _ (by exact HP15.out.set.belowW HRX)).mono ?_; clear HRX; rintro e w20 ⟨rfl, rfl⟩; rw [← HAS.out])
                      | (go_at_call 11; have HRX := HB17.out; refine (len_any b g N p2 _ (by exact HP15.out.set.belowW HRX)).mono ?_; clear HRX; rintro e w20 ⟨rfl, rfl⟩; rw [HLN.out])
                      | (go_at_call 18; have HRX := HR16.out; refine (sameI_any A16 A7 _ h2 c16 c7 _ (elsI p2 N) _ (by exact HRX) (by exact (HRH15.out.below HB16.out).more HB16.out.size) (by rw [elsI_len]; have := els_len p2 N; omega)).mono ?_; clear HRX; rintro e w17 ⟨rfl, hb17⟩; have HB17 : Hid (Below w15.heap.size w15 w17) := Lib.hid (HB16.out.trans (hb17.mono HB16.out.size)); rw [show sameI (elsI p2 N) (elsI p2 N) = true by simp [sameI]]; clear hb17; have hc17 : w17.cell? ⟨B13, 0, none⟩ = some (.slice A7 h2 c7) := (HB17.out.cell (p := ⟨B13, 0, none⟩) hb13x).trans hc15)
                      | (go_at_call 14; refine (list_any b g N p2 _ (by exact HP15.out.set) (by exact HT15.out)).mono ?_; rintro e w16 ⟨v16, rfl, hown16, hb16⟩; obtain ⟨A16, c16, rfl, hr16⟩ := own_reads hown16; have HB16 : Hid (Below w15.heap.size w15 w16) := Lib.hid ((Below.refl w15.heap.size w15).drew.trans hb16); have HR16 := Lib.hid hr16; clear hown16 hb16 hr16; have hc16 : w16.cell? ⟨B13, 0, none⟩ = some (.slice A7 h2 c7) := (HB16.out.cell (p := ⟨B13, 0, none⟩) hb13x).trans hc15)))
                    have HP23 := Lib.hid (HP15.out.to_below HB23.out)
                    clear hc17 hc21 hc22 hc23 hc16 hc15
                    go_wp2
                    refine ⟨⟨k + 1, p2, A7, c7, by omega, by go_num, HP23.out.set, HP23.out.has, HP23.out.own, HP23.out.res, HP23.out.sto, HP23.out.below⟩, by simp [intOf]; omega⟩
    · as_aux_lemma =>
        have hsc := HS.out.sizes
        have hHc := HH.out.cell
        go_wp2
        have hHB := HH.out.lt
        refine wp_loop_rounds 3 ?_
        rw [rounds_succ]
        go_wp2_with fail
        refine (each_any b _).mono ?_
        rintro e w3 ⟨rfl, rfl⟩
        have hz := HB.out.size
        have hpos := HS.out.pos
        have bI := Boxed.new wr 3 (.int .i64 0)
        have bJ := Boxed.new (wr.alloc (.cells #[.int .i64 0] 3)) 3 (.int .i64 0)
        have bE := Boxed.new ((wr.alloc (.cells #[.int .i64 0] 3)).alloc (.cells #[.int .i64 0] 3)) 23 (.pointer (some ⟨b, 0, none⟩))
        rw [World.size_alloc] at bJ
        rw [World.size_alloc, World.size_alloc] at bE
        obtain ⟨w3, hw3⟩ : ∃ w3, w3 = ((wr.alloc (.cells #[.int .i64 0] 3)).alloc (.cells #[.int .i64 0] 3)).alloc (.cells #[.pointer (some ⟨b, 0, none⟩)] 23) := ⟨_, rfl⟩
        have HB3 : Hid (Below wr.heap.size wr w3) := Lib.hid (by rw [hw3]; exact (((Below.refl _ _).alloc (Nat.le_refl _) _).alloc (by simp) _).alloc (by simp; omega) _)
        have hs3 : w3.heap.size = wr.heap.size + 3 := by rw [hw3]; simp
        have HE3 : Hid (Boxed w3 (wr.heap.size + 2) 23 (.pointer (some ⟨b, 0, none⟩))) := Lib.hid (by rw [hw3]; exact bE)
        have HIv : Hid (EIv w b g N B13 wr.heap.size (wr.heap.size + 1) p a4 0 (elsI p N) A c [] w3) := Lib.hid (by
          refine ⟨List.nil_prefix, ⟨?_, ?_, ⟨_, (HB3.out.block _ HH.out.lt).trans HH.out, own_below HO.out HB3.out, rfl⟩, (HB3.out.block _ HR.out.lt).trans HR.out, (HB3.out.block _ HSt.out.lt).trans HSt.out, HS.out.belowW HB3.out⟩, HB.out.trans (HB3.out.mono HB.out.size)⟩
          · rw [hw3]; exact (bI.alloc _).alloc _
          · rw [hw3]; exact bJ.alloc _)
        go_wp2_with fail
        rw [← hw3]
        clear hw3 bI bJ bE hHc
        have HZ : Hid (∀ z, (Value.slice A (elsI p N).length c).ownBlock = some z → z < wr.heap.size + 1) := Lib.hid (fun z hz => by have := own_lt HO.out hz; omega)
        refine (wpIn_wide (n := 9)).1 ?_
        refine wpIn_rangeFunc_ownG rfl (by omega) (gf := 30) (lb := #[.pointer (some ⟨wr.heap.size + 2, 0, none⟩)]) rfl trivial (enters_of Tryd.func30 (by kernel_rfl) rfl)
          (each_stops _ (wr.heap.size + 2) b g N p _ (HS.out.belowW HB3.out) HE3.out (HT.out.below (HB.out.trans (HB3.out.mono HB.out.size)) HT.out.pos)) (fun h k => Kept.t h k) (Kept.b (by omega) (by omega) (by omega)) (Below.refl _ _) (fun _ => rfl)
          (EIv w b g N B13 wr.heap.size (wr.heap.size + 1) p a4 0 (elsI p N) A c)
          (fun cd pre W => (cd = .ret ∧ ¬ pre <+: elsI p N) ∨ (cd = .exit 9 ∧ (pre.length : Int) = a4 ∧ EIv w b g N B13 wr.heap.size (wr.heap.size + 1) p a4 0 (elsI p N) A c pre W))
          (EIv.own (by omega))
          (fun cd s X Y row h hg hr => h.elim (fun h => .inl h) (fun h => .inr ⟨h.1, h.2.1, EIv.own (by omega) s X Y row h.2.2 hg hr⟩))
          HIv.out ?a1 ?assign ?body ?done ?stop
        case assign =>
          intro l x W K hK
          gi_wp2
          exact hK
        case body =>
          as_aux_lemma =>
            rintro l pre x W hEI hlt
            have HEI := Lib.hid hEI
            obtain ⟨hpre, ⟨hb25, hb26, ⟨v, hb13, hown, rfl⟩, hres, hsto, hset⟩, hbw⟩ := hEI
            obtain ⟨ad, y, hA, had, hy, hcell⟩ := iv_at (Reads.of_own hown) hlt
            obtain ⟨q, hq⟩ : ∃ q, q = pre.length := ⟨_, rfl⟩
            obtain ⟨h, hh⟩ : ∃ h, h = (elsI p N).length := ⟨_, rfl⟩
            have hh2 : h ≤ 5000 := by rw [hh, elsI_len]; have := els_len p N; omega
            have hqh : q < h := by omega
            have c25 := hb25.cell
            have c26 := hb26.cell
            have f26 := hb26.frozen
            have c13 := hb13.cell
            have cS := hsto.cell
            have cR := hres.cell
            have fR := hres.frozen
            rw [hA, ← hh] at c13
            rw [← hq] at c26 hcell
            have HPRE := Lib.hid hpre
            have HY := Lib.hid hy
            have HQ := Lib.hid hq
            have H25 := Lib.hid hb25
            have H26 := Lib.hid hb26
            have H13 := Lib.hid hb13
            have HOW := Lib.hid hown
            have HRS := Lib.hid hres
            have HST := Lib.hid hsto
            have HSE := Lib.hid hset
            have HBW := Lib.hid hbw
            have u1 : decide ((h : Int) ≤ (q : Int)) = false := by simp; omega
            have u2 : decide (h ≤ q) = false := by simp; omega
            have q0 : (0 : Int) ≤ (q : Int) := by omega
            have q1 : (q : Int) < (h : Int) := by omega
            clear hpre hy hq hb25 hb26 hb13 hown hres hsto hset hbw hA hh hlt
            by_cases hxy : y = x
            · have u3 : (y == x) = true := by simp [hxy]
              have u4 : (y != x) = false := by simp [hxy]
              have HPX : Hid (pre ++ [x] <+: elsI p N) := Lib.hid (pre_snoc HPRE.out (by rw [← hxy]; exact HY.out))
              clear hxy
              by_cases hst : (q : Int) + 1 = a4
              · have u5 : ((q : Int) + 1 == a4) = true := by simp [hst]
                have HSTP : Hid (((pre ++ [x]).length : Int) = a4) := Lib.hid (by rw [← hst, HQ.out]; simp)
                clear hst
                gi_wp2
                exact ⟨(KeepsOthers.setCell _ _ _).from _, .inr ⟨rfl, HSTP.out, HEI.out.step HQ.out HPX.out (by omega) (by omega) (by omega) HZ.out⟩⟩
              · have u5 : ((q : Int) + 1 == a4) = false := beq_eq_false_iff_ne.2 hst
                clear hst
                gi_wp2
                exact ⟨(KeepsOthers.setCell _ _ _).from _, fun k hk => Below.heap_setCell _ _ _ k (by simp; omega), HEI.out.step HQ.out HPX.out (by omega) (by omega) (by omega) HZ.out⟩
            · have u3 : (y == x) = false := beq_eq_false_iff_ne.2 hxy
              have u4 : (y != x) = true := by rw [bne_iff_ne]; exact hxy
              have HNX : Hid (¬ pre ++ [x] <+: elsI p N) := Lib.hid (pre_not HY.out hxy)
              clear hxy
              gi_wp2
              exact ⟨(KeepsOthers.setCell _ _ _).from _, .inl ⟨rfl, HNX.out⟩⟩
        case done =>
          rintro D ys W hD rfl hE hK
          have hE' := hE
          obtain ⟨_, ⟨hb25, hb26, ⟨v, hb13, hown, rfl⟩, hres, hsto, hset⟩, hbw⟩ := hE'
          have c25 := hb25.cell
          have c26 := hb26.cell
          have c13 := hb13.cell
          obtain ⟨h, hh⟩ : ∃ h, h = (elsI p N).length := ⟨_, rfl⟩
          rw [← hh] at c26 c13
          have HE := Lib.hid hE
          have HK := Lib.hid hK
          clear hb25 hb26 hb13 hown hres hsto hset hbw hh hE hK
          go_wp2
          rw [rounds_succ]
          go_wp2_with fail
          refine (each_any b _).mono ?_
          rintro e w4 ⟨rfl, rfl⟩
          have bI := Boxed.new W 3 (.int .i64 1)
          have bJ := Boxed.new (W.alloc (.cells #[.int .i64 1] 3)) 3 (.int .i64 0)
          have bE := Boxed.new ((W.alloc (.cells #[.int .i64 1] 3)).alloc (.cells #[.int .i64 0] 3)) 23 (.pointer (some ⟨b, 0, none⟩))
          rw [World.size_alloc] at bJ
          rw [World.size_alloc, World.size_alloc] at bE
          obtain ⟨w4, hw4⟩ : ∃ w4, w4 = ((W.alloc (.cells #[.int .i64 1] 3)).alloc (.cells #[.int .i64 0] 3)).alloc (.cells #[.pointer (some ⟨b, 0, none⟩)] 23) := ⟨_, rfl⟩
          have HB4 : Hid (Below W.heap.size W w4) := Lib.hid (by rw [hw4]; exact (((Below.refl _ _).alloc (Nat.le_refl _) _).alloc (by simp) _).alloc (by simp; omega) _)
          have hs4 : w4.heap.size = W.heap.size + 3 := by rw [hw4]; simp
          have HE4 : Hid (Boxed w4 (W.heap.size + 2) 23 (.pointer (some ⟨b, 0, none⟩))) := Lib.hid (by rw [hw4]; exact bE)
          have HIv2 : Hid (EIv w b g N B13 W.heap.size (W.heap.size + 1) p a4 1 (elsI p N) A c [] w4) := Lib.hid (HE.out.next HB4.out (by rw [hw4]; exact (bI.alloc _).alloc _) (by rw [hw4]; exact bJ.alloc _))
          have hDlt : D < W.heap.size := (Array.getElem?_eq_some_iff.1 HK.out).1
          have HK4 : Hid (w4.heap[D]? = some (.deferred (some []))) := Lib.hid ((HB4.out.block D hDlt).trans HK.out)
          have hWs : w3.heap.size ≤ D := by simpa using hD
          have hbg : b < W.heap.size ∧ g < W.heap.size := HE.out.2.1.2.2.2.2.2.sizes
          have hb13W : B13 < W.heap.size := by obtain ⟨v, h3, _⟩ := HE.out.2.1.2.2.1; exact h3.lt
          have hresW : w.heap.size + 1 < W.heap.size := HE.out.2.1.2.2.2.1.lt
          have HZ2 : Hid (∀ z, (Value.slice A (elsI p N).length c).ownBlock = some z → z < W.heap.size + 1) := Lib.hid (fun z hz => by have := HZ.out z hz; omega)
          go_wp2_with fail
          rw [← hw4]
          clear hw4 bI bJ bE
          refine (wpIn_wide (n := 9)).1 ?_
          refine wpIn_rangeFunc_ownG rfl (by omega) (gf := 30) (lb := #[.pointer (some ⟨W.heap.size + 2, 0, none⟩)]) rfl trivial (enters_of Tryd.func30 (by kernel_rfl) rfl)
            (each_stops _ (W.heap.size + 2) b g N p _ HIv2.out.2.1.2.2.2.2.2 HE4.out (HT.out.below HIv2.out.2.2 HT.out.pos)) (fun h k => Kept.t h k) (Kept.b (by omega) (by omega) (by omega)) (Below.refl _ _) (fun _ => rfl)
            (fun pre V => EIv w b g N B13 W.heap.size (W.heap.size + 1) p a4 1 (elsI p N) A c pre V ∧ V.heap[D]? = some (.deferred (some [])))
            (fun cd pre V => cd = .ret ∧ ¬ pre <+: elsI p N)
            (OwnFrom.and (EIv.own (by omega)) (ownFrom_obj (by omega)))
            (fun cd s X Y row h hg hr => h)
            ⟨HIv2.out, HK4.out⟩ ?b1x2 ?assign2x2 ?body2x2 ?done2x2 ?stop2x2
          case assign2x2 =>
            intro l x W K hK
            gi_wp2
            exact hK
          case body2x2 =>
            rintro l pre x V ⟨hEI, hKD⟩ hlt
            have HEI := Lib.hid hEI
            have HKD := Lib.hid hKD
            obtain ⟨hpre, ⟨hb25, hb26, ⟨v, hb13, hown, rfl⟩, hres, hsto, hset⟩, hbw⟩ := hEI
            obtain ⟨ad, y, hA, had, hy, hcell⟩ := iv_at (Reads.of_own hown) hlt
            obtain ⟨q, hq⟩ : ∃ q, q = pre.length := ⟨_, rfl⟩
            obtain ⟨h, hh⟩ : ∃ h, h = (elsI p N).length := ⟨_, rfl⟩
            have hh2 : h ≤ 5000 := by rw [hh, elsI_len]; have := els_len p N; omega
            have hqh : q < h := by omega
            have c25 := hb25.cell
            have c26 := hb26.cell
            have f26 := hb26.frozen
            have c13 := hb13.cell
            have cS := hsto.cell
            have cR := hres.cell
            have fR := hres.frozen
            rw [hA, ← hh] at c13
            rw [← hq] at c26 hcell
            have HY := Lib.hid hy
            have HPRE := Lib.hid hpre
            have HQ := Lib.hid hq
            have u1 : decide ((h : Int) ≤ (q : Int)) = false := by simp; omega
            have u2 : decide (h ≤ q) = false := by simp; omega
            have q0 : (0 : Int) ≤ (q : Int) := by omega
            have q1 : (q : Int) < (h : Int) := by omega
            clear hpre hy hq hb25 hb26 hb13 hown hres hsto hset hbw hA hh hlt hKD
            by_cases hxy : y = x
            · have u3 : (y == x) = true := by simp [hxy]
              have u4 : (y != x) = false := by simp [hxy]
              have HPX : Hid (pre ++ [x] <+: elsI p N) := Lib.hid (pre_snoc HPRE.out (by rw [← hxy]; exact HY.out))
              clear hxy
              gi_wp2
              exact ⟨(KeepsOthers.setCell _ _ _).from _, fun k hk => Below.heap_setCell _ _ _ k (by simp; omega), HEI.out.step HQ.out HPX.out (by omega) (by omega) (by omega) HZ2.out, (Below.heap_setCell _ _ _ D (by simp; omega)).trans HKD.out⟩
            · have u3 : (y == x) = false := beq_eq_false_iff_ne.2 hxy
              have u4 : (y != x) = true := by rw [bne_iff_ne]; exact hxy
              have HNX : Hid (¬ pre ++ [x] <+: elsI p N) := Lib.hid (pre_not HY.out hxy)
              clear hxy
              gi_wp2
              exact ⟨(KeepsOthers.setCell _ _ _).from _, rfl, HNX.out⟩
          case done2x2 =>
            rintro D2 ys V hD2 rfl ⟨hE2, hKD⟩ hK2
            have hE2' := hE2
            obtain ⟨_, ⟨hb25, hb26, ⟨v, hb13, hown, rfl⟩, hres, hsto, hset⟩, hbw⟩ := hE2'
            have c25 := hb25.cell
            have f25 := hb25.frozen
            have c26 := hb26.cell
            have c13 := hb13.cell
            have cR := hres.cell
            have fR := hres.frozen
            obtain ⟨h, hh⟩ : ∃ h, h = (elsI p N).length := ⟨_, rfl⟩
            rw [← hh] at c26 c13
            have HV := Lib.hid hE2
            have HK2 := Lib.hid hK2
            have HKD := Lib.hid hKD
            have HRV := Lib.hid hres
            have hresV := hres.lt
            clear hb25 hb26 hb13 hown hres hsto hset hbw hh hE2 hK2 hKD
            go_wp2
            rw [rounds_succ]
            go_wp2
            obtain ⟨W2, W3, f1, f2, f3, f4⟩ := fin_two (P := Tryd.prog) (o := .cells #[.int .i64 2] 3) HRV.out (by omega) (by omega) HKD.out HK2.out HV.out.2.2 (by omega)
            refine ⟨by simp, .inl ⟨_, _, rfl, f1, ?_⟩⟩
            refine ⟨by simp, .inl ⟨_, _, rfl, f2, ?_⟩⟩
            refine ⟨_, ?_, rfl, f4⟩
            simp [results, Tryd.f5, go_sem, f3]
          case stop2x2 =>
            rintro D2 cd pre V hD2 hSp ⟨rfl, hnot⟩ hK2
            exact absurd hSp hnot
        case stop =>
          rintro D cd pre W hD hSp hIx hK
          rcases hIx with ⟨rfl, hnot⟩ | ⟨rfl, hst, hE⟩
          · exact absurd hSp hnot
          · have hE' := hE
            obtain ⟨_, ⟨hb25, hb26, ⟨v, hb13, hown, rfl⟩, hres, hsto, hset⟩, hbw⟩ := hE'
            have c25 := hb25.cell
            have c26 := hb26.cell
            have c13 := hb13.cell
            have cS := hsto.cell
            obtain ⟨h, hh⟩ : ∃ h, h = (elsI p N).length := ⟨_, rfl⟩
            obtain ⟨q, hq⟩ : ∃ q, q = pre.length := ⟨_, rfl⟩
            rw [← hq] at c26 hst
            rw [← hh] at c13
            have u1 : ((q : Int) == a4) = true := by simp [hst]
            have HE := Lib.hid hE
            have HK := Lib.hid hK
            clear hb25 hb26 hb13 hown hres hsto hset hbw hh hE hK hq hst
            refine wpIn_wide.2 ?_
            by_cases hqh : q = h
            · have u2 : ((q : Int) != (h : Int)) = false := by simp [hqh]
              have u3 : (q != h) = false := by simp [hqh]
              clear hqh
              go_wp2
              rw [rounds_succ]
              go_wp2_with fail
              refine (each_any b _).mono ?_
              rintro e w4 ⟨rfl, rfl⟩
              have bI := Boxed.new W 3 (.int .i64 1)
              have bJ := Boxed.new (W.alloc (.cells #[.int .i64 1] 3)) 3 (.int .i64 0)
              have bE := Boxed.new ((W.alloc (.cells #[.int .i64 1] 3)).alloc (.cells #[.int .i64 0] 3)) 23 (.pointer (some ⟨b, 0, none⟩))
              rw [World.size_alloc] at bJ
              rw [World.size_alloc, World.size_alloc] at bE
              obtain ⟨w4, hw4⟩ : ∃ w4, w4 = ((W.alloc (.cells #[.int .i64 1] 3)).alloc (.cells #[.int .i64 0] 3)).alloc (.cells #[.pointer (some ⟨b, 0, none⟩)] 23) := ⟨_, rfl⟩
              have HB4 : Hid (Below W.heap.size W w4) := Lib.hid (by rw [hw4]; exact (((Below.refl _ _).alloc (Nat.le_refl _) _).alloc (by simp) _).alloc (by simp; omega) _)
              have hs4 : w4.heap.size = W.heap.size + 3 := by rw [hw4]; simp
              have HE4 : Hid (Boxed w4 (W.heap.size + 2) 23 (.pointer (some ⟨b, 0, none⟩))) := Lib.hid (by rw [hw4]; exact bE)
              have HIv2 : Hid (EIv w b g N B13 W.heap.size (W.heap.size + 1) p a4 1 (elsI p N) A c [] w4) := Lib.hid (HE.out.next HB4.out (by rw [hw4]; exact (bI.alloc _).alloc _) (by rw [hw4]; exact bJ.alloc _))
              have hDlt : D < W.heap.size := (Array.getElem?_eq_some_iff.1 HK.out).1
              have HK4 : Hid (w4.heap[D]? = some (.deferred (some []))) := Lib.hid ((HB4.out.block D hDlt).trans HK.out)
              have hWs : w3.heap.size ≤ D := by simpa using hD
              have hbg : b < W.heap.size ∧ g < W.heap.size := HE.out.2.1.2.2.2.2.2.sizes
              have hb13W : B13 < W.heap.size := by obtain ⟨v, h3, _⟩ := HE.out.2.1.2.2.1; exact h3.lt
              have hresW : w.heap.size + 1 < W.heap.size := HE.out.2.1.2.2.2.1.lt
              have HZ2 : Hid (∀ z, (Value.slice A (elsI p N).length c).ownBlock = some z → z < W.heap.size + 1) := Lib.hid (fun z hz => by have := HZ.out z hz; omega)
              go_wp2_with fail
              rw [← hw4]
              clear hw4 bI bJ bE
              refine (wpIn_wide (n := 9)).1 ?_
              refine wpIn_rangeFunc_ownG rfl (by omega) (gf := 30) (lb := #[.pointer (some ⟨W.heap.size + 2, 0, none⟩)]) rfl trivial (enters_of Tryd.func30 (by kernel_rfl) rfl)
                (each_stops _ (W.heap.size + 2) b g N p _ HIv2.out.2.1.2.2.2.2.2 HE4.out (HT.out.below HIv2.out.2.2 HT.out.pos)) (fun h k => Kept.t h k) (Kept.b (by omega) (by omega) (by omega)) (Below.refl _ _) (fun _ => rfl)
                (fun pre V => EIv w b g N B13 W.heap.size (W.heap.size + 1) p a4 1 (elsI p N) A c pre V ∧ V.heap[D]? = some (.deferred (some [])))
                (fun cd pre V => cd = .ret ∧ ¬ pre <+: elsI p N)
                (OwnFrom.and (EIv.own (by omega)) (ownFrom_obj (by omega)))
                (fun cd s X Y row h hg hr => h)
                ⟨HIv2.out, HK4.out⟩ ?b1x3 ?assign2x3 ?body2x3 ?done2x3 ?stop2x3
              case assign2x3 =>
                intro l x W K hK
                gi_wp2
                exact hK
              case body2x3 =>
                rintro l pre x V ⟨hEI, hKD⟩ hlt
                have HEI := Lib.hid hEI
                have HKD := Lib.hid hKD
                obtain ⟨hpre, ⟨hb25, hb26, ⟨v, hb13, hown, rfl⟩, hres, hsto, hset⟩, hbw⟩ := hEI
                obtain ⟨ad, y, hA, had, hy, hcell⟩ := iv_at (Reads.of_own hown) hlt
                obtain ⟨q, hq⟩ : ∃ q, q = pre.length := ⟨_, rfl⟩
                obtain ⟨h, hh⟩ : ∃ h, h = (elsI p N).length := ⟨_, rfl⟩
                have hh2 : h ≤ 5000 := by rw [hh, elsI_len]; have := els_len p N; omega
                have hqh : q < h := by omega
                have c25 := hb25.cell
                have c26 := hb26.cell
                have f26 := hb26.frozen
                have c13 := hb13.cell
                have cS := hsto.cell
                have cR := hres.cell
                have fR := hres.frozen
                rw [hA, ← hh] at c13
                rw [← hq] at c26 hcell
                have HY := Lib.hid hy
                have HPRE := Lib.hid hpre
                have HQ := Lib.hid hq
                have u1 : decide ((h : Int) ≤ (q : Int)) = false := by simp; omega
                have u2 : decide (h ≤ q) = false := by simp; omega
                have q0 : (0 : Int) ≤ (q : Int) := by omega
                have q1 : (q : Int) < (h : Int) := by omega
                clear hpre hy hq hb25 hb26 hb13 hown hres hsto hset hbw hA hh hlt hKD
                by_cases hxy : y = x
                · have u3 : (y == x) = true := by simp [hxy]
                  have u4 : (y != x) = false := by simp [hxy]
                  have HPX : Hid (pre ++ [x] <+: elsI p N) := Lib.hid (pre_snoc HPRE.out (by rw [← hxy]; exact HY.out))
                  clear hxy
                  gi_wp2
                  exact ⟨(KeepsOthers.setCell _ _ _).from _, fun k hk => Below.heap_setCell _ _ _ k (by simp; omega), HEI.out.step HQ.out HPX.out (by omega) (by omega) (by omega) HZ2.out, (Below.heap_setCell _ _ _ D (by simp; omega)).trans HKD.out⟩
                · have u3 : (y == x) = false := beq_eq_false_iff_ne.2 hxy
                  have u4 : (y != x) = true := by rw [bne_iff_ne]; exact hxy
                  have HNX : Hid (¬ pre ++ [x] <+: elsI p N) := Lib.hid (pre_not HY.out hxy)
                  clear hxy
                  gi_wp2
                  exact ⟨(KeepsOthers.setCell _ _ _).from _, rfl, HNX.out⟩
              case done2x3 =>
                rintro D2 ys V hD2 rfl ⟨hE2, hKD⟩ hK2
                have hE2' := hE2
                obtain ⟨_, ⟨hb25, hb26, ⟨v, hb13, hown, rfl⟩, hres, hsto, hset⟩, hbw⟩ := hE2'
                have c25 := hb25.cell
                have f25 := hb25.frozen
                have c26 := hb26.cell
                have c13 := hb13.cell
                have cR := hres.cell
                have fR := hres.frozen
                obtain ⟨h, hh⟩ : ∃ h, h = (elsI p N).length := ⟨_, rfl⟩
                rw [← hh] at c26 c13
                have HV := Lib.hid hE2
                have HK2 := Lib.hid hK2
                have HKD := Lib.hid hKD
                have HRV := Lib.hid hres
                have hresV := hres.lt
                clear hb25 hb26 hb13 hown hres hsto hset hbw hh hE2 hK2 hKD
                go_wp2
                rw [rounds_succ]
                go_wp2
                obtain ⟨W2, W3, f1, f2, f3, f4⟩ := fin_two (P := Tryd.prog) (o := .cells #[.int .i64 2] 3) HRV.out (by omega) (by omega) HKD.out HK2.out HV.out.2.2 (by omega)
                refine ⟨by simp, .inl ⟨_, _, rfl, f1, ?_⟩⟩
                refine ⟨by simp, .inl ⟨_, _, rfl, f2, ?_⟩⟩
                refine ⟨_, ?_, rfl, f4⟩
                simp [results, Tryd.f5, go_sem, f3]
              case stop2x3 =>
                rintro D2 cd pre V hD2 hSp ⟨rfl, hnot⟩ hK2
                exact absurd hSp hnot
            · have u2 : ((q : Int) != (h : Int)) = true := by rw [bne_iff_ne]; omega
              have u3 : (q != h) = true := by rw [bne_iff_ne]; exact hqh
              clear hqh
              go_wp2
              rw [rounds_succ]
              go_wp2_with fail
              refine (each_any b _).mono ?_
              rintro e w4 ⟨rfl, rfl⟩
              have bI := Boxed.new W 3 (.int .i64 1)
              have bJ := Boxed.new (W.alloc (.cells #[.int .i64 1] 3)) 3 (.int .i64 0)
              have bE := Boxed.new ((W.alloc (.cells #[.int .i64 1] 3)).alloc (.cells #[.int .i64 0] 3)) 23 (.pointer (some ⟨b, 0, none⟩))
              rw [World.size_alloc] at bJ
              rw [World.size_alloc, World.size_alloc] at bE
              obtain ⟨w4, hw4⟩ : ∃ w4, w4 = ((W.alloc (.cells #[.int .i64 1] 3)).alloc (.cells #[.int .i64 0] 3)).alloc (.cells #[.pointer (some ⟨b, 0, none⟩)] 23) := ⟨_, rfl⟩
              have HB4 : Hid (Below W.heap.size W w4) := Lib.hid (by rw [hw4]; exact (((Below.refl _ _).alloc (Nat.le_refl _) _).alloc (by simp) _).alloc (by simp; omega) _)
              have hs4 : w4.heap.size = W.heap.size + 3 := by rw [hw4]; simp
              have HE4 : Hid (Boxed w4 (W.heap.size + 2) 23 (.pointer (some ⟨b, 0, none⟩))) := Lib.hid (by rw [hw4]; exact bE)
              have HIv2 : Hid (EIv w b g N B13 W.heap.size (W.heap.size + 1) p a4 1 (elsI p N) A c [] w4) := Lib.hid (HE.out.next HB4.out (by rw [hw4]; exact (bI.alloc _).alloc _) (by rw [hw4]; exact bJ.alloc _))
              have hDlt : D < W.heap.size := (Array.getElem?_eq_some_iff.1 HK.out).1
              have HK4 : Hid (w4.heap[D]? = some (.deferred (some []))) := Lib.hid ((HB4.out.block D hDlt).trans HK.out)
              have hWs : w3.heap.size ≤ D := by simpa using hD
              have hbg : b < W.heap.size ∧ g < W.heap.size := HE.out.2.1.2.2.2.2.2.sizes
              have hb13W : B13 < W.heap.size := by obtain ⟨v, h3, _⟩ := HE.out.2.1.2.2.1; exact h3.lt
              have hresW : w.heap.size + 1 < W.heap.size := HE.out.2.1.2.2.2.1.lt
              have HZ2 : Hid (∀ z, (Value.slice A (elsI p N).length c).ownBlock = some z → z < W.heap.size + 1) := Lib.hid (fun z hz => by have := HZ.out z hz; omega)
              go_wp2_with fail
              rw [← hw4]
              clear hw4 bI bJ bE
              refine (wpIn_wide (n := 9)).1 ?_
              refine wpIn_rangeFunc_ownG rfl (by omega) (gf := 30) (lb := #[.pointer (some ⟨W.heap.size + 2, 0, none⟩)]) rfl trivial (enters_of Tryd.func30 (by kernel_rfl) rfl)
                (each_stops _ (W.heap.size + 2) b g N p _ HIv2.out.2.1.2.2.2.2.2 HE4.out (HT.out.below HIv2.out.2.2 HT.out.pos)) (fun h k => Kept.t h k) (Kept.b (by omega) (by omega) (by omega)) (Below.refl _ _) (fun _ => rfl)
                (fun pre V => EIv w b g N B13 W.heap.size (W.heap.size + 1) p a4 1 (elsI p N) A c pre V ∧ V.heap[D]? = some (.deferred (some [])))
                (fun cd pre V => cd = .ret ∧ ¬ pre <+: elsI p N)
                (OwnFrom.and (EIv.own (by omega)) (ownFrom_obj (by omega)))
                (fun cd s X Y row h hg hr => h)
                ⟨HIv2.out, HK4.out⟩ ?b1x4 ?assign2x4 ?body2x4 ?done2x4 ?stop2x4
              case assign2x4 =>
                intro l x W K hK
                gi_wp2
                exact hK
              case body2x4 =>
                rintro l pre x V ⟨hEI, hKD⟩ hlt
                have HEI := Lib.hid hEI
                have HKD := Lib.hid hKD
                obtain ⟨hpre, ⟨hb25, hb26, ⟨v, hb13, hown, rfl⟩, hres, hsto, hset⟩, hbw⟩ := hEI
                obtain ⟨ad, y, hA, had, hy, hcell⟩ := iv_at (Reads.of_own hown) hlt
                obtain ⟨q, hq⟩ : ∃ q, q = pre.length := ⟨_, rfl⟩
                obtain ⟨h, hh⟩ : ∃ h, h = (elsI p N).length := ⟨_, rfl⟩
                have hh2 : h ≤ 5000 := by rw [hh, elsI_len]; have := els_len p N; omega
                have hqh : q < h := by omega
                have c25 := hb25.cell
                have c26 := hb26.cell
                have f26 := hb26.frozen
                have c13 := hb13.cell
                have cS := hsto.cell
                have cR := hres.cell
                have fR := hres.frozen
                rw [hA, ← hh] at c13
                rw [← hq] at c26 hcell
                have HY := Lib.hid hy
                have HPRE := Lib.hid hpre
                have HQ := Lib.hid hq
                have u1 : decide ((h : Int) ≤ (q : Int)) = false := by simp; omega
                have u2 : decide (h ≤ q) = false := by simp; omega
                have q0 : (0 : Int) ≤ (q : Int) := by omega
                have q1 : (q : Int) < (h : Int) := by omega
                clear hpre hy hq hb25 hb26 hb13 hown hres hsto hset hbw hA hh hlt hKD
                by_cases hxy : y = x
                · have u3 : (y == x) = true := by simp [hxy]
                  have u4 : (y != x) = false := by simp [hxy]
                  have HPX : Hid (pre ++ [x] <+: elsI p N) := Lib.hid (pre_snoc HPRE.out (by rw [← hxy]; exact HY.out))
                  clear hxy
                  gi_wp2
                  exact ⟨(KeepsOthers.setCell _ _ _).from _, fun k hk => Below.heap_setCell _ _ _ k (by simp; omega), HEI.out.step HQ.out HPX.out (by omega) (by omega) (by omega) HZ2.out, (Below.heap_setCell _ _ _ D (by simp; omega)).trans HKD.out⟩
                · have u3 : (y == x) = false := beq_eq_false_iff_ne.2 hxy
                  have u4 : (y != x) = true := by rw [bne_iff_ne]; exact hxy
                  have HNX : Hid (¬ pre ++ [x] <+: elsI p N) := Lib.hid (pre_not HY.out hxy)
                  clear hxy
                  gi_wp2
                  exact ⟨(KeepsOthers.setCell _ _ _).from _, rfl, HNX.out⟩
              case done2x4 =>
                rintro D2 ys V hD2 rfl ⟨hE2, hKD⟩ hK2
                have hE2' := hE2
                obtain ⟨_, ⟨hb25, hb26, ⟨v, hb13, hown, rfl⟩, hres, hsto, hset⟩, hbw⟩ := hE2'
                have c25 := hb25.cell
                have f25 := hb25.frozen
                have c26 := hb26.cell
                have c13 := hb13.cell
                have cR := hres.cell
                have fR := hres.frozen
                obtain ⟨h, hh⟩ : ∃ h, h = (elsI p N).length := ⟨_, rfl⟩
                rw [← hh] at c26 c13
                have HV := Lib.hid hE2
                have HK2 := Lib.hid hK2
                have HKD := Lib.hid hKD
                have HRV := Lib.hid hres
                have hresV := hres.lt
                clear hb25 hb26 hb13 hown hres hsto hset hbw hh hE2 hK2 hKD
                go_wp2
                rw [rounds_succ]
                go_wp2
                obtain ⟨W2, W3, f1, f2, f3, f4⟩ := fin_two (P := Tryd.prog) (o := .cells #[.int .i64 2] 3) HRV.out (by omega) (by omega) HKD.out HK2.out HV.out.2.2 (by omega)
                refine ⟨by simp, .inl ⟨_, _, rfl, f1, ?_⟩⟩
                refine ⟨by simp, .inl ⟨_, _, rfl, f2, ?_⟩⟩
                refine ⟨_, ?_, rfl, f4⟩
                simp [results, Tryd.f5, go_sem, f3]
              case stop2x4 =>
                rintro D2 cd pre V hD2 hSp ⟨rfl, hnot⟩ hK2
                exact absurd hSp hnot

theorem contract (H : Type) (enc : TypeId × Value → H) (W : World) (base : Nat) (args : Array Value) (ds gs : List (DataW H)) (before : List MemPlace)
    (hval : ∀ (j : Nat) t v, Tryd.f5.params[j]? = some t → args[j]? = some v → Value.okWide Tryd.prog W .any base t v)
    (hW : DataW.Whole enc Tryd.prog Tryd.f5.params.toList Rows.bitsPlaysSpec.vars false W args.toList ds gs before) (hL : laidMetH Tryd.prog Rows.bitsPlaysRow.laid W) :
    Calls Tryd.prog 5 args W fun e W' => ∃ v, e = .returned v ∧ Rows.bitsPlaysSpec.post enc Tryd.prog Tryd.f5 false true false false W args v W' := by
  have hW' := hW
  obtain ⟨p, q, hA0, hV, rfl, hfz, hnd⟩ := hW
  have hA : DataW.TrodAll enc Tryd.prog W 0 (fun _ => true) true Tryd.f5.params.toList args.toList ds p := hA0
  rw [Tryd.params5] at hA hval
  obtain ⟨v0, vs0, d0, ds0, p0, q0, hargs, rfl, rfl, h0, r0⟩ := trodAll_cons hA
  obtain ⟨v1, vs1, d1, ds1, p1, q1, rfl, rfl, rfl, h1, r1⟩ := trodAll_cons r0
  obtain ⟨v2, vs2, d2, ds2, p2, q2, rfl, rfl, rfl, h2, r2⟩ := trodAll_cons r1
  obtain ⟨v3, vs3, d3, ds3, p3, q3, rfl, rfl, rfl, h3, r3⟩ := trodAll_cons r2
  obtain ⟨v4, vs4, d4, ds4, p4, q4, rfl, rfl, rfl, h4, r4⟩ := trodAll_cons r3
  obtain ⟨rfl, rfl, rfl⟩ := trodAll_nil r4
  obtain rfl : args = #[v0, v1, v2, v3, v4] := by cases args; simp_all
  obtain ⟨rfl, rfl⟩ := trodVars_none hV
  obtain ⟨a0, rfl, rfl, rfl, w0⟩ := open_int Tryd.underlying3 (hval 0 3 v0 rfl rfl) h0
  obtain ⟨a1, rfl, rfl, rfl, w1⟩ := open_int Tryd.underlying3 (hval 1 3 v1 rfl rfl) h1
  obtain ⟨A2, n2, c2, z2, rfl, hc2, hn2, hl2, hr2⟩ := open_dos (hval 2 33 v2 rfl rfl) h2
  obtain ⟨a3, rfl, rfl, rfl, w3⟩ := open_int Tryd.underlying3 (hval 3 3 v3 rfl rfl) h3
  obtain ⟨a4, rfl, rfl, rfl, w4⟩ := open_int Tryd.underlying3 (hval 4 3 v4 rfl rfl) h4
  clear hA0
  refine (walk W (bitsPlays_tab hL) a0 w0 a1 w1 A2 n2 c2 z2 hc2 hn2 hl2 hr2 a3 w3 a4 w4).mono fun e W' ⟨he, hg⟩ => ?_
  subst he
  exact ⟨_, rfl, post_law kids full (by rw [Tryd.params5]; decide +kernel) rfl hW' rfl rfl rfl hg (by kernel_rfl) Tryd.underlying4⟩

theorem reads (os : Os) {H : Type} (enc : TypeId × Value → H) : ∃ places, DataW.whole enc Tryd.prog ((laidWorld os).forCall (fun _ _ => 0) ⟨#[], #[.int .i64 0, .int .i64 0, .slice none 0 0, .int .i64 0, .int .i64 0], []⟩).memory Tryd.f5.params.toList Rows.bitsPlaysSpec.vars false #[.int .i64 0, .int .i64 0, .slice none 0 0, .int .i64 0, .int .i64 0].toList 8 = some ([.lit (.int .i64 0), .lit (.int .i64 0), .nil, .lit (.int .i64 0), .lit (.int .i64 0)], [], places) :=
  ⟨[], by kernel_rfl⟩

set_option maxRecDepth 100000 in
theorem lifted (os : Os) (started : os.Started) (H : Type) (enc : TypeId × Value → H) (F : Stop.Interp) :
    ReturnsInHanded {} Tryd.checked os 5 .any ((OpenSpec.ofChange Rows.bitsPlaysSpec).preRow enc Tryd.prog Tryd.f5 Rows.bitsPlaysRow.domain false Rows.bitsPlaysRow.laid) (((OpenSpec.ofChange Rows.bitsPlaysSpec).at F).post enc Tryd.prog Tryd.f5 false true false false) := by
  obtain ⟨places, hx⟩ := reads os enc
  refine returnsInHanded_of_row (C := Tryd.checked) (s := OpenSpec.ofChange Rows.bitsPlaysSpec) own started (by kernel_rfl) Tryd.func5
    (witness_row_atRef (enc := enc) (C := Tryd.checked) false (laidWorld os) #[.int .i64 0, .int .i64 0, .slice none 0 0, .int .i64 0, .int .i64 0] rfl (by kernel_rfl) (by kernel_rfl) (by kernel_rfl)
      (OpenSpec.preRow_of_cond 8 hx (by kernel_rfl) (fun k hk => by cases hk) (by kernel_rfl) (bitsPlays_met os _))) ?_
  intro W base args ds gs before hval hW _ _ _ hL _ _
  exact contract H enc W base args ds gs before hval hW hL

theorem said : Rows.BitsPlaysSaid :=
  OpenClaim.holds_of_cond 5 Tryd.f5 rfl rfl rfl rfl rfl rfl rfl ⟨rfl, rfl, rfl, rfl, rfl⟩ rfl rfl rfl rfl rfl (by kernel_rfl) Tryd.func5 (by kernel_rfl)
    (of_decide_eq_true (by kernel_rfl)) (by unfold Func.isWrapper; first | (rw [if_pos (by decide +kernel)]; kernel_rfl) | (rw [if_neg (by decide +kernel)]; exact ⟨rfl, rfl⟩))
    (fun os started H enc _ F => by rw [OpenClaim.pre_eq_preRow]; exact lifted os started H enc F)

theorem plain (f : FuncId) (fn : Func) (hf : Tryd.pinned.checked.prog.funcNamed "overdrive/overdrivelaw2.BitsPlays" = some f) (hfn : Tryd.pinned.checked.prog.funcs[f]? = some fn) :
    false = Tryd.pinned.checked.prog.looks [] ∧ ∀ (j : Nat) t, fn.params[j]? = some t → Tryd.pinned.checked.prog.wantsStandIn t = false := by
  obtain rfl : f = 5 := Option.some.inj ((show Tryd.prog.funcNamed "overdrive/overdrivelaw2.BitsPlays" = some 5 by kernel_rfl).symm.trans hf) |>.symm
  obtain rfl : fn = Tryd.f5 := (Option.some.inj (Tryd.func5.symm.trans hfn)).symm
  refine ⟨by kernel_rfl, fun j t ht => ?_⟩
  have hm := Array.mem_of_getElem? ht
  have hall : (Tryd.f5.params.toList.all fun t => Tryd.prog.wantsStandIn t == false) = true := by kernel_rfl
  have hw : Tryd.prog.wantsStandIn t = false := by simpa using List.all_eq_true.1 hall t (by simpa using hm)
  exact hw

theorem card : Rows.BitsPlaysCardSaid :=
  Claim7.holds_tied_plain_at .later [] _ _ _ _ said (fun _ h => by cases h) (by kernel_rfl) (fun _ h => by cases h) bitsPlays_row_tie rfl ⟨rfl, rfl⟩ (by kernel_rfl) rfl plain (by kernel_rfl)
#print axioms card
end Go.Proofs.YtcaoeoggabbekaaDoor.bitsPlays
